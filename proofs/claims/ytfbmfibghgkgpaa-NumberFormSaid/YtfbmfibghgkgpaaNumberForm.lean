/- The law NumberForm, walked. -/
import Derived.Test.YtfbmfibghgkgpaaNumQ
import Derived.Test.YtfbmfibghgkgpaaNumT
import Derived.Deep.RegionHeld3
namespace Go.Proofs.Ytfbmfibghgkgpaa
open Go.RowKit
set_option linter.unusedVariables false
set_option linter.unusedSimpArgs false

theorem float_b (s : ByteArray) (b : Bool) (w : World) (hs : s.size ≤ 140737488355328) (h : (floatP s.toList).isSome = b) :
    Calls Try.prog 11 #[.string s] w fun e w' => ∃ v, e = .returned (.tuple #[.float .f64 v, .bool b]) ∧ Below w.heap.size w w' := by
  subst h
  exact (float_all s w hs).mono fun e w' ⟨h1, h2⟩ => ⟨_, h1, h2⟩
/-- 'string([]byte{c})', in whatever world holds that byte. -/
theorem conv_byte {P : Program} {T E S : TypeId} (hT : P.underlying T = some (.slice E)) (hE : P.underlying E = some (.int .u8)) (hS : P.underlying S = some .string) (c : UInt8) :
    ∃ s : ByteArray, Hid (s.toList = [c]) ∧ s.size = 1 ∧ ∀ (w : World) (g : Nat), w.cell? ⟨g, 0, none⟩ = some (.int .u8 (c.toNat : Int)) → (convert T S (.slice (some ⟨g, 0, none⟩) 1 1)).run P w = .ok (.string s) w := by
  refine ⟨⟨[c].toArray⟩, Lib.hid (toList_mk _), rfl, fun w g hc => ?_⟩
  have := run_convert_bytes_arg (P := P) (w := w) T E hT hE g 0 1 1 [(c.toNat : Int)] rfl (fun i hi => by
    obtain rfl : i = 0 := by omega
    exact hc) S hS
  rw [this]; unfold strOfNums; simp

set_option maxRecDepth 100000 in
set_option maxHeartbeats 2000000 in
theorem numberForm_out (s : ByteArray) (p : Int) (c : Int) (w : World) (wp : (Lit.int .i64 p).wf = true) (hs : s.size ≤ 140737488355328) (hm : ML w) (hout : 50 < s.size ∨ (floatP s.toList).isSome = false ∨ p < 0 ∨ (s.size : Int) < p) :
    Calls Try.prog 7 #[.string s, .int .i64 p, .int .u8 c] w (RetB w true) := by
  have hB : Below w.heap.size w w := Below.refl _ _
  obtain ⟨b, hb⟩ : ∃ b, (floatP s.toList).isSome = b := ⟨_, rfl⟩
  have f0 := Lib.hid (fun w => float_b s b w hs hb)
  rw [hb] at hout
  replace hb := Lib.hid hb
  go_enter Try.func7, Try.ntmps7
  go_wp2_with fail
  refine (small04_any _ hm).mono ?_
  rintro e w1 ⟨rfl, hb⟩
  replace hB := hB.next hb
  clear hb
  go_wp2_with fail
  refine (f0.out _).mono ?_
  rintro e w2 ⟨v, rfl, hb⟩
  replace hB := hB.next hb
  clear hb
  by_cases h1 : 50 < s.size
  · have h1I : (50 : Int) < (s.size : Int) := by omega
    go_wp2_with fail
    go_ret
    exact ⟨rfl, hB⟩
  have h1I : (s.size : Int) ≤ 50 := by omega
  cases b
  · go_wp2_with fail
    go_ret
    exact ⟨rfl, hB⟩
  by_cases h2 : p < 0
  · go_wp2_with fail
    go_ret
    exact ⟨rfl, hB⟩
  have h3 : (s.size : Int) < p := by
    rcases hout with h | h | h | h
    · omega
    · cases h
    · omega
    · exact h
  go_wp2_with fail
  go_ret
  exact ⟨rfl, hB⟩
/-- What a sign is: in Int's words. -/
theorem okF_cases (c : UInt8) : (dig c = true ∧ (48 : Int) ≤ (c.toNat : Int) ∧ (c.toNat : Int) ≤ 57 ∧ ((c.toNat : Int) == 45) = false ∧ ((c.toNat : Int) != 45) = true) ∨ c = 46 ∨ c = 45 ∨ c = 43 ∨ c = 101 ∨ c = 69 ∨
    (okF c = false ∧ (c.toNat : Int) < 48 ∧ ((c.toNat : Int) == 46) = false ∧ ((c.toNat : Int) == 45) = false ∧ ((c.toNat : Int) == 43) = false ∧ ((c.toNat : Int) == 101) = false ∧ ((c.toNat : Int) == 69) = false) ∨
    (okF c = false ∧ 57 < (c.toNat : Int) ∧ ((c.toNat : Int) == 46) = false ∧ ((c.toNat : Int) == 45) = false ∧ ((c.toNat : Int) == 43) = false ∧ ((c.toNat : Int) == 101) = false ∧ ((c.toNat : Int) == 69) = false) := by
  have ne : ∀ {d : UInt8}, c ≠ d → ((c.toNat : Int) == (d.toNat : Int)) = false := fun {d} h => by
    simp only [beq_eq_false_iff_ne, ne_eq]
    intro h2; exact h (UInt8.toNat_inj.1 (by omega))
  by_cases hd : dig c = true
  · refine .inl ⟨hd, ?_⟩
    unfold dig at hd
    rw [Bool.and_eq_true, decide_eq_true_eq, decide_eq_true_eq] at hd
    exact ⟨by omega, by omega, bne_of (by omega)⟩
  by_cases h1 : c = 46; · exact .inr (.inl h1)
  by_cases h2 : c = 45; · exact .inr (.inr (.inl h2))
  by_cases h3 : c = 43; · exact .inr (.inr (.inr (.inl h3)))
  by_cases h4 : c = 101; · exact .inr (.inr (.inr (.inr (.inl h4))))
  by_cases h5 : c = 69; · exact .inr (.inr (.inr (.inr (.inr (.inl h5)))))
  have hk : okF c = false := by unfold okF; simp [hd, h1, h2, h3, h4, h5]
  have hr : c.toNat < 48 ∨ 57 < c.toNat := by
    by_cases h6 : c.toNat < 48
    · exact .inl h6
    · refine .inr ?_
      by_cases h7 : 57 < c.toNat
      · exact h7
      · exact absurd (by unfold dig; rw [Bool.and_eq_true, decide_eq_true_eq, decide_eq_true_eq]; omega) hd
  rcases hr with h6 | h6
  · exact .inr (.inr (.inr (.inr (.inr (.inr (.inl ⟨hk, by omega, ne h1, ne h2, ne h3, ne h4, ne h5⟩))))))
  · exact .inr (.inr (.inr (.inr (.inr (.inr (.inr ⟨hk, by omega, ne h1, ne h2, ne h3, ne h4, ne h5⟩))))))
theorem ins_toList {s t : ByteArray} {p : Nat} {c : UInt8} (ht : t.toList = [c]) : (s.extract 0 p ++ t ++ s.extract p s.size).toList = s.toList.take p ++ c :: s.toList.drop p := by
  rw [toList_append, toList_append, toList_extract, toList_from, ht]
  simp
set_option maxRecDepth 100000 in
set_option maxHeartbeats 2000000 in
theorem numberForm_in (s : ByteArray) (p : Nat) (c : UInt8) (w : World) (hm : ML w) (h50 : s.size ≤ 50) (his : (floatP s.toList).isSome = true) (hp : p ≤ s.size) :
    Calls Try.prog 7 #[.string s, .int .i64 (p : Int), .int .u8 (c.toNat : Int)] w (RetB w true) := by
  have hB : Below w.heap.size w w := Below.refl _ _
  have f0 := Lib.hid (fun w => float_b s true w (by omega) his)
  have h1I : (s.size : Int) ≤ 50 := by omega
  have hpI : (p : Int) ≤ (s.size : Int) := by omega
  have hz0 : 0 < s.size := by
    rcases Nat.eq_zero_or_pos s.size with h | h
    · have : s.toList = [] := (toList_empty_iff s).2 h
      rw [this] at his; exact absurd his (by decide)
    · exact h
  have hz0I : (0 : Int) < (s.size : Int) := by omega
  obtain ⟨c0, hc0⟩ : ∃ c0, s[0]'hz0 = c0 := ⟨_, rfl⟩
  have hsl : Hid (s.toList = c0 :: s.toList.drop 1) := Lib.hid (by have := drop_cons s 0 hz0; rw [List.drop_zero, hc0] at this; exact this)
  obtain ⟨t, ht, htz, hcv⟩ := conv_byte (P := Try.prog) (S := 9) Try.underlying33 Try.underlying5 Try.underlying9 c
  obtain ⟨a, ha⟩ : ∃ a, s.extract 0 p = a := ⟨_, rfl⟩
  obtain ⟨b, hb⟩ : ∃ b, s.extract p s.size = b := ⟨_, rfl⟩
  have haz : a.size ≤ 50 := by rw [← ha, ByteArray.size_extract]; omega
  have hbz : b.size ≤ 50 := by rw [← hb, ByteArray.size_extract]; omega
  obtain ⟨more, hmore⟩ : ∃ m, (floatP (s.toList.take p ++ c :: s.toList.drop p)).isSome = m := ⟨_, rfl⟩
  have fm := Lib.hid (fun w => float_b (a ++ t ++ b) more w (by rw [ByteArray.size_append, ByteArray.size_append]; omega) (by rw [← ha, ← hb, ins_toList ht.out]; exact hmore))
  have e1 : ¬ (9223372036854775807 < a.size + t.size) := by omega
  have e2 : ¬ (9223372036854775807 < a.size + t.size + b.size) := by omega
  have e1b : ¬ (9223372036854775807 < a.size + 1) := by omega
  have e2b : ¬ (9223372036854775807 < a.size + 1 + b.size) := by omega
  have e3 : ¬ (9223372036854775807 < 1 + s.size) := by omega
  have e4 : ¬ (9223372036854775807 < s.size + 1) := by omega
  have f2 : Hid (∀ w, Calls Try.prog 11 #[.string (⟨#[45]⟩ ++ s)] w fun e w' => ∃ v, e = .returned (.tuple #[.float .f64 v, .bool (!(c0 == 45))]) ∧ Below w.heap.size w w') := Lib.hid (fun w => float_b _ _ w (by rw [ByteArray.size_append]; show 1 + s.size ≤ _; omega) (by
    rw [toList_append, show (⟨#[45]⟩ : ByteArray).toList = [45] from toList_mk [45], hsl.out]
    rw [hsl.out] at his
    exact floatP_minus his))
  have f3 : Hid (∀ w, Calls Try.prog 11 #[.string (⟨#[43]⟩ ++ s)] w fun e w' => ∃ v, e = .returned (.tuple #[.float .f64 v, .bool false]) ∧ Below w.heap.size w w') := Lib.hid (fun w => float_b _ _ w (by rw [ByteArray.size_append]; show 1 + s.size ≤ _; omega) (by
    rw [toList_append, show (⟨#[43]⟩ : ByteArray).toList = [43] from toList_mk [43]]
    show (floatP (43 :: s.toList)).isSome = false
    rw [floatP_plus]; rfl))
  have f4 : Hid (∀ w, Calls Try.prog 11 #[.string (s ++ ⟨#[46]⟩)] w fun e w' => ∃ v, e = .returned (.tuple #[.float .f64 v, .bool false]) ∧ Below w.heap.size w w') := Lib.hid (fun w => float_b _ _ w (by rw [ByteArray.size_append]; show s.size + 1 ≤ _; omega) (by
    rw [toList_append, show (⟨#[46]⟩ : ByteArray).toList = [46] from toList_mk [46], floatP_end his]; rfl))
  have hno : Hid (okF c = false → more = false) := Lib.hid (fun hk => by
    rw [← hmore]
    cases hx : (floatP (s.toList.take p ++ c :: s.toList.drop p)).isSome
    · rfl
    · have := floatP_ok hx c (List.mem_append_right _ (List.mem_cons_self ..))
      rw [hk] at this; cases this)
  have hfr : Hid (c = 45 → p = 0 → more = !(c0 == 45)) := Lib.hid (fun h1 h2 => by
    subst h1; subst h2
    rw [← hmore]
    show (floatP (45 :: s.toList)).isSome = _
    rw [hsl.out]
    rw [hsl.out] at his
    exact floatP_minus his)
  have hcs : ((((c0.toNat : Int) == 45) = true ∧ ((c0.toNat : Int) != 45) = false) ∧ (!(c0 == 45)) = false) ∨ ((((c0.toNat : Int) == 45) = false ∧ ((c0.toNat : Int) != 45) = true) ∧ (!(c0 == 45)) = true) := by
    by_cases h : c0 = 45
    · exact .inl ⟨⟨by rw [h]; rfl, by rw [h]; rfl⟩, by rw [h]; rfl⟩
    · refine .inr ⟨bne_of ?_, by simp [h]⟩
      intro h2
      exact h (UInt8.toNat_inj.1 (by show c0.toNat = 45; omega))
  replace hmore := Lib.hid hmore
  replace his := Lib.hid his
  generalize (!(c0 == 45)) = tw at f2 hfr hcs
  go_enter Try.func7, Try.ntmps7
  go_wp2_with fail
  refine (small04_any _ hm).mono ?_
  rintro e w1 ⟨rfl, hb⟩
  replace hB := hB.next hb
  clear hb
  go_wp2_with fail
  refine (f0.out _).mono ?_
  rintro e w2 ⟨v, rfl, hb⟩
  replace hB := hB.next hb
  clear hb
  go_wp2_with fail
  refine wp_region_noPanic ?_
  refine wp_region_held_drew (S := fun w' => Below w.heap.size w w') (by kernel_rfl) (hB.drew) (fun hHeld => ?_)
  refine wpAnyH_take (i := 0) (v := ?_) rfl (by kernel_rfl) (by kernel_rfl) (by kernel_rfl) (fun _ _ _ h => h) (Or.inl ⟨by rfl, ?_⟩) hHeld ?_
  rotate_left
  · first | (intro w hSw; (try dsimp only at hSw); go_simp; done) | (intro w hSw; (try dsimp only at hSw); go_simp; with_reducible rfl)
  try simp only [Act.put, List.setIfInBounds_toArray, List.set_cons_zero, List.set_cons_succ]
  refine wpAnyH_take (i := 1) (v := ?_) rfl (by kernel_rfl) (by kernel_rfl) (by kernel_rfl) (fun _ _ _ h => h) (Or.inl ⟨by rfl, ?_⟩) hHeld ?_
  rotate_left
  · first | (intro w hSw; (try dsimp only at hSw); go_simp; done) | (intro w hSw; (try dsimp only at hSw); go_simp; with_reducible rfl)
  try simp only [Act.put, List.setIfInBounds_toArray, List.set_cons_zero, List.set_cons_succ]
  refine wpAnyH_take (i := 2) (v := ?_) rfl (by kernel_rfl) (by kernel_rfl) (by kernel_rfl) (fun _ _ _ h => h) (Or.inl ⟨by rfl, ?_⟩) hHeld ?_
  rotate_left
  · first | (intro w hSw; (try dsimp only at hSw); go_simp; done) | (intro w hSw; (try dsimp only at hSw); go_simp; with_reducible rfl)
  try simp only [Act.put, List.setIfInBounds_toArray, List.set_cons_zero, List.set_cons_succ]
  refine wpAnyH_take (i := 3) (v := ?_) rfl (by kernel_rfl) (by kernel_rfl) (by kernel_rfl) (fun _ _ _ h => h) (Or.inl ⟨by rfl, ?_⟩) hHeld ?_
  rotate_left
  · first | (intro w hSw; (try dsimp only at hSw); go_simp; done) | (intro w hSw; (try dsimp only at hSw); go_simp; with_reducible rfl)
  try simp only [Act.put, List.setIfInBounds_toArray, List.set_cons_zero, List.set_cons_succ]
  refine wpAnyH_take (i := 7) (v := ?_) rfl (by kernel_rfl) (by kernel_rfl) (by kernel_rfl) (fun _ _ _ h => h) (Or.inl ⟨by rfl, ?_⟩) hHeld ?_
  rotate_left
  · first | (intro w hSw; (try dsimp only at hSw); go_simp; done) | (intro w hSw; (try dsimp only at hSw); go_simp; with_reducible rfl)
  try simp only [Act.put, List.setIfInBounds_toArray, List.set_cons_zero, List.set_cons_succ]
  refine wpAnyH_take (i := 8) (v := ?_) rfl (by kernel_rfl) (by kernel_rfl) (by kernel_rfl) (fun _ _ _ h => h) (Or.inl ⟨by rfl, ?_⟩) hHeld ?_
  rotate_left
  · first | (intro w hSw; (try dsimp only at hSw); go_simp; done) | (intro w hSw; (try dsimp only at hSw); go_simp; with_reducible rfl)
  try simp only [Act.put, List.setIfInBounds_toArray, List.set_cons_zero, List.set_cons_succ]
  refine wpAnyH_take (i := 9) (v := ?_) rfl (by kernel_rfl) (by kernel_rfl) (by kernel_rfl) (fun _ _ _ h => h) (Or.inl ⟨by rfl, ?_⟩) hHeld ?_
  rotate_left
  · first | (intro w hSw; (try dsimp only at hSw); go_simp; done) | (intro w hSw; (try dsimp only at hSw); go_simp; with_reducible rfl)
  try simp only [Act.put, List.setIfInBounds_toArray, List.set_cons_zero, List.set_cons_succ]
  refine wpAnyH_ready (rs := [4]) (by kernel_rfl) (by simp) ?_
  refine AllReadyH.cons rfl (fun K hK => ?_) AllReadyH.nil
  go_simp
  refine hK.out _ _ (hHeld.alloc hHeld.size _) (fun hHeld => ?_)
  clear hK K
  try simp only [Act.put, List.setIfInBounds_toArray, List.set_cons_zero, List.set_cons_succ]
  refine wpAnyH_ready (rs := [5]) (by kernel_rfl) (by simp) ?_
  refine AllReadyH.cons rfl (fun K hK => ?_) AllReadyH.nil
  go_simp
  refine hK.out _ _ (hHeld) (fun hHeld => ?_)
  clear hK K
  try simp only [Act.put, List.setIfInBounds_toArray, List.set_cons_zero, List.set_cons_succ]
  refine wpAnyH_take (i := 6) (v := ?_) rfl (by kernel_rfl) (by kernel_rfl) (by kernel_rfl) (fun _ _ _ h => h) (Or.inl ⟨by rfl, ?_⟩) hHeld ?_
  rotate_left
  · first | (intro w hSw; (try dsimp only at hSw); go_simp; done) | (intro w hSw; (try dsimp only at hSw); go_simp; with_reducible rfl)
  try simp only [Act.put, List.setIfInBounds_toArray, List.set_cons_zero, List.set_cons_succ]
  refine wpAnyH_take (i := 10) (v := ?_) rfl (by kernel_rfl) (by kernel_rfl) (by kernel_rfl) (fun _ _ _ h => h) (Or.inl ⟨by rfl, ?_⟩) hHeld ?_
  rotate_left
  · first | (intro w hSw; (try dsimp only at hSw); go_simp; done) | (intro w hSw; (try dsimp only at hSw); go_simp; with_reducible rfl)
  try simp only [Act.put, List.setIfInBounds_toArray, List.set_cons_zero, List.set_cons_succ]
  refine wpAnyH_ready (rs := [11]) (by kernel_rfl) (by simp) ?_
  refine AllReadyH.cons rfl (fun K hK => ?_) AllReadyH.nil
  go_simp
  refine (fm.out _).mono ?_
  rintro e w3 ⟨v3, rfl, hb⟩
  replace hB := hHeld.next hb
  clear hb hHeld
  go_wp2_with fail
  refine hK.out _ _ (hB) (fun hHeld => ?_)
  clear hK K
  try simp only [Act.put, List.setIfInBounds_toArray, List.set_cons_zero, List.set_cons_succ]
  refine wpAnyH_take (i := 12) (v := ?_) rfl (by kernel_rfl) (by kernel_rfl) (by kernel_rfl) (fun _ _ _ h => h) (Or.inl ⟨by rfl, ?_⟩) hHeld ?_
  rotate_left
  · first | (intro w hSw; (try dsimp only at hSw); go_simp; done) | (intro w hSw; (try dsimp only at hSw); go_simp; with_reducible rfl)
  try simp only [Act.put, List.setIfInBounds_toArray, List.set_cons_zero, List.set_cons_succ]
  refine wpAnyH_take (i := 13) (v := ?_) rfl (by kernel_rfl) (by kernel_rfl) (by kernel_rfl) (fun _ _ _ h => h) (Or.inl ⟨by rfl, ?_⟩) hHeld ?_
  rotate_left
  · first | (intro w hSw; (try dsimp only at hSw); go_simp; done) | (intro w hSw; (try dsimp only at hSw); go_simp; with_reducible rfl)
  try simp only [Act.put, List.setIfInBounds_toArray, List.set_cons_zero, List.set_cons_succ]
  refine wpAnyH_take (i := 14) (v := ?_) rfl (by kernel_rfl) (by kernel_rfl) (by kernel_rfl) (fun _ _ _ h => h) (Or.inl ⟨by rfl, ?_⟩) hHeld ?_
  rotate_left
  · first | (intro w hSw; (try dsimp only at hSw); go_simp; done) | (intro w hSw; (try dsimp only at hSw); go_simp; with_reducible rfl)
  try simp only [Act.put, List.setIfInBounds_toArray, List.set_cons_zero, List.set_cons_succ]
  refine wpAnyH_take (i := 15) (v := ?_) rfl (by kernel_rfl) (by kernel_rfl) (by kernel_rfl) (fun _ _ _ h => h) (Or.inl ⟨by rfl, ?_⟩) hHeld ?_
  rotate_left
  · first | (intro w hSw; (try dsimp only at hSw); go_simp; done) | (intro w hSw; (try dsimp only at hSw); go_simp; with_reducible rfl)
  try simp only [Act.put, List.setIfInBounds_toArray, List.set_cons_zero, List.set_cons_succ]
  refine wpAnyH_take (i := 16) (v := ?_) rfl (by kernel_rfl) (by kernel_rfl) (by kernel_rfl) (fun _ _ _ h => h) (Or.inl ⟨by rfl, ?_⟩) hHeld ?_
  rotate_left
  · first | (intro w hSw; (try dsimp only at hSw); go_simp; done) | (intro w hSw; (try dsimp only at hSw); go_simp; with_reducible rfl)
  try simp only [Act.put, List.setIfInBounds_toArray, List.set_cons_zero, List.set_cons_succ]
  refine wpAnyH_done (by kernel_rfl) ?_ _
  refine NoPanic.normal ?_
  have hcase := okF_cases c
  replace hcv := Lib.hid hcv
  rcases hcase with ⟨hd, g2, g3, g4, g4b⟩ | rfl | rfl | rfl | rfl | rfl | ⟨hk, g2, g3, g4, g5, g6, g7⟩ | ⟨hk, g2, g3, g4, g5, g6, g7⟩
  · replace hd := Lib.hid hd
    go_wp2_with fail
    refine (f2.out _).mono ?_
    rintro e x2 ⟨y2, rfl, hb⟩
    replace hB := hB.next hb
    clear hb
    go_wp2_with fail
    refine (f3.out _).mono ?_
    rintro e x3 ⟨y3, rfl, hb⟩
    replace hB := hB.next hb
    clear hb
    go_wp2_with fail
    refine (f4.out _).mono ?_
    rintro e x4 ⟨y4, rfl, hb⟩
    replace hB := hB.next hb
    clear hb
    rcases hcs with ⟨⟨g1, g1b⟩, rfl⟩ | ⟨⟨g1, g1b⟩, rfl⟩
    all_goals
      go_wp2_with fail
      go_ret
      exact ⟨rfl, hB⟩
  · go_wp2_with fail
    refine (f2.out _).mono ?_
    rintro e x2 ⟨y2, rfl, hb⟩
    replace hB := hB.next hb
    clear hb
    go_wp2_with fail
    refine (f3.out _).mono ?_
    rintro e x3 ⟨y3, rfl, hb⟩
    replace hB := hB.next hb
    clear hb
    go_wp2_with fail
    refine (f4.out _).mono ?_
    rintro e x4 ⟨y4, rfl, hb⟩
    replace hB := hB.next hb
    clear hb
    rcases hcs with ⟨⟨g1, g1b⟩, rfl⟩ | ⟨⟨g1, g1b⟩, rfl⟩
    all_goals
      go_wp2_with fail
      go_ret
      exact ⟨rfl, hB⟩
  · go_wp2_with fail
    refine (f2.out _).mono ?_
    rintro e x2 ⟨y2, rfl, hb⟩
    replace hB := hB.next hb
    clear hb
    go_wp2_with fail
    refine (f3.out _).mono ?_
    rintro e x3 ⟨y3, rfl, hb⟩
    replace hB := hB.next hb
    clear hb
    go_wp2_with fail
    refine (f4.out _).mono ?_
    rintro e x4 ⟨y4, rfl, hb⟩
    replace hB := hB.next hb
    clear hb
    by_cases hp0 : p = 0
    · have hfr2 := Lib.hid (hfr.out (by first | trivial | rfl) hp0)
      subst hp0
      obtain rfl := hfr2.out
      rcases hcs with ⟨⟨g1, g1b⟩, rfl⟩ | ⟨⟨g1, g1b⟩, rfl⟩
      all_goals
        go_wp2_with fail
        go_ret
        exact ⟨rfl, hB⟩
    · have hpp : (0 : Int) < (p : Int) := by omega
      rcases hcs with ⟨⟨g1, g1b⟩, rfl⟩ | ⟨⟨g1, g1b⟩, rfl⟩
      all_goals
        go_wp2_with fail
        go_ret
        exact ⟨rfl, hB⟩
  · go_wp2_with fail
    refine (f2.out _).mono ?_
    rintro e x2 ⟨y2, rfl, hb⟩
    replace hB := hB.next hb
    clear hb
    go_wp2_with fail
    refine (f3.out _).mono ?_
    rintro e x3 ⟨y3, rfl, hb⟩
    replace hB := hB.next hb
    clear hb
    go_wp2_with fail
    refine (f4.out _).mono ?_
    rintro e x4 ⟨y4, rfl, hb⟩
    replace hB := hB.next hb
    clear hb
    rcases hcs with ⟨⟨g1, g1b⟩, rfl⟩ | ⟨⟨g1, g1b⟩, rfl⟩
    all_goals
      go_wp2_with fail
      go_ret
      exact ⟨rfl, hB⟩
  · go_wp2_with fail
    refine (f2.out _).mono ?_
    rintro e x2 ⟨y2, rfl, hb⟩
    replace hB := hB.next hb
    clear hb
    go_wp2_with fail
    refine (f3.out _).mono ?_
    rintro e x3 ⟨y3, rfl, hb⟩
    replace hB := hB.next hb
    clear hb
    go_wp2_with fail
    refine (f4.out _).mono ?_
    rintro e x4 ⟨y4, rfl, hb⟩
    replace hB := hB.next hb
    clear hb
    rcases hcs with ⟨⟨g1, g1b⟩, rfl⟩ | ⟨⟨g1, g1b⟩, rfl⟩
    all_goals
      go_wp2_with fail
      go_ret
      exact ⟨rfl, hB⟩
  · go_wp2_with fail
    refine (f2.out _).mono ?_
    rintro e x2 ⟨y2, rfl, hb⟩
    replace hB := hB.next hb
    clear hb
    go_wp2_with fail
    refine (f3.out _).mono ?_
    rintro e x3 ⟨y3, rfl, hb⟩
    replace hB := hB.next hb
    clear hb
    go_wp2_with fail
    refine (f4.out _).mono ?_
    rintro e x4 ⟨y4, rfl, hb⟩
    replace hB := hB.next hb
    clear hb
    rcases hcs with ⟨⟨g1, g1b⟩, rfl⟩ | ⟨⟨g1, g1b⟩, rfl⟩
    all_goals
      go_wp2_with fail
      go_ret
      exact ⟨rfl, hB⟩
  · obtain rfl := hno.out hk
    replace hk := Lib.hid hk
    go_wp2_with fail
    go_ret
    exact ⟨rfl, hB⟩
  · obtain rfl := hno.out hk
    replace hk := Lib.hid hk
    go_wp2_with fail
    go_ret
    exact ⟨rfl, hB⟩
theorem numberForm_walk (s : ByteArray) (p c : Int) (w : World) (hs : s.size ≤ 140737488351232) (wp : (Lit.int .i64 p).wf = true) (wc : (Lit.int .u8 c).wf = true) (hm : ML w) :
    Calls Try.prog 7 #[.string s, .int .i64 p, .int .u8 c] w (RetB w true) := by
  by_cases hout : 50 < s.size ∨ (floatP s.toList).isSome = false ∨ p < 0 ∨ (s.size : Int) < p
  · exact numberForm_out s p c w wp (Nat.le_trans hs (by decide)) hm hout
  · obtain ⟨a, rfl⟩ : ∃ a : Nat, p = (a : Int) := ⟨p.toNat, by omega⟩
    have hb := bounds_u8 wc
    obtain ⟨b, rfl⟩ : ∃ b : UInt8, c = (b.toNat : Int) := ⟨UInt8.ofNat c.toNat, by rw [UInt8.toNat_ofNat_of_lt' (by show c.toNat < 256; omega)]; omega⟩
    refine numberForm_in s a b w hm (by omega) ?_ (by omega)
    cases h : (floatP s.toList).isSome
    · exact absurd (.inr (.inl h)) hout
    · rfl
end Go.Proofs.Ytfbmfibghgkgpaa
