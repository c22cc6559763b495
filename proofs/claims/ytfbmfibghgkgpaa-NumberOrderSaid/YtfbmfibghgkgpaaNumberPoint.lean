/- The law NumberPoint, walked. -/
import Derived.Test.YtfbmfibghgkgpaaNumP
import Derived.Deep.RegionHeld3
namespace Go.Proofs.Ytfbmfibghgkgpaa
open Go.RowKit
set_option linter.unusedVariables false
set_option linter.unusedSimpArgs false

theorem point_text1 {n k p : Nat} (neg : Bool) (hl : (dgl k n).length ≤ 15) (hp : p < (dgl k n).length) :
    floatP (signL neg ++ (dgl k n).take p ++ [46] ++ (dgl k n).drop p) = some (neg, n, -(((dgl k n).length - p : Nat) : Int)) := by
  have ht := ten_dgl k n
  have hd : ((dgl k n).drop p).length = (dgl k n).length - p := List.length_drop ..
  have hn := digs1_dgl k n
  have h := floatQ_form (n := n) (m := 0) (ten_take ht p) (ten_drop ht p) (by rw [List.take_append_drop]; exact hn) (by rw [List.length_take, hd]; omega) true
    (fun _ h => by rw [h] at hd; simp at hd; omega) (fun h => by cases h) [] (.inl ⟨rfl, rfl⟩) (by rw [hd]; omega) (by rw [hd]; omega)
  rw [List.append_nil, hd, show (0 : Int) - (((dgl k n).length - p : Nat) : Int) = -(((dgl k n).length - p : Nat) : Int) by omega] at h
  have := floatP_signed neg (head_ten (ten_take ht p) (b := 46 :: (dgl k n).drop p) (fun h => absurd (Option.some.inj h) (by decide))) h
  rw [← this]
  congr 1
  rw [List.append_assoc, List.append_assoc]; rfl
theorem point_text2 {n k r : Nat} (neg : Bool) (hl : (dgl k n).length ≤ 15) (hr : r ≤ 15) :
    floatP (signL neg ++ dgl k n ++ [101, 45] ++ dgl 0 r) = some (neg, n, -(r : Int)) := by
  have ht := ten_dgl k n
  have hn := digs1_dgl k n
  have h := floatQ_form (n := n) (b := []) (m := -(r : Int)) ht (fun c hc => by cases hc) (by rw [List.append_nil]; exact hn) (by simpa using hl) false
    (fun h => by cases h) (fun h => rfl) (101 :: 45 :: dgl 0 r) (.inr ⟨101, _, rfl, .inl rfl, expoV_minus (by have := dgl_len2 (k := 0) (n := r) (by omega); omega)⟩) (by simp; omega) (by simp)
  rw [show (-(r : Int) - (([] : List UInt8).length : Int)) = -(r : Int) by simp] at h
  have := floatP_signed neg (by rw [List.append_assoc]; exact head_ten ht (b := 101 :: 45 :: dgl 0 r) (fun h => absurd (Option.some.inj h) (by decide))) h
  rw [← this]
  congr 1
  show signL neg ++ dgl k n ++ [101, 45] ++ dgl 0 r = signL neg ++ (dgl k n ++ [] ++ 101 :: 45 :: dgl 0 r)
  simp
theorem point_text3 {n k p : Nat} (neg : Bool) (hl : (dgl k n).length ≤ 15) (hp : p < (dgl k n).length) :
    floatP (signL neg ++ (dgl k n).take p ++ [46] ++ (dgl k n).drop p ++ [69, 43] ++ dgl 2 ((dgl k n).length - p)) = some (neg, n, 0) := by
  have ht := ten_dgl k n
  have hd : ((dgl k n).drop p).length = (dgl k n).length - p := List.length_drop ..
  have hn := digs1_dgl k n
  have h := floatQ_form (n := n) (m := (((dgl k n).length - p : Nat) : Int)) (ten_take ht p) (ten_drop ht p) (by rw [List.take_append_drop]; exact hn) (by rw [List.length_take, hd]; omega) true
    (fun _ h => by rw [h] at hd; simp at hd; omega) (fun h => by cases h) (69 :: 43 :: dgl 2 ((dgl k n).length - p))
    (.inr ⟨69, _, rfl, .inr rfl, expoV_plus (by have := dgl_len2 (k := 2) (n := (dgl k n).length - p) (by omega); omega)⟩) (by rw [hd]; omega) (by rw [hd]; omega)
  rw [hd, Int.sub_self] at h
  have := floatP_signed neg (by rw [List.append_assoc]; exact head_ten (ten_take ht p) (b := 46 :: ((dgl k n).drop p ++ 69 :: 43 :: dgl 2 ((dgl k n).length - p))) (fun h => absurd (Option.some.inj h) (by decide))) h
  rw [← this]
  congr 1
  unfold pointed
  simp
theorem m0 : (⟨#[]⟩ : ByteArray).toList = signL false := toList_mk []
theorem m45 : (⟨#[45]⟩ : ByteArray).toList = signL true := toList_mk [45]
theorem m46 : (⟨#[46]⟩ : ByteArray).toList = [46] := toList_mk [46]
theorem mE : (⟨#[69, 43]⟩ : ByteArray).toList = [69, 43] := toList_mk [69, 43]
theorem me : (⟨#[101, 45]⟩ : ByteArray).toList = [101, 45] := toList_mk [101, 45]
theorem ascii_sign (neg : Bool) : AsciiL (signL neg) := by
  cases neg
  · intro c hc; cases hc
  · intro c hc; obtain rfl : c = 45 := by simpa [signL] using hc
    decide
theorem ascii_lits {l : List UInt8} (h : l.all (fun c => decide (c.toNat < 128)) = true) : AsciiL l := fun c hc => of_decide_eq_true (List.all_eq_true.1 h c hc)

set_option maxRecDepth 100000 in
set_option maxHeartbeats 1000000 in
theorem numberPoint_in0 (n k p : Nat) (w : World) (hm : ML w) (hn : n < 9223372036854775808) (hk : k ≤ 12) (hl : (dgl k n).length ≤ 15) (hp : p < (dgl k n).length) :
    Calls Try.prog 5 #[.int .i64 (n : Int), .int .i64 (k : Int), .int .i64 (p : Int), .bool false] w (RetB w true) := by
  have hB : Below w.heap.size w w := Below.refl _ _
  have hkI : (k : Int) ≤ 12 := by omega
  have hn15 : n < 10 ^ 15 := Nat.lt_of_lt_of_le (digs1_le (digs1_dgl k n)) (Nat.pow_le_pow_right (by decide) hl)
  have h53 : n < 2 ^ 53 := Nat.lt_trans hn15 (by decide)
  have hdn := Lib.hid (fun w => numDigits_any n k w hn (by omega))
  have hdr := Lib.hid (fun w => numDigits_any ((dgl k n).length - p) 0 w (by omega) (by decide))
  have hdr2 := Lib.hid (fun w => numDigits_any ((dgl k n).length - p) 2 w (by omega) (by decide))
  go_enter Try.func5, Try.ntmps5
  go_wp2_with fail
  refine (small04_any _ hm).mono ?_
  rintro e w1 ⟨rfl, hb⟩
  replace hB := hB.next hb
  clear hb
  go_wp2_with fail
  refine (hdn.out _).mono ?_
  rintro e w2 ⟨s, rfl, hs, hb⟩
  replace hB := hB.next hb
  clear hb
  have hz : Hid (s.size = (dgl k n).length) := Lib.hid (by rw [← size_toList, hs.out]; rfl)
  have hsI : (s.size : Int) ≤ 15 := by have := hz.out; omega
  have hpI : (p : Int) < (s.size : Int) := by have := hz.out; omega
  have hpp : p ≤ s.size := by omega
  obtain ⟨a, ha⟩ : ∃ a, s.extract 0 p = a := ⟨_, rfl⟩
  obtain ⟨b, hb⟩ : ∃ b, s.extract p s.size = b := ⟨_, rfl⟩
  obtain ⟨r, hrr⟩ : ∃ r, Hid ((dgl k n).length - p = r) := ⟨_, Lib.hid rfl⟩
  rw [hrr.out] at hdr hdr2
  have e3 : IntKind.i64.wrap ((s.size : Int) - (p : Int)) = (r : Int) := by rw [IntWalk.i64_in _ (by omega)]; have := hz.out; have := hrr.out; omega
  have hal : Hid (a.toList = (dgl k n).take p) := Lib.hid (by rw [← ha, toList_extract, hs.out]; rfl)
  have hbl : Hid (b.toList = (dgl k n).drop p) := Lib.hid (by rw [← hb, toList_from, hs.out]; rfl)
  have haz : a.size ≤ 15 := by rw [← size_toList, hal.out, List.length_take]; omega
  have hbz : b.size ≤ 15 := by rw [← size_toList, hbl.out, List.length_drop]; omega
  have hr15 : r ≤ 15 := by have := hrr.out; omega
  have hun : ∀ v : Nat, Op.unary .neg (.float .f64 v) = (pure (.float .f64 (Op.negFloat .f64 v)) : Sem Value) := fun v => rfl
  have hna : Hid (NoNaN (floatW (false, n, -(r : Int)))) := Lib.hid (noNaN_floatW h53 (by omega) (by omega))
  have hnb : Hid (NoNaN ((floatOfInt .f64 (n : Int)))) := Lib.hid (noNaN_floatW h53 (neg := false) (k := 0) (by decide) (by decide) |> (fun h => by rw [floatW_whole h53] at h; exact h))
  have f1 := Lib.hid (fun w hm => float_yes (⟨#[]⟩ ++ a ++ ⟨#[46]⟩ ++ b) (false, n, -(r : Int)) _ w (by simp only [ByteArray.size_append]; show 0 + a.size + 1 + b.size ≤ _; omega) hm
    (by simp only [toList_append, hal.out, hbl.out, m46, m0, m45]; exact (((ascii_sign false).append (ten_ascii (ten_take (ten_dgl k n) p))).append (ascii_lits (l := [46]) (by decide))).append (ten_ascii (ten_drop (ten_dgl k n) p)))
    (by simp only [toList_append, hal.out, hbl.out, m46, m0, m45]; have := point_text1 (n := n) (k := k) (p := p) false hl hp; rw [hrr.out] at this; exact this) rfl)
  have e0 : ¬ (9223372036854775807 < a.size) := by omega
  have e1 : ¬ (9223372036854775807 < a.size + 1) := by omega
  have e2 : ¬ (9223372036854775807 < a.size + 1 + b.size) := by omega
  have e6 : ¬ (9223372036854775807 < a.size + 1 + b.size + 2) := by omega
  have g0 : ¬ (9223372036854775807 < s.size) := by omega
  have g1 : ¬ (9223372036854775807 < s.size + 2) := by omega
  go_wp2_with fail
  refine wp_region_noPanic ?_
  refine wp_region_held_drew (S := fun w' => Below w.heap.size w w') (by kernel_rfl) (hB.drew) (fun hHeld => ?_)
  refine wpAnyH_take (i := 0) (v := ?_) rfl (by kernel_rfl) (by kernel_rfl) (by kernel_rfl) (fun _ _ _ h => h) (Or.inl ⟨by rfl, ?_⟩) hHeld ?_
  rotate_left
  · first | (intro w hSw; (try dsimp only at hSw); go_simp; done) | (intro w hSw; (try dsimp only at hSw); go_simp; with_reducible rfl)
  try simp only [Act.put, List.setIfInBounds_toArray, List.set_cons_zero, List.set_cons_succ]
  refine wpAnyH_take (i := 1) (v := ?_) rfl (by kernel_rfl) (by kernel_rfl) (by kernel_rfl) (fun _ _ _ h => h) (Or.inl ⟨by rfl, ?_⟩) hHeld ?_
  rotate_left
  · first | (intro w hSw; (try dsimp only at hSw); go_simp; done) | (intro w hSw; (try dsimp only at hSw); go_simp; with_reducible rfl)
  try simp only [Act.put, List.setIfInBounds_toArray, List.set_cons_zero, List.set_cons_succ]
  refine wpAnyH_take (i := 2) (v := ?_) rfl (by kernel_rfl) (by kernel_rfl) (by kernel_rfl) (fun _ _ _ h => h) (Or.inl ⟨by rfl, ?_⟩) hHeld ?_
  rotate_left
  · first | (intro w hSw; (try dsimp only at hSw); go_simp; done) | (intro w hSw; (try dsimp only at hSw); go_simp; with_reducible rfl)
  try simp only [Act.put, List.setIfInBounds_toArray, List.set_cons_zero, List.set_cons_succ]
  refine wpAnyH_take (i := 3) (v := ?_) rfl (by kernel_rfl) (by kernel_rfl) (by kernel_rfl) (fun _ _ _ h => h) (Or.inl ⟨by rfl, ?_⟩) hHeld ?_
  rotate_left
  · first | (intro w hSw; (try dsimp only at hSw); go_simp; done) | (intro w hSw; (try dsimp only at hSw); go_simp; with_reducible rfl)
  try simp only [Act.put, List.setIfInBounds_toArray, List.set_cons_zero, List.set_cons_succ]
  refine wpAnyH_take (i := 4) (v := ?_) rfl (by kernel_rfl) (by kernel_rfl) (by kernel_rfl) (fun _ _ _ h => h) (Or.inl ⟨by rfl, ?_⟩) hHeld ?_
  rotate_left
  · first | (intro w hSw; (try dsimp only at hSw); go_simp; done) | (intro w hSw; (try dsimp only at hSw); go_simp; with_reducible rfl)
  try simp only [Act.put, List.setIfInBounds_toArray, List.set_cons_zero, List.set_cons_succ]
  refine wpAnyH_take (i := 5) (v := ?_) rfl (by kernel_rfl) (by kernel_rfl) (by kernel_rfl) (fun _ _ _ h => h) (Or.inl ⟨by rfl, ?_⟩) hHeld ?_
  rotate_left
  · first | (intro w hSw; (try dsimp only at hSw); go_simp; done) | (intro w hSw; (try dsimp only at hSw); go_simp; with_reducible rfl)
  try simp only [Act.put, List.setIfInBounds_toArray, List.set_cons_zero, List.set_cons_succ]
  refine wpAnyH_take (i := 6) (v := ?_) rfl (by kernel_rfl) (by kernel_rfl) (by kernel_rfl) (fun _ _ _ h => h) (Or.inl ⟨by rfl, ?_⟩) hHeld ?_
  rotate_left
  · first | (intro w hSw; (try dsimp only at hSw); go_simp; done) | (intro w hSw; (try dsimp only at hSw); go_simp; with_reducible rfl)
  try simp only [Act.put, List.setIfInBounds_toArray, List.set_cons_zero, List.set_cons_succ]
  refine wpAnyH_take (i := 7) (v := ?_) rfl (by kernel_rfl) (by kernel_rfl) (by kernel_rfl) (fun _ _ _ h => h) (Or.inl ⟨by rfl, ?_⟩) hHeld ?_
  rotate_left
  · first | (intro w hSw; (try dsimp only at hSw); go_simp; done) | (intro w hSw; (try dsimp only at hSw); go_simp; with_reducible rfl)
  try simp only [Act.put, List.setIfInBounds_toArray, List.set_cons_zero, List.set_cons_succ]
  refine wpAnyH_take (i := 8) (v := ?_) rfl (by kernel_rfl) (by kernel_rfl) (by kernel_rfl) (fun _ _ _ h => h) (Or.inl ⟨by rfl, ?_⟩) hHeld ?_
  rotate_left
  · first | (intro w hSw; (try dsimp only at hSw); go_simp; done) | (intro w hSw; (try dsimp only at hSw); go_simp; with_reducible rfl)
  try simp only [Act.put, List.setIfInBounds_toArray, List.set_cons_zero, List.set_cons_succ]
  refine wpAnyH_take (i := 9) (v := ?_) rfl (by kernel_rfl) (by kernel_rfl) (by kernel_rfl) (fun _ _ _ h => h) (Or.inl ⟨by rfl, ?_⟩) hHeld ?_
  rotate_left
  · first | (intro w hSw; (try dsimp only at hSw); go_simp; done) | (intro w hSw; (try dsimp only at hSw); go_simp; with_reducible rfl)
  try simp only [Act.put, List.setIfInBounds_toArray, List.set_cons_zero, List.set_cons_succ]
  refine wpAnyH_ready (rs := [10]) (by kernel_rfl) (by simp) ?_
  refine AllReadyH.cons rfl (fun K hK => ?_) AllReadyH.nil
  go_simp
  refine (f1.out _ (hm.next hHeld)).mono ?_
  rintro e w3 ⟨rfl, hb⟩
  replace hB := hHeld.next hb
  clear hb hHeld
  go_wp2_with fail
  refine hK.out _ _ (hB) (fun hHeld => ?_)
  clear hK K
  try simp only [Act.put, List.setIfInBounds_toArray, List.set_cons_zero, List.set_cons_succ]
  refine wpAnyH_take (i := 11) (v := ?_) rfl (by kernel_rfl) (by kernel_rfl) (by kernel_rfl) (fun _ _ _ h => h) (Or.inl ⟨by rfl, ?_⟩) hHeld ?_
  rotate_left
  · first | (intro w hSw; (try dsimp only at hSw); go_simp; done) | (intro w hSw; (try dsimp only at hSw); go_simp; with_reducible rfl)
  try simp only [Act.put, List.setIfInBounds_toArray, List.set_cons_zero, List.set_cons_succ]
  refine wpAnyH_take (i := 12) (v := ?_) rfl (by kernel_rfl) (by kernel_rfl) (by kernel_rfl) (fun _ _ _ h => h) (Or.inl ⟨by rfl, ?_⟩) hHeld ?_
  rotate_left
  · first | (intro w hSw; (try dsimp only at hSw); go_simp; done) | (intro w hSw; (try dsimp only at hSw); go_simp; with_reducible rfl)
  try simp only [Act.put, List.setIfInBounds_toArray, List.set_cons_zero, List.set_cons_succ]
  refine wpAnyH_take (i := 13) (v := ?_) rfl (by kernel_rfl) (by kernel_rfl) (by kernel_rfl) (fun _ _ _ h => h) (Or.inl ⟨by rfl, ?_⟩) hHeld ?_
  rotate_left
  · first | (intro w hSw; (try dsimp only at hSw); go_simp; done) | (intro w hSw; (try dsimp only at hSw); go_simp; with_reducible rfl)
  try simp only [Act.put, List.setIfInBounds_toArray, List.set_cons_zero, List.set_cons_succ]
  refine wpAnyH_take (i := 14) (v := ?_) rfl (by kernel_rfl) (by kernel_rfl) (by kernel_rfl) (fun _ _ _ h => h) (Or.inl ⟨by rfl, ?_⟩) hHeld ?_
  rotate_left
  · first | (intro w hSw; (try dsimp only at hSw); go_simp; done) | (intro w hSw; (try dsimp only at hSw); go_simp; with_reducible rfl)
  try simp only [Act.put, List.setIfInBounds_toArray, List.set_cons_zero, List.set_cons_succ]
  refine wpAnyH_take (i := 15) (v := ?_) rfl (by kernel_rfl) (by kernel_rfl) (by kernel_rfl) (fun _ _ _ h => h) (Or.inl ⟨by rfl, ?_⟩) hHeld ?_
  rotate_left
  · first | (intro w hSw; (try dsimp only at hSw); go_simp; done) | (intro w hSw; (try dsimp only at hSw); go_simp; with_reducible rfl)
  try simp only [Act.put, List.setIfInBounds_toArray, List.set_cons_zero, List.set_cons_succ]
  refine wpAnyH_done (by kernel_rfl) ?_ _
  refine NoPanic.normal ?_
  go_wp2_with fail
  refine (hdr.out _).mono ?_
  rintro e w4 ⟨t, rfl, ht, hb⟩
  replace hB := hB.next hb
  clear hb
  have htz : t.size ≤ 2 := by rw [← size_toList, ht.out]; have := dgl_len2 (k := 0) (n := r) (by omega); simpa [dgl] using this
  have g2 : ¬ (9223372036854775807 < s.size + 2 + t.size) := by omega
  have f2 := Lib.hid (fun w hm => float_yes (⟨#[]⟩ ++ s ++ ⟨#[101, 45]⟩ ++ t) (false, n, -(r : Int)) _ w (by simp only [ByteArray.size_append]; show 0 + s.size + 2 + t.size ≤ _; omega) hm
    (by simp only [toList_append, hs.out, ht.out, me, m0, m45]; exact (((ascii_sign false).append (ten_ascii (ten_dgl k n))).append (ascii_lits (l := [101, 45]) (by decide))).append (ten_ascii (ten_dgl 0 r)))
    (by simp only [toList_append, hs.out, ht.out, me, m0, m45]; exact point_text2 (n := n) (k := k) (r := r) false hl hr15) rfl)
  go_wp2_with fail
  refine (f2.out _ (hm.next hB)).mono ?_
  rintro e w5 ⟨rfl, hb⟩
  replace hB := hB.next hb
  clear hb
  go_wp2_with fail
  refine wp_region_noPanic ?_
  refine wp_region_held_drew (S := fun w' => Below w.heap.size w w') (by kernel_rfl) (hB.drew) (fun hHeld => ?_)
  refine wpAnyH_take (i := 0) (v := ?_) rfl (by kernel_rfl) (by kernel_rfl) (by kernel_rfl) (fun _ _ _ h => h) (Or.inl ⟨by rfl, ?_⟩) hHeld ?_
  rotate_left
  · first | (intro w hSw; (try dsimp only at hSw); go_simp; done) | (intro w hSw; (try dsimp only at hSw); go_simp; with_reducible rfl)
  try simp only [Act.put, List.setIfInBounds_toArray, List.set_cons_zero, List.set_cons_succ]
  refine wpAnyH_take (i := 1) (v := ?_) rfl (by kernel_rfl) (by kernel_rfl) (by kernel_rfl) (fun _ _ _ h => h) (Or.inl ⟨by rfl, ?_⟩) hHeld ?_
  rotate_left
  · first | (intro w hSw; (try dsimp only at hSw); go_simp; done) | (intro w hSw; (try dsimp only at hSw); go_simp; with_reducible rfl)
  try simp only [Act.put, List.setIfInBounds_toArray, List.set_cons_zero, List.set_cons_succ]
  refine wpAnyH_take (i := 2) (v := ?_) rfl (by kernel_rfl) (by kernel_rfl) (by kernel_rfl) (fun _ _ _ h => h) (Or.inl ⟨by rfl, ?_⟩) hHeld ?_
  rotate_left
  · first | (intro w hSw; (try dsimp only at hSw); go_simp; done) | (intro w hSw; (try dsimp only at hSw); go_simp; with_reducible rfl)
  try simp only [Act.put, List.setIfInBounds_toArray, List.set_cons_zero, List.set_cons_succ]
  refine wpAnyH_take (i := 3) (v := ?_) rfl (by kernel_rfl) (by kernel_rfl) (by kernel_rfl) (fun _ _ _ h => h) (Or.inl ⟨by rfl, ?_⟩) hHeld ?_
  rotate_left
  · first | (intro w hSw; (try dsimp only at hSw); go_simp; done) | (intro w hSw; (try dsimp only at hSw); go_simp; with_reducible rfl)
  try simp only [Act.put, List.setIfInBounds_toArray, List.set_cons_zero, List.set_cons_succ]
  refine wpAnyH_take (i := 4) (v := ?_) rfl (by kernel_rfl) (by kernel_rfl) (by kernel_rfl) (fun _ _ _ h => h) (Or.inl ⟨by rfl, ?_⟩) hHeld ?_
  rotate_left
  · first | (intro w hSw; (try dsimp only at hSw); go_simp; done) | (intro w hSw; (try dsimp only at hSw); go_simp; with_reducible rfl)
  try simp only [Act.put, List.setIfInBounds_toArray, List.set_cons_zero, List.set_cons_succ]
  refine wpAnyH_take (i := 5) (v := ?_) rfl (by kernel_rfl) (by kernel_rfl) (by kernel_rfl) (fun _ _ _ h => h) (Or.inl ⟨by rfl, ?_⟩) hHeld ?_
  rotate_left
  · first | (intro w hSw; (try dsimp only at hSw); go_simp; done) | (intro w hSw; (try dsimp only at hSw); go_simp; with_reducible rfl)
  try simp only [Act.put, List.setIfInBounds_toArray, List.set_cons_zero, List.set_cons_succ]
  refine wpAnyH_take (i := 6) (v := ?_) rfl (by kernel_rfl) (by kernel_rfl) (by kernel_rfl) (fun _ _ _ h => h) (Or.inl ⟨by rfl, ?_⟩) hHeld ?_
  rotate_left
  · first | (intro w hSw; (try dsimp only at hSw); go_simp; done) | (intro w hSw; (try dsimp only at hSw); go_simp; with_reducible rfl)
  try simp only [Act.put, List.setIfInBounds_toArray, List.set_cons_zero, List.set_cons_succ]
  refine wpAnyH_take (i := 7) (v := ?_) rfl (by kernel_rfl) (by kernel_rfl) (by kernel_rfl) (fun _ _ _ h => h) (Or.inl ⟨by rfl, ?_⟩) hHeld ?_
  rotate_left
  · first | (intro w hSw; (try dsimp only at hSw); go_simp; done) | (intro w hSw; (try dsimp only at hSw); go_simp; with_reducible rfl)
  try simp only [Act.put, List.setIfInBounds_toArray, List.set_cons_zero, List.set_cons_succ]
  refine wpAnyH_take (i := 8) (v := ?_) rfl (by kernel_rfl) (by kernel_rfl) (by kernel_rfl) (fun _ _ _ h => h) (Or.inl ⟨by rfl, ?_⟩) hHeld ?_
  rotate_left
  · first | (intro w hSw; (try dsimp only at hSw); go_simp; done) | (intro w hSw; (try dsimp only at hSw); go_simp; with_reducible rfl)
  try simp only [Act.put, List.setIfInBounds_toArray, List.set_cons_zero, List.set_cons_succ]
  refine wpAnyH_take (i := 9) (v := ?_) rfl (by kernel_rfl) (by kernel_rfl) (by kernel_rfl) (fun _ _ _ h => h) (Or.inl ⟨by rfl, ?_⟩) hHeld ?_
  rotate_left
  · first | (intro w hSw; (try dsimp only at hSw); go_simp; done) | (intro w hSw; (try dsimp only at hSw); go_simp; with_reducible rfl)
  try simp only [Act.put, List.setIfInBounds_toArray, List.set_cons_zero, List.set_cons_succ]
  refine wpAnyH_take (i := 10) (v := ?_) rfl (by kernel_rfl) (by kernel_rfl) (by kernel_rfl) (fun _ _ _ h => h) (Or.inl ⟨by rfl, ?_⟩) hHeld ?_
  rotate_left
  · first | (intro w hSw; (try dsimp only at hSw); go_simp; done) | (intro w hSw; (try dsimp only at hSw); go_simp; with_reducible rfl)
  try simp only [Act.put, List.setIfInBounds_toArray, List.set_cons_zero, List.set_cons_succ]
  refine wpAnyH_take (i := 11) (v := ?_) rfl (by kernel_rfl) (by kernel_rfl) (by kernel_rfl) (fun _ _ _ h => h) (Or.inl ⟨by rfl, ?_⟩) hHeld ?_
  rotate_left
  · first | (intro w hSw; (try dsimp only at hSw); go_simp; done) | (intro w hSw; (try dsimp only at hSw); go_simp; with_reducible rfl)
  try simp only [Act.put, List.setIfInBounds_toArray, List.set_cons_zero, List.set_cons_succ]
  refine wpAnyH_take (i := 12) (v := ?_) rfl (by kernel_rfl) (by kernel_rfl) (by kernel_rfl) (fun _ _ _ h => h) (Or.inl ⟨by rfl, ?_⟩) hHeld ?_
  rotate_left
  · first | (intro w hSw; (try dsimp only at hSw); go_simp; done) | (intro w hSw; (try dsimp only at hSw); go_simp; with_reducible rfl)
  try simp only [Act.put, List.setIfInBounds_toArray, List.set_cons_zero, List.set_cons_succ]
  refine wpAnyH_take (i := 13) (v := ?_) rfl (by kernel_rfl) (by kernel_rfl) (by kernel_rfl) (fun _ _ _ h => h) (Or.inl ⟨by rfl, ?_⟩) hHeld ?_
  rotate_left
  · first | (intro w hSw; (try dsimp only at hSw); go_simp; done) | (intro w hSw; (try dsimp only at hSw); go_simp; with_reducible rfl)
  try simp only [Act.put, List.setIfInBounds_toArray, List.set_cons_zero, List.set_cons_succ]
  refine wpAnyH_take (i := 14) (v := ?_) rfl (by kernel_rfl) (by kernel_rfl) (by kernel_rfl) (fun _ _ _ h => h) (Or.inl ⟨by rfl, ?_⟩) hHeld ?_
  rotate_left
  · first | (intro w hSw; (try dsimp only at hSw); go_simp; done) | (intro w hSw; (try dsimp only at hSw); go_simp; with_reducible rfl)
  try simp only [Act.put, List.setIfInBounds_toArray, List.set_cons_zero, List.set_cons_succ]
  refine wpAnyH_ready (rs := [15]) (by kernel_rfl) (by simp) ?_
  refine AllReadyH.cons rfl (fun K hK => ?_) AllReadyH.nil
  go_simp
  refine (hdr2.out _).mono ?_
  rintro e w6 ⟨u, rfl, hu, hb⟩
  replace hB := hHeld.next hb
  clear hb hHeld
  have huz : u.size ≤ 4 := by rw [← size_toList, hu.out]; have := dgl_len2 (k := 2) (n := r) (by omega); simpa [dgl] using this
  have e7 : ¬ (9223372036854775807 < a.size + 1 + b.size + 2 + u.size) := by omega
  have f3 := Lib.hid (fun w hm => float_yes (⟨#[]⟩ ++ a ++ ⟨#[46]⟩ ++ b ++ ⟨#[69, 43]⟩ ++ u) (false, n, 0) (floatOfInt .f64 (n : Int)) w (by simp only [ByteArray.size_append]; show 0 + a.size + 1 + b.size + 2 + u.size ≤ _; omega) hm
    (by simp only [toList_append, hal.out, hbl.out, hu.out, m46, mE, m0, m45]; exact ((((((ascii_sign false).append (ten_ascii (ten_take (ten_dgl k n) p))).append (ascii_lits (l := [46]) (by decide))).append (ten_ascii (ten_drop (ten_dgl k n) p))).append (ascii_lits (l := [69, 43]) (by decide))).append (ten_ascii (ten_dgl 2 r))))
    (by simp only [toList_append, hal.out, hbl.out, hu.out, m46, mE, m0, m45]; have := point_text3 (n := n) (k := k) (p := p) false hl hp; rw [hrr.out] at this; exact this) (floatW_whole h53))
  go_wp2_with fail
  refine hK.out _ _ (hB) (fun hHeld => ?_)
  clear hK K
  try simp only [Act.put, List.setIfInBounds_toArray, List.set_cons_zero, List.set_cons_succ]
  refine wpAnyH_take (i := 16) (v := ?_) rfl (by kernel_rfl) (by kernel_rfl) (by kernel_rfl) (fun _ _ _ h => h) (Or.inl ⟨by rfl, ?_⟩) hHeld ?_
  rotate_left
  · first | (intro w hSw; (try dsimp only at hSw); go_simp; done) | (intro w hSw; (try dsimp only at hSw); go_simp; with_reducible rfl)
  try simp only [Act.put, List.setIfInBounds_toArray, List.set_cons_zero, List.set_cons_succ]
  refine wpAnyH_ready (rs := [17]) (by kernel_rfl) (by simp) ?_
  refine AllReadyH.cons rfl (fun K hK => ?_) AllReadyH.nil
  go_simp
  refine (f3.out _ (hm.next hHeld)).mono ?_
  rintro e w7 ⟨rfl, hb⟩
  replace hB := hHeld.next hb
  clear hb hHeld
  go_wp2_with fail
  refine hK.out _ _ (hB) (fun hHeld => ?_)
  clear hK K
  try simp only [Act.put, List.setIfInBounds_toArray, List.set_cons_zero, List.set_cons_succ]
  refine wpAnyH_take (i := 18) (v := ?_) rfl (by kernel_rfl) (by kernel_rfl) (by kernel_rfl) (fun _ _ _ h => h) (Or.inl ⟨by rfl, ?_⟩) hHeld ?_
  rotate_left
  · first | (intro w hSw; (try dsimp only at hSw); go_simp; done) | (intro w hSw; (try dsimp only at hSw); go_simp; with_reducible rfl)
  try simp only [Act.put, List.setIfInBounds_toArray, List.set_cons_zero, List.set_cons_succ]
  refine wpAnyH_take (i := 19) (v := ?_) rfl (by kernel_rfl) (by kernel_rfl) (by kernel_rfl) (fun _ _ _ h => h) (Or.inl ⟨by rfl, ?_⟩) hHeld ?_
  rotate_left
  · first | (intro w hSw; (try dsimp only at hSw); go_simp; done) | (intro w hSw; (try dsimp only at hSw); go_simp; with_reducible rfl)
  try simp only [Act.put, List.setIfInBounds_toArray, List.set_cons_zero, List.set_cons_succ]
  refine wpAnyH_take (i := 20) (v := ?_) rfl (by kernel_rfl) (by kernel_rfl) (by kernel_rfl) (fun _ _ _ h => h) (Or.inl ⟨by rfl, ?_⟩) hHeld ?_
  rotate_left
  · first | (intro w hSw; (try dsimp only at hSw); go_simp; done) | (intro w hSw; (try dsimp only at hSw); go_simp; with_reducible rfl)
  try simp only [Act.put, List.setIfInBounds_toArray, List.set_cons_zero, List.set_cons_succ]
  refine wpAnyH_take (i := 21) (v := ?_) rfl (by kernel_rfl) (by kernel_rfl) (by kernel_rfl) (fun _ _ _ h => h) (Or.inl ⟨by rfl, ?_⟩) hHeld ?_
  rotate_left
  · first | (intro w hSw; (try dsimp only at hSw); go_simp; done) | (intro w hSw; (try dsimp only at hSw); go_simp; with_reducible rfl)
  try simp only [Act.put, List.setIfInBounds_toArray, List.set_cons_zero, List.set_cons_succ]
  refine wpAnyH_take (i := 22) (v := ?_) rfl (by kernel_rfl) (by kernel_rfl) (by kernel_rfl) (fun _ _ _ h => h) (Or.inl ⟨by rfl, ?_⟩) hHeld ?_
  rotate_left
  · first | (intro w hSw; (try dsimp only at hSw); go_simp; done) | (intro w hSw; (try dsimp only at hSw); go_simp; with_reducible rfl)
  try simp only [Act.put, List.setIfInBounds_toArray, List.set_cons_zero, List.set_cons_succ]
  refine wpAnyH_done (by kernel_rfl) ?_ _
  refine NoPanic.normal ?_
  go_wp2_with fail
  refine (alike_same _ _ hna.out).mono ?_
  rintro e wx ⟨rfl, rfl⟩
  go_wp2_with fail
  refine (alike_same _ _ hnb.out).mono ?_
  rintro e wx ⟨rfl, rfl⟩
  go_wp2_with fail
  go_ret
  exact ⟨rfl, hB⟩
set_option maxRecDepth 100000 in
set_option maxHeartbeats 1000000 in
theorem numberPoint_in1 (n k p : Nat) (w : World) (hm : ML w) (hn : n < 9223372036854775808) (hk : k ≤ 12) (hl : (dgl k n).length ≤ 15) (hp : p < (dgl k n).length) (h0 : n = 0) :
    Calls Try.prog 5 #[.int .i64 (n : Int), .int .i64 (k : Int), .int .i64 (p : Int), .bool true] w (RetB w true) := by
  have hB : Below w.heap.size w w := Below.refl _ _
  have hkI : (k : Int) ≤ 12 := by omega
  have hn15 : n < 10 ^ 15 := Nat.lt_of_lt_of_le (digs1_le (digs1_dgl k n)) (Nat.pow_le_pow_right (by decide) hl)
  have h53 : n < 2 ^ 53 := Nat.lt_trans hn15 (by decide)
  have hdn := Lib.hid (fun w => numDigits_any n k w hn (by omega))
  have hdr := Lib.hid (fun w => numDigits_any ((dgl k n).length - p) 0 w (by omega) (by decide))
  have hdr2 := Lib.hid (fun w => numDigits_any ((dgl k n).length - p) 2 w (by omega) (by decide))
  have hz0 : (0 : Int) ≤ (n : Int) := by omega
  have h0I : ¬ (0 : Int) < (n : Int) := by omega
  have hfw : floatW (true, n, 0) = floatOfInt .f64 (n : Int) := by rw [h0]; exact floatW_zero
  obtain ⟨z, hzz⟩ : ∃ z : Int, (n : Int) = z := ⟨_, rfl⟩
  rw [hzz] at hdn hz0 h0I hfw ⊢
  replace h0 := Lib.hid h0
  replace hfw := Lib.hid hfw
  replace hzz := Lib.hid hzz
  go_enter Try.func5, Try.ntmps5
  go_wp2_with fail
  refine (small04_any _ hm).mono ?_
  rintro e w1 ⟨rfl, hb⟩
  replace hB := hB.next hb
  clear hb
  go_wp2_with fail
  refine (hdn.out _).mono ?_
  rintro e w2 ⟨s, rfl, hs, hb⟩
  replace hB := hB.next hb
  clear hb
  have hz : Hid (s.size = (dgl k n).length) := Lib.hid (by rw [← size_toList, hs.out]; rfl)
  have hsI : (s.size : Int) ≤ 15 := by have := hz.out; omega
  have hpI : (p : Int) < (s.size : Int) := by have := hz.out; omega
  have hpp : p ≤ s.size := by omega
  obtain ⟨a, ha⟩ : ∃ a, s.extract 0 p = a := ⟨_, rfl⟩
  obtain ⟨b, hb⟩ : ∃ b, s.extract p s.size = b := ⟨_, rfl⟩
  obtain ⟨r, hrr⟩ : ∃ r, Hid ((dgl k n).length - p = r) := ⟨_, Lib.hid rfl⟩
  rw [hrr.out] at hdr hdr2
  have e3 : IntKind.i64.wrap ((s.size : Int) - (p : Int)) = (r : Int) := by rw [IntWalk.i64_in _ (by omega)]; have := hz.out; have := hrr.out; omega
  have hal : Hid (a.toList = (dgl k n).take p) := Lib.hid (by rw [← ha, toList_extract, hs.out]; rfl)
  have hbl : Hid (b.toList = (dgl k n).drop p) := Lib.hid (by rw [← hb, toList_from, hs.out]; rfl)
  have haz : a.size ≤ 15 := by rw [← size_toList, hal.out, List.length_take]; omega
  have hbz : b.size ≤ 15 := by rw [← size_toList, hbl.out, List.length_drop]; omega
  have hr15 : r ≤ 15 := by have := hrr.out; omega
  have hun : ∀ v : Nat, Op.unary .neg (.float .f64 v) = (pure (.float .f64 (Op.negFloat .f64 v)) : Sem Value) := fun v => rfl
  have hna : Hid (NoNaN (floatW (true, n, -(r : Int)))) := Lib.hid (noNaN_floatW h53 (by omega) (by omega))
  have hnb : Hid (NoNaN ((floatOfInt .f64 z))) := Lib.hid (noNaN_floatW h53 (neg := true) (k := 0) (by decide) (by decide) |> (fun h => by rw [hfw.out] at h; exact h))
  have f1 := Lib.hid (fun w hm => float_yes (⟨#[45]⟩ ++ a ++ ⟨#[46]⟩ ++ b) (true, n, -(r : Int)) _ w (by simp only [ByteArray.size_append]; show 1 + a.size + 1 + b.size ≤ _; omega) hm
    (by simp only [toList_append, hal.out, hbl.out, m46, m0, m45]; exact (((ascii_sign true).append (ten_ascii (ten_take (ten_dgl k n) p))).append (ascii_lits (l := [46]) (by decide))).append (ten_ascii (ten_drop (ten_dgl k n) p)))
    (by simp only [toList_append, hal.out, hbl.out, m46, m0, m45]; have := point_text1 (n := n) (k := k) (p := p) true hl hp; rw [hrr.out] at this; exact this) rfl)
  have e0 : ¬ (9223372036854775807 < 1 + a.size) := by omega
  have e1 : ¬ (9223372036854775807 < 1 + a.size + 1) := by omega
  have e2 : ¬ (9223372036854775807 < 1 + a.size + 1 + b.size) := by omega
  have e6 : ¬ (9223372036854775807 < 1 + a.size + 1 + b.size + 2) := by omega
  have g0 : ¬ (9223372036854775807 < 1 + s.size) := by omega
  have g1 : ¬ (9223372036854775807 < 1 + s.size + 2) := by omega
  go_wp2_with fail
  refine wp_region_noPanic ?_
  refine wp_region_held_drew (S := fun w' => Below w.heap.size w w') (by kernel_rfl) (hB.drew) (fun hHeld => ?_)
  refine wpAnyH_take (i := 0) (v := ?_) rfl (by kernel_rfl) (by kernel_rfl) (by kernel_rfl) (fun _ _ _ h => h) (Or.inl ⟨by rfl, ?_⟩) hHeld ?_
  rotate_left
  · first | (intro w hSw; (try dsimp only at hSw); go_simp; done) | (intro w hSw; (try dsimp only at hSw); go_simp; with_reducible rfl)
  try simp only [Act.put, List.setIfInBounds_toArray, List.set_cons_zero, List.set_cons_succ]
  refine wpAnyH_take (i := 1) (v := ?_) rfl (by kernel_rfl) (by kernel_rfl) (by kernel_rfl) (fun _ _ _ h => h) (Or.inl ⟨by rfl, ?_⟩) hHeld ?_
  rotate_left
  · first | (intro w hSw; (try dsimp only at hSw); go_simp; done) | (intro w hSw; (try dsimp only at hSw); go_simp; with_reducible rfl)
  try simp only [Act.put, List.setIfInBounds_toArray, List.set_cons_zero, List.set_cons_succ]
  refine wpAnyH_take (i := 2) (v := ?_) rfl (by kernel_rfl) (by kernel_rfl) (by kernel_rfl) (fun _ _ _ h => h) (Or.inl ⟨by rfl, ?_⟩) hHeld ?_
  rotate_left
  · first | (intro w hSw; (try dsimp only at hSw); go_simp; done) | (intro w hSw; (try dsimp only at hSw); go_simp; with_reducible rfl)
  try simp only [Act.put, List.setIfInBounds_toArray, List.set_cons_zero, List.set_cons_succ]
  refine wpAnyH_take (i := 3) (v := ?_) rfl (by kernel_rfl) (by kernel_rfl) (by kernel_rfl) (fun _ _ _ h => h) (Or.inl ⟨by rfl, ?_⟩) hHeld ?_
  rotate_left
  · first | (intro w hSw; (try dsimp only at hSw); go_simp; done) | (intro w hSw; (try dsimp only at hSw); go_simp; with_reducible rfl)
  try simp only [Act.put, List.setIfInBounds_toArray, List.set_cons_zero, List.set_cons_succ]
  refine wpAnyH_take (i := 4) (v := ?_) rfl (by kernel_rfl) (by kernel_rfl) (by kernel_rfl) (fun _ _ _ h => h) (Or.inl ⟨by rfl, ?_⟩) hHeld ?_
  rotate_left
  · first | (intro w hSw; (try dsimp only at hSw); go_simp; done) | (intro w hSw; (try dsimp only at hSw); go_simp; with_reducible rfl)
  try simp only [Act.put, List.setIfInBounds_toArray, List.set_cons_zero, List.set_cons_succ]
  refine wpAnyH_take (i := 5) (v := ?_) rfl (by kernel_rfl) (by kernel_rfl) (by kernel_rfl) (fun _ _ _ h => h) (Or.inl ⟨by rfl, ?_⟩) hHeld ?_
  rotate_left
  · first | (intro w hSw; (try dsimp only at hSw); go_simp; done) | (intro w hSw; (try dsimp only at hSw); go_simp; with_reducible rfl)
  try simp only [Act.put, List.setIfInBounds_toArray, List.set_cons_zero, List.set_cons_succ]
  refine wpAnyH_take (i := 6) (v := ?_) rfl (by kernel_rfl) (by kernel_rfl) (by kernel_rfl) (fun _ _ _ h => h) (Or.inl ⟨by rfl, ?_⟩) hHeld ?_
  rotate_left
  · first | (intro w hSw; (try dsimp only at hSw); go_simp; done) | (intro w hSw; (try dsimp only at hSw); go_simp; with_reducible rfl)
  try simp only [Act.put, List.setIfInBounds_toArray, List.set_cons_zero, List.set_cons_succ]
  refine wpAnyH_take (i := 7) (v := ?_) rfl (by kernel_rfl) (by kernel_rfl) (by kernel_rfl) (fun _ _ _ h => h) (Or.inl ⟨by rfl, ?_⟩) hHeld ?_
  rotate_left
  · first | (intro w hSw; (try dsimp only at hSw); go_simp; done) | (intro w hSw; (try dsimp only at hSw); go_simp; with_reducible rfl)
  try simp only [Act.put, List.setIfInBounds_toArray, List.set_cons_zero, List.set_cons_succ]
  refine wpAnyH_take (i := 8) (v := ?_) rfl (by kernel_rfl) (by kernel_rfl) (by kernel_rfl) (fun _ _ _ h => h) (Or.inl ⟨by rfl, ?_⟩) hHeld ?_
  rotate_left
  · first | (intro w hSw; (try dsimp only at hSw); go_simp; done) | (intro w hSw; (try dsimp only at hSw); go_simp; with_reducible rfl)
  try simp only [Act.put, List.setIfInBounds_toArray, List.set_cons_zero, List.set_cons_succ]
  refine wpAnyH_take (i := 9) (v := ?_) rfl (by kernel_rfl) (by kernel_rfl) (by kernel_rfl) (fun _ _ _ h => h) (Or.inl ⟨by rfl, ?_⟩) hHeld ?_
  rotate_left
  · first | (intro w hSw; (try dsimp only at hSw); go_simp; done) | (intro w hSw; (try dsimp only at hSw); go_simp; with_reducible rfl)
  try simp only [Act.put, List.setIfInBounds_toArray, List.set_cons_zero, List.set_cons_succ]
  refine wpAnyH_ready (rs := [10]) (by kernel_rfl) (by simp) ?_
  refine AllReadyH.cons rfl (fun K hK => ?_) AllReadyH.nil
  go_simp
  refine (f1.out _ (hm.next hHeld)).mono ?_
  rintro e w3 ⟨rfl, hb⟩
  replace hB := hHeld.next hb
  clear hb hHeld
  go_wp2_with fail
  refine hK.out _ _ (hB) (fun hHeld => ?_)
  clear hK K
  try simp only [Act.put, List.setIfInBounds_toArray, List.set_cons_zero, List.set_cons_succ]
  refine wpAnyH_take (i := 11) (v := ?_) rfl (by kernel_rfl) (by kernel_rfl) (by kernel_rfl) (fun _ _ _ h => h) (Or.inl ⟨by rfl, ?_⟩) hHeld ?_
  rotate_left
  · first | (intro w hSw; (try dsimp only at hSw); go_simp; done) | (intro w hSw; (try dsimp only at hSw); go_simp; with_reducible rfl)
  try simp only [Act.put, List.setIfInBounds_toArray, List.set_cons_zero, List.set_cons_succ]
  refine wpAnyH_take (i := 12) (v := ?_) rfl (by kernel_rfl) (by kernel_rfl) (by kernel_rfl) (fun _ _ _ h => h) (Or.inl ⟨by rfl, ?_⟩) hHeld ?_
  rotate_left
  · first | (intro w hSw; (try dsimp only at hSw); go_simp; done) | (intro w hSw; (try dsimp only at hSw); go_simp; with_reducible rfl)
  try simp only [Act.put, List.setIfInBounds_toArray, List.set_cons_zero, List.set_cons_succ]
  refine wpAnyH_take (i := 13) (v := ?_) rfl (by kernel_rfl) (by kernel_rfl) (by kernel_rfl) (fun _ _ _ h => h) (Or.inl ⟨by rfl, ?_⟩) hHeld ?_
  rotate_left
  · first | (intro w hSw; (try dsimp only at hSw); go_simp; done) | (intro w hSw; (try dsimp only at hSw); go_simp; with_reducible rfl)
  try simp only [Act.put, List.setIfInBounds_toArray, List.set_cons_zero, List.set_cons_succ]
  refine wpAnyH_take (i := 14) (v := ?_) rfl (by kernel_rfl) (by kernel_rfl) (by kernel_rfl) (fun _ _ _ h => h) (Or.inl ⟨by rfl, ?_⟩) hHeld ?_
  rotate_left
  · first | (intro w hSw; (try dsimp only at hSw); go_simp; done) | (intro w hSw; (try dsimp only at hSw); go_simp; with_reducible rfl)
  try simp only [Act.put, List.setIfInBounds_toArray, List.set_cons_zero, List.set_cons_succ]
  refine wpAnyH_take (i := 15) (v := ?_) rfl (by kernel_rfl) (by kernel_rfl) (by kernel_rfl) (fun _ _ _ h => h) (Or.inl ⟨by rfl, ?_⟩) hHeld ?_
  rotate_left
  · first | (intro w hSw; (try dsimp only at hSw); go_simp; done) | (intro w hSw; (try dsimp only at hSw); go_simp; with_reducible rfl)
  try simp only [Act.put, List.setIfInBounds_toArray, List.set_cons_zero, List.set_cons_succ]
  refine wpAnyH_done (by kernel_rfl) ?_ _
  refine NoPanic.normal ?_
  go_wp2_with fail
  refine (hdr.out _).mono ?_
  rintro e w4 ⟨t, rfl, ht, hb⟩
  replace hB := hB.next hb
  clear hb
  have htz : t.size ≤ 2 := by rw [← size_toList, ht.out]; have := dgl_len2 (k := 0) (n := r) (by omega); simpa [dgl] using this
  have g2 : ¬ (9223372036854775807 < 1 + s.size + 2 + t.size) := by omega
  have f2 := Lib.hid (fun w hm => float_yes (⟨#[45]⟩ ++ s ++ ⟨#[101, 45]⟩ ++ t) (true, n, -(r : Int)) _ w (by simp only [ByteArray.size_append]; show 1 + s.size + 2 + t.size ≤ _; omega) hm
    (by simp only [toList_append, hs.out, ht.out, me, m0, m45]; exact (((ascii_sign true).append (ten_ascii (ten_dgl k n))).append (ascii_lits (l := [101, 45]) (by decide))).append (ten_ascii (ten_dgl 0 r)))
    (by simp only [toList_append, hs.out, ht.out, me, m0, m45]; exact point_text2 (n := n) (k := k) (r := r) true hl hr15) rfl)
  go_wp2_with fail
  refine (f2.out _ (hm.next hB)).mono ?_
  rintro e w5 ⟨rfl, hb⟩
  replace hB := hB.next hb
  clear hb
  go_wp2_with fail
  refine wp_region_noPanic ?_
  refine wp_region_held_drew (S := fun w' => Below w.heap.size w w') (by kernel_rfl) (hB.drew) (fun hHeld => ?_)
  refine wpAnyH_take (i := 0) (v := ?_) rfl (by kernel_rfl) (by kernel_rfl) (by kernel_rfl) (fun _ _ _ h => h) (Or.inl ⟨by rfl, ?_⟩) hHeld ?_
  rotate_left
  · first | (intro w hSw; (try dsimp only at hSw); go_simp; done) | (intro w hSw; (try dsimp only at hSw); go_simp; with_reducible rfl)
  try simp only [Act.put, List.setIfInBounds_toArray, List.set_cons_zero, List.set_cons_succ]
  refine wpAnyH_take (i := 1) (v := ?_) rfl (by kernel_rfl) (by kernel_rfl) (by kernel_rfl) (fun _ _ _ h => h) (Or.inl ⟨by rfl, ?_⟩) hHeld ?_
  rotate_left
  · first | (intro w hSw; (try dsimp only at hSw); go_simp; done) | (intro w hSw; (try dsimp only at hSw); go_simp; with_reducible rfl)
  try simp only [Act.put, List.setIfInBounds_toArray, List.set_cons_zero, List.set_cons_succ]
  refine wpAnyH_take (i := 2) (v := ?_) rfl (by kernel_rfl) (by kernel_rfl) (by kernel_rfl) (fun _ _ _ h => h) (Or.inl ⟨by rfl, ?_⟩) hHeld ?_
  rotate_left
  · first | (intro w hSw; (try dsimp only at hSw); go_simp; done) | (intro w hSw; (try dsimp only at hSw); go_simp; with_reducible rfl)
  try simp only [Act.put, List.setIfInBounds_toArray, List.set_cons_zero, List.set_cons_succ]
  refine wpAnyH_take (i := 3) (v := ?_) rfl (by kernel_rfl) (by kernel_rfl) (by kernel_rfl) (fun _ _ _ h => h) (Or.inl ⟨by rfl, ?_⟩) hHeld ?_
  rotate_left
  · first | (intro w hSw; (try dsimp only at hSw); go_simp; done) | (intro w hSw; (try dsimp only at hSw); go_simp; with_reducible rfl)
  try simp only [Act.put, List.setIfInBounds_toArray, List.set_cons_zero, List.set_cons_succ]
  refine wpAnyH_take (i := 4) (v := ?_) rfl (by kernel_rfl) (by kernel_rfl) (by kernel_rfl) (fun _ _ _ h => h) (Or.inl ⟨by rfl, ?_⟩) hHeld ?_
  rotate_left
  · first | (intro w hSw; (try dsimp only at hSw); go_simp; done) | (intro w hSw; (try dsimp only at hSw); go_simp; with_reducible rfl)
  try simp only [Act.put, List.setIfInBounds_toArray, List.set_cons_zero, List.set_cons_succ]
  refine wpAnyH_take (i := 5) (v := ?_) rfl (by kernel_rfl) (by kernel_rfl) (by kernel_rfl) (fun _ _ _ h => h) (Or.inl ⟨by rfl, ?_⟩) hHeld ?_
  rotate_left
  · first | (intro w hSw; (try dsimp only at hSw); go_simp; done) | (intro w hSw; (try dsimp only at hSw); go_simp; with_reducible rfl)
  try simp only [Act.put, List.setIfInBounds_toArray, List.set_cons_zero, List.set_cons_succ]
  refine wpAnyH_take (i := 6) (v := ?_) rfl (by kernel_rfl) (by kernel_rfl) (by kernel_rfl) (fun _ _ _ h => h) (Or.inl ⟨by rfl, ?_⟩) hHeld ?_
  rotate_left
  · first | (intro w hSw; (try dsimp only at hSw); go_simp; done) | (intro w hSw; (try dsimp only at hSw); go_simp; with_reducible rfl)
  try simp only [Act.put, List.setIfInBounds_toArray, List.set_cons_zero, List.set_cons_succ]
  refine wpAnyH_take (i := 7) (v := ?_) rfl (by kernel_rfl) (by kernel_rfl) (by kernel_rfl) (fun _ _ _ h => h) (Or.inl ⟨by rfl, ?_⟩) hHeld ?_
  rotate_left
  · first | (intro w hSw; (try dsimp only at hSw); go_simp; done) | (intro w hSw; (try dsimp only at hSw); go_simp; with_reducible rfl)
  try simp only [Act.put, List.setIfInBounds_toArray, List.set_cons_zero, List.set_cons_succ]
  refine wpAnyH_take (i := 8) (v := ?_) rfl (by kernel_rfl) (by kernel_rfl) (by kernel_rfl) (fun _ _ _ h => h) (Or.inl ⟨by rfl, ?_⟩) hHeld ?_
  rotate_left
  · first | (intro w hSw; (try dsimp only at hSw); go_simp; done) | (intro w hSw; (try dsimp only at hSw); go_simp; with_reducible rfl)
  try simp only [Act.put, List.setIfInBounds_toArray, List.set_cons_zero, List.set_cons_succ]
  refine wpAnyH_take (i := 9) (v := ?_) rfl (by kernel_rfl) (by kernel_rfl) (by kernel_rfl) (fun _ _ _ h => h) (Or.inl ⟨by rfl, ?_⟩) hHeld ?_
  rotate_left
  · first | (intro w hSw; (try dsimp only at hSw); go_simp; done) | (intro w hSw; (try dsimp only at hSw); go_simp; with_reducible rfl)
  try simp only [Act.put, List.setIfInBounds_toArray, List.set_cons_zero, List.set_cons_succ]
  refine wpAnyH_take (i := 10) (v := ?_) rfl (by kernel_rfl) (by kernel_rfl) (by kernel_rfl) (fun _ _ _ h => h) (Or.inl ⟨by rfl, ?_⟩) hHeld ?_
  rotate_left
  · first | (intro w hSw; (try dsimp only at hSw); go_simp; done) | (intro w hSw; (try dsimp only at hSw); go_simp; with_reducible rfl)
  try simp only [Act.put, List.setIfInBounds_toArray, List.set_cons_zero, List.set_cons_succ]
  refine wpAnyH_take (i := 11) (v := ?_) rfl (by kernel_rfl) (by kernel_rfl) (by kernel_rfl) (fun _ _ _ h => h) (Or.inl ⟨by rfl, ?_⟩) hHeld ?_
  rotate_left
  · first | (intro w hSw; (try dsimp only at hSw); go_simp; done) | (intro w hSw; (try dsimp only at hSw); go_simp; with_reducible rfl)
  try simp only [Act.put, List.setIfInBounds_toArray, List.set_cons_zero, List.set_cons_succ]
  refine wpAnyH_take (i := 12) (v := ?_) rfl (by kernel_rfl) (by kernel_rfl) (by kernel_rfl) (fun _ _ _ h => h) (Or.inl ⟨by rfl, ?_⟩) hHeld ?_
  rotate_left
  · first | (intro w hSw; (try dsimp only at hSw); go_simp; done) | (intro w hSw; (try dsimp only at hSw); go_simp; with_reducible rfl)
  try simp only [Act.put, List.setIfInBounds_toArray, List.set_cons_zero, List.set_cons_succ]
  refine wpAnyH_take (i := 13) (v := ?_) rfl (by kernel_rfl) (by kernel_rfl) (by kernel_rfl) (fun _ _ _ h => h) (Or.inl ⟨by rfl, ?_⟩) hHeld ?_
  rotate_left
  · first | (intro w hSw; (try dsimp only at hSw); go_simp; done) | (intro w hSw; (try dsimp only at hSw); go_simp; with_reducible rfl)
  try simp only [Act.put, List.setIfInBounds_toArray, List.set_cons_zero, List.set_cons_succ]
  refine wpAnyH_take (i := 14) (v := ?_) rfl (by kernel_rfl) (by kernel_rfl) (by kernel_rfl) (fun _ _ _ h => h) (Or.inl ⟨by rfl, ?_⟩) hHeld ?_
  rotate_left
  · first | (intro w hSw; (try dsimp only at hSw); go_simp; done) | (intro w hSw; (try dsimp only at hSw); go_simp; with_reducible rfl)
  try simp only [Act.put, List.setIfInBounds_toArray, List.set_cons_zero, List.set_cons_succ]
  refine wpAnyH_ready (rs := [15]) (by kernel_rfl) (by simp) ?_
  refine AllReadyH.cons rfl (fun K hK => ?_) AllReadyH.nil
  go_simp
  refine (hdr2.out _).mono ?_
  rintro e w6 ⟨u, rfl, hu, hb⟩
  replace hB := hHeld.next hb
  clear hb hHeld
  have huz : u.size ≤ 4 := by rw [← size_toList, hu.out]; have := dgl_len2 (k := 2) (n := r) (by omega); simpa [dgl] using this
  have e7 : ¬ (9223372036854775807 < 1 + a.size + 1 + b.size + 2 + u.size) := by omega
  have f3 := Lib.hid (fun w hm => float_yes (⟨#[45]⟩ ++ a ++ ⟨#[46]⟩ ++ b ++ ⟨#[69, 43]⟩ ++ u) (true, n, 0) (floatOfInt .f64 z) w (by simp only [ByteArray.size_append]; show 1 + a.size + 1 + b.size + 2 + u.size ≤ _; omega) hm
    (by simp only [toList_append, hal.out, hbl.out, hu.out, m46, mE, m0, m45]; exact ((((((ascii_sign true).append (ten_ascii (ten_take (ten_dgl k n) p))).append (ascii_lits (l := [46]) (by decide))).append (ten_ascii (ten_drop (ten_dgl k n) p))).append (ascii_lits (l := [69, 43]) (by decide))).append (ten_ascii (ten_dgl 2 r))))
    (by simp only [toList_append, hal.out, hbl.out, hu.out, m46, mE, m0, m45]; have := point_text3 (n := n) (k := k) (p := p) true hl hp; rw [hrr.out] at this; exact this) hfw.out)
  go_wp2_with fail
  refine hK.out _ _ (hB) (fun hHeld => ?_)
  clear hK K
  try simp only [Act.put, List.setIfInBounds_toArray, List.set_cons_zero, List.set_cons_succ]
  refine wpAnyH_take (i := 16) (v := ?_) rfl (by kernel_rfl) (by kernel_rfl) (by kernel_rfl) (fun _ _ _ h => h) (Or.inl ⟨by rfl, ?_⟩) hHeld ?_
  rotate_left
  · first | (intro w hSw; (try dsimp only at hSw); go_simp; done) | (intro w hSw; (try dsimp only at hSw); go_simp; with_reducible rfl)
  try simp only [Act.put, List.setIfInBounds_toArray, List.set_cons_zero, List.set_cons_succ]
  refine wpAnyH_ready (rs := [17]) (by kernel_rfl) (by simp) ?_
  refine AllReadyH.cons rfl (fun K hK => ?_) AllReadyH.nil
  go_simp
  refine (f3.out _ (hm.next hHeld)).mono ?_
  rintro e w7 ⟨rfl, hb⟩
  replace hB := hHeld.next hb
  clear hb hHeld
  go_wp2_with fail
  refine hK.out _ _ (hB) (fun hHeld => ?_)
  clear hK K
  try simp only [Act.put, List.setIfInBounds_toArray, List.set_cons_zero, List.set_cons_succ]
  refine wpAnyH_take (i := 18) (v := ?_) rfl (by kernel_rfl) (by kernel_rfl) (by kernel_rfl) (fun _ _ _ h => h) (Or.inl ⟨by rfl, ?_⟩) hHeld ?_
  rotate_left
  · first | (intro w hSw; (try dsimp only at hSw); go_simp; done) | (intro w hSw; (try dsimp only at hSw); go_simp; with_reducible rfl)
  try simp only [Act.put, List.setIfInBounds_toArray, List.set_cons_zero, List.set_cons_succ]
  refine wpAnyH_take (i := 19) (v := ?_) rfl (by kernel_rfl) (by kernel_rfl) (by kernel_rfl) (fun _ _ _ h => h) (Or.inl ⟨by rfl, ?_⟩) hHeld ?_
  rotate_left
  · first | (intro w hSw; (try dsimp only at hSw); go_simp; done) | (intro w hSw; (try dsimp only at hSw); go_simp; with_reducible rfl)
  try simp only [Act.put, List.setIfInBounds_toArray, List.set_cons_zero, List.set_cons_succ]
  refine wpAnyH_take (i := 20) (v := ?_) rfl (by kernel_rfl) (by kernel_rfl) (by kernel_rfl) (fun _ _ _ h => h) (Or.inl ⟨by rfl, ?_⟩) hHeld ?_
  rotate_left
  · first | (intro w hSw; (try dsimp only at hSw); go_simp; done) | (intro w hSw; (try dsimp only at hSw); go_simp; with_reducible rfl)
  try simp only [Act.put, List.setIfInBounds_toArray, List.set_cons_zero, List.set_cons_succ]
  refine wpAnyH_take (i := 21) (v := ?_) rfl (by kernel_rfl) (by kernel_rfl) (by kernel_rfl) (fun _ _ _ h => h) (Or.inl ⟨by rfl, ?_⟩) hHeld ?_
  rotate_left
  · first | (intro w hSw; (try dsimp only at hSw); go_simp; done) | (intro w hSw; (try dsimp only at hSw); go_simp; with_reducible rfl)
  try simp only [Act.put, List.setIfInBounds_toArray, List.set_cons_zero, List.set_cons_succ]
  refine wpAnyH_take (i := 22) (v := ?_) rfl (by kernel_rfl) (by kernel_rfl) (by kernel_rfl) (fun _ _ _ h => h) (Or.inl ⟨by rfl, ?_⟩) hHeld ?_
  rotate_left
  · first | (intro w hSw; (try dsimp only at hSw); go_simp; done) | (intro w hSw; (try dsimp only at hSw); go_simp; with_reducible rfl)
  try simp only [Act.put, List.setIfInBounds_toArray, List.set_cons_zero, List.set_cons_succ]
  refine wpAnyH_done (by kernel_rfl) ?_ _
  refine NoPanic.normal ?_
  go_wp2_with fail
  refine (alike_same _ _ hna.out).mono ?_
  rintro e wx ⟨rfl, rfl⟩
  go_wp2_with fail
  refine (alike_same _ _ hnb.out).mono ?_
  rintro e wx ⟨rfl, rfl⟩
  go_wp2_with fail
  go_ret
  exact ⟨rfl, hB⟩
set_option maxRecDepth 100000 in
set_option maxHeartbeats 1000000 in
theorem numberPoint_in2 (n k p : Nat) (w : World) (hm : ML w) (hn : n < 9223372036854775808) (hk : k ≤ 12) (hl : (dgl k n).length ≤ 15) (hp : p < (dgl k n).length) (h0 : n ≠ 0) :
    Calls Try.prog 5 #[.int .i64 (n : Int), .int .i64 (k : Int), .int .i64 (p : Int), .bool true] w (RetB w true) := by
  have hB : Below w.heap.size w w := Below.refl _ _
  have hkI : (k : Int) ≤ 12 := by omega
  have hn15 : n < 10 ^ 15 := Nat.lt_of_lt_of_le (digs1_le (digs1_dgl k n)) (Nat.pow_le_pow_right (by decide) hl)
  have h53 : n < 2 ^ 53 := Nat.lt_trans hn15 (by decide)
  have hdn := Lib.hid (fun w => numDigits_any n k w hn (by omega))
  have hdr := Lib.hid (fun w => numDigits_any ((dgl k n).length - p) 0 w (by omega) (by decide))
  have hdr2 := Lib.hid (fun w => numDigits_any ((dgl k n).length - p) 2 w (by omega) (by decide))
  go_enter Try.func5, Try.ntmps5
  go_wp2_with fail
  refine (small04_any _ hm).mono ?_
  rintro e w1 ⟨rfl, hb⟩
  replace hB := hB.next hb
  clear hb
  go_wp2_with fail
  refine (hdn.out _).mono ?_
  rintro e w2 ⟨s, rfl, hs, hb⟩
  replace hB := hB.next hb
  clear hb
  have hz : Hid (s.size = (dgl k n).length) := Lib.hid (by rw [← size_toList, hs.out]; rfl)
  have hsI : (s.size : Int) ≤ 15 := by have := hz.out; omega
  have hpI : (p : Int) < (s.size : Int) := by have := hz.out; omega
  have hpp : p ≤ s.size := by omega
  obtain ⟨a, ha⟩ : ∃ a, s.extract 0 p = a := ⟨_, rfl⟩
  obtain ⟨b, hb⟩ : ∃ b, s.extract p s.size = b := ⟨_, rfl⟩
  obtain ⟨r, hrr⟩ : ∃ r, Hid ((dgl k n).length - p = r) := ⟨_, Lib.hid rfl⟩
  rw [hrr.out] at hdr hdr2
  have e3 : IntKind.i64.wrap ((s.size : Int) - (p : Int)) = (r : Int) := by rw [IntWalk.i64_in _ (by omega)]; have := hz.out; have := hrr.out; omega
  have hal : Hid (a.toList = (dgl k n).take p) := Lib.hid (by rw [← ha, toList_extract, hs.out]; rfl)
  have hbl : Hid (b.toList = (dgl k n).drop p) := Lib.hid (by rw [← hb, toList_from, hs.out]; rfl)
  have haz : a.size ≤ 15 := by rw [← size_toList, hal.out, List.length_take]; omega
  have hbz : b.size ≤ 15 := by rw [← size_toList, hbl.out, List.length_drop]; omega
  have hr15 : r ≤ 15 := by have := hrr.out; omega
  have hun : ∀ v : Nat, Op.unary .neg (.float .f64 v) = (pure (.float .f64 (Op.negFloat .f64 v)) : Sem Value) := fun v => rfl
  have h0I : (0 : Int) < (n : Int) := by omega
  have hfw := floatW_neg0 h53 h0
  replace h0 := Lib.hid h0
  replace hfw := Lib.hid hfw
  have hna : Hid (NoNaN (floatW (true, n, -(r : Int)))) := Lib.hid (noNaN_floatW h53 (by omega) (by omega))
  have hnb : Hid (NoNaN ((Op.negFloat .f64 (floatOfInt .f64 (n : Int))))) := Lib.hid (noNaN_floatW h53 (neg := true) (k := 0) (by decide) (by decide) |> (fun h => by rw [hfw.out] at h; exact h))
  have f1 := Lib.hid (fun w hm => float_yes (⟨#[45]⟩ ++ a ++ ⟨#[46]⟩ ++ b) (true, n, -(r : Int)) _ w (by simp only [ByteArray.size_append]; show 1 + a.size + 1 + b.size ≤ _; omega) hm
    (by simp only [toList_append, hal.out, hbl.out, m46, m0, m45]; exact (((ascii_sign true).append (ten_ascii (ten_take (ten_dgl k n) p))).append (ascii_lits (l := [46]) (by decide))).append (ten_ascii (ten_drop (ten_dgl k n) p)))
    (by simp only [toList_append, hal.out, hbl.out, m46, m0, m45]; have := point_text1 (n := n) (k := k) (p := p) true hl hp; rw [hrr.out] at this; exact this) rfl)
  have e0 : ¬ (9223372036854775807 < 1 + a.size) := by omega
  have e1 : ¬ (9223372036854775807 < 1 + a.size + 1) := by omega
  have e2 : ¬ (9223372036854775807 < 1 + a.size + 1 + b.size) := by omega
  have e6 : ¬ (9223372036854775807 < 1 + a.size + 1 + b.size + 2) := by omega
  have g0 : ¬ (9223372036854775807 < 1 + s.size) := by omega
  have g1 : ¬ (9223372036854775807 < 1 + s.size + 2) := by omega
  go_wp2_with fail
  refine wp_region_noPanic ?_
  refine wp_region_held_drew (S := fun w' => Below w.heap.size w w') (by kernel_rfl) (hB.drew) (fun hHeld => ?_)
  refine wpAnyH_take (i := 0) (v := ?_) rfl (by kernel_rfl) (by kernel_rfl) (by kernel_rfl) (fun _ _ _ h => h) (Or.inl ⟨by rfl, ?_⟩) hHeld ?_
  rotate_left
  · first | (intro w hSw; (try dsimp only at hSw); go_simp; done) | (intro w hSw; (try dsimp only at hSw); go_simp; with_reducible rfl)
  try simp only [Act.put, List.setIfInBounds_toArray, List.set_cons_zero, List.set_cons_succ]
  refine wpAnyH_take (i := 1) (v := ?_) rfl (by kernel_rfl) (by kernel_rfl) (by kernel_rfl) (fun _ _ _ h => h) (Or.inl ⟨by rfl, ?_⟩) hHeld ?_
  rotate_left
  · first | (intro w hSw; (try dsimp only at hSw); go_simp; done) | (intro w hSw; (try dsimp only at hSw); go_simp; with_reducible rfl)
  try simp only [Act.put, List.setIfInBounds_toArray, List.set_cons_zero, List.set_cons_succ]
  refine wpAnyH_take (i := 2) (v := ?_) rfl (by kernel_rfl) (by kernel_rfl) (by kernel_rfl) (fun _ _ _ h => h) (Or.inl ⟨by rfl, ?_⟩) hHeld ?_
  rotate_left
  · first | (intro w hSw; (try dsimp only at hSw); go_simp; done) | (intro w hSw; (try dsimp only at hSw); go_simp; with_reducible rfl)
  try simp only [Act.put, List.setIfInBounds_toArray, List.set_cons_zero, List.set_cons_succ]
  refine wpAnyH_take (i := 3) (v := ?_) rfl (by kernel_rfl) (by kernel_rfl) (by kernel_rfl) (fun _ _ _ h => h) (Or.inl ⟨by rfl, ?_⟩) hHeld ?_
  rotate_left
  · first | (intro w hSw; (try dsimp only at hSw); go_simp; done) | (intro w hSw; (try dsimp only at hSw); go_simp; with_reducible rfl)
  try simp only [Act.put, List.setIfInBounds_toArray, List.set_cons_zero, List.set_cons_succ]
  refine wpAnyH_take (i := 4) (v := ?_) rfl (by kernel_rfl) (by kernel_rfl) (by kernel_rfl) (fun _ _ _ h => h) (Or.inl ⟨by rfl, ?_⟩) hHeld ?_
  rotate_left
  · first | (intro w hSw; (try dsimp only at hSw); go_simp; done) | (intro w hSw; (try dsimp only at hSw); go_simp; with_reducible rfl)
  try simp only [Act.put, List.setIfInBounds_toArray, List.set_cons_zero, List.set_cons_succ]
  refine wpAnyH_take (i := 5) (v := ?_) rfl (by kernel_rfl) (by kernel_rfl) (by kernel_rfl) (fun _ _ _ h => h) (Or.inl ⟨by rfl, ?_⟩) hHeld ?_
  rotate_left
  · first | (intro w hSw; (try dsimp only at hSw); go_simp; done) | (intro w hSw; (try dsimp only at hSw); go_simp; with_reducible rfl)
  try simp only [Act.put, List.setIfInBounds_toArray, List.set_cons_zero, List.set_cons_succ]
  refine wpAnyH_take (i := 6) (v := ?_) rfl (by kernel_rfl) (by kernel_rfl) (by kernel_rfl) (fun _ _ _ h => h) (Or.inl ⟨by rfl, ?_⟩) hHeld ?_
  rotate_left
  · first | (intro w hSw; (try dsimp only at hSw); go_simp; done) | (intro w hSw; (try dsimp only at hSw); go_simp; with_reducible rfl)
  try simp only [Act.put, List.setIfInBounds_toArray, List.set_cons_zero, List.set_cons_succ]
  refine wpAnyH_take (i := 7) (v := ?_) rfl (by kernel_rfl) (by kernel_rfl) (by kernel_rfl) (fun _ _ _ h => h) (Or.inl ⟨by rfl, ?_⟩) hHeld ?_
  rotate_left
  · first | (intro w hSw; (try dsimp only at hSw); go_simp; done) | (intro w hSw; (try dsimp only at hSw); go_simp; with_reducible rfl)
  try simp only [Act.put, List.setIfInBounds_toArray, List.set_cons_zero, List.set_cons_succ]
  refine wpAnyH_take (i := 8) (v := ?_) rfl (by kernel_rfl) (by kernel_rfl) (by kernel_rfl) (fun _ _ _ h => h) (Or.inl ⟨by rfl, ?_⟩) hHeld ?_
  rotate_left
  · first | (intro w hSw; (try dsimp only at hSw); go_simp; done) | (intro w hSw; (try dsimp only at hSw); go_simp; with_reducible rfl)
  try simp only [Act.put, List.setIfInBounds_toArray, List.set_cons_zero, List.set_cons_succ]
  refine wpAnyH_take (i := 9) (v := ?_) rfl (by kernel_rfl) (by kernel_rfl) (by kernel_rfl) (fun _ _ _ h => h) (Or.inl ⟨by rfl, ?_⟩) hHeld ?_
  rotate_left
  · first | (intro w hSw; (try dsimp only at hSw); go_simp; done) | (intro w hSw; (try dsimp only at hSw); go_simp; with_reducible rfl)
  try simp only [Act.put, List.setIfInBounds_toArray, List.set_cons_zero, List.set_cons_succ]
  refine wpAnyH_ready (rs := [10]) (by kernel_rfl) (by simp) ?_
  refine AllReadyH.cons rfl (fun K hK => ?_) AllReadyH.nil
  go_simp
  refine (f1.out _ (hm.next hHeld)).mono ?_
  rintro e w3 ⟨rfl, hb⟩
  replace hB := hHeld.next hb
  clear hb hHeld
  go_wp2_with fail
  refine hK.out _ _ (hB) (fun hHeld => ?_)
  clear hK K
  try simp only [Act.put, List.setIfInBounds_toArray, List.set_cons_zero, List.set_cons_succ]
  refine wpAnyH_take (i := 11) (v := ?_) rfl (by kernel_rfl) (by kernel_rfl) (by kernel_rfl) (fun _ _ _ h => h) (Or.inl ⟨by rfl, ?_⟩) hHeld ?_
  rotate_left
  · first | (intro w hSw; (try dsimp only at hSw); go_simp; done) | (intro w hSw; (try dsimp only at hSw); go_simp; with_reducible rfl)
  try simp only [Act.put, List.setIfInBounds_toArray, List.set_cons_zero, List.set_cons_succ]
  refine wpAnyH_take (i := 12) (v := ?_) rfl (by kernel_rfl) (by kernel_rfl) (by kernel_rfl) (fun _ _ _ h => h) (Or.inl ⟨by rfl, ?_⟩) hHeld ?_
  rotate_left
  · first | (intro w hSw; (try dsimp only at hSw); go_simp; done) | (intro w hSw; (try dsimp only at hSw); go_simp; with_reducible rfl)
  try simp only [Act.put, List.setIfInBounds_toArray, List.set_cons_zero, List.set_cons_succ]
  refine wpAnyH_take (i := 13) (v := ?_) rfl (by kernel_rfl) (by kernel_rfl) (by kernel_rfl) (fun _ _ _ h => h) (Or.inl ⟨by rfl, ?_⟩) hHeld ?_
  rotate_left
  · first | (intro w hSw; (try dsimp only at hSw); go_simp; done) | (intro w hSw; (try dsimp only at hSw); go_simp; with_reducible rfl)
  try simp only [Act.put, List.setIfInBounds_toArray, List.set_cons_zero, List.set_cons_succ]
  refine wpAnyH_take (i := 14) (v := ?_) rfl (by kernel_rfl) (by kernel_rfl) (by kernel_rfl) (fun _ _ _ h => h) (Or.inl ⟨by rfl, ?_⟩) hHeld ?_
  rotate_left
  · first | (intro w hSw; (try dsimp only at hSw); go_simp; done) | (intro w hSw; (try dsimp only at hSw); go_simp; with_reducible rfl)
  try simp only [Act.put, List.setIfInBounds_toArray, List.set_cons_zero, List.set_cons_succ]
  refine wpAnyH_take (i := 15) (v := ?_) rfl (by kernel_rfl) (by kernel_rfl) (by kernel_rfl) (fun _ _ _ h => h) (Or.inl ⟨by rfl, ?_⟩) hHeld ?_
  rotate_left
  · first | (intro w hSw; (try dsimp only at hSw); go_simp; done) | (intro w hSw; (try dsimp only at hSw); go_simp; with_reducible rfl)
  try simp only [Act.put, List.setIfInBounds_toArray, List.set_cons_zero, List.set_cons_succ]
  refine wpAnyH_done (by kernel_rfl) ?_ _
  refine NoPanic.normal ?_
  go_wp2_with fail
  refine (hdr.out _).mono ?_
  rintro e w4 ⟨t, rfl, ht, hb⟩
  replace hB := hB.next hb
  clear hb
  have htz : t.size ≤ 2 := by rw [← size_toList, ht.out]; have := dgl_len2 (k := 0) (n := r) (by omega); simpa [dgl] using this
  have g2 : ¬ (9223372036854775807 < 1 + s.size + 2 + t.size) := by omega
  have f2 := Lib.hid (fun w hm => float_yes (⟨#[45]⟩ ++ s ++ ⟨#[101, 45]⟩ ++ t) (true, n, -(r : Int)) _ w (by simp only [ByteArray.size_append]; show 1 + s.size + 2 + t.size ≤ _; omega) hm
    (by simp only [toList_append, hs.out, ht.out, me, m0, m45]; exact (((ascii_sign true).append (ten_ascii (ten_dgl k n))).append (ascii_lits (l := [101, 45]) (by decide))).append (ten_ascii (ten_dgl 0 r)))
    (by simp only [toList_append, hs.out, ht.out, me, m0, m45]; exact point_text2 (n := n) (k := k) (r := r) true hl hr15) rfl)
  go_wp2_with fail
  refine (f2.out _ (hm.next hB)).mono ?_
  rintro e w5 ⟨rfl, hb⟩
  replace hB := hB.next hb
  clear hb
  go_wp2_with fail
  refine wp_region_noPanic ?_
  refine wp_region_held_drew (S := fun w' => Below w.heap.size w w') (by kernel_rfl) (hB.drew) (fun hHeld => ?_)
  refine wpAnyH_take (i := 0) (v := ?_) rfl (by kernel_rfl) (by kernel_rfl) (by kernel_rfl) (fun _ _ _ h => h) (Or.inl ⟨by rfl, ?_⟩) hHeld ?_
  rotate_left
  · first | (intro w hSw; (try dsimp only at hSw); go_simp; done) | (intro w hSw; (try dsimp only at hSw); go_simp; with_reducible rfl)
  try simp only [Act.put, List.setIfInBounds_toArray, List.set_cons_zero, List.set_cons_succ]
  refine wpAnyH_take (i := 1) (v := ?_) rfl (by kernel_rfl) (by kernel_rfl) (by kernel_rfl) (fun _ _ _ h => h) (Or.inl ⟨by rfl, ?_⟩) hHeld ?_
  rotate_left
  · first | (intro w hSw; (try dsimp only at hSw); go_simp; done) | (intro w hSw; (try dsimp only at hSw); go_simp; with_reducible rfl)
  try simp only [Act.put, List.setIfInBounds_toArray, List.set_cons_zero, List.set_cons_succ]
  refine wpAnyH_take (i := 2) (v := ?_) rfl (by kernel_rfl) (by kernel_rfl) (by kernel_rfl) (fun _ _ _ h => h) (Or.inl ⟨by rfl, ?_⟩) hHeld ?_
  rotate_left
  · first | (intro w hSw; (try dsimp only at hSw); go_simp; done) | (intro w hSw; (try dsimp only at hSw); go_simp; with_reducible rfl)
  try simp only [Act.put, List.setIfInBounds_toArray, List.set_cons_zero, List.set_cons_succ]
  refine wpAnyH_take (i := 3) (v := ?_) rfl (by kernel_rfl) (by kernel_rfl) (by kernel_rfl) (fun _ _ _ h => h) (Or.inl ⟨by rfl, ?_⟩) hHeld ?_
  rotate_left
  · first | (intro w hSw; (try dsimp only at hSw); go_simp; done) | (intro w hSw; (try dsimp only at hSw); go_simp; with_reducible rfl)
  try simp only [Act.put, List.setIfInBounds_toArray, List.set_cons_zero, List.set_cons_succ]
  refine wpAnyH_take (i := 4) (v := ?_) rfl (by kernel_rfl) (by kernel_rfl) (by kernel_rfl) (fun _ _ _ h => h) (Or.inl ⟨by rfl, ?_⟩) hHeld ?_
  rotate_left
  · first | (intro w hSw; (try dsimp only at hSw); go_simp; done) | (intro w hSw; (try dsimp only at hSw); go_simp; with_reducible rfl)
  try simp only [Act.put, List.setIfInBounds_toArray, List.set_cons_zero, List.set_cons_succ]
  refine wpAnyH_take (i := 5) (v := ?_) rfl (by kernel_rfl) (by kernel_rfl) (by kernel_rfl) (fun _ _ _ h => h) (Or.inl ⟨by rfl, ?_⟩) hHeld ?_
  rotate_left
  · first | (intro w hSw; (try dsimp only at hSw); go_simp; done) | (intro w hSw; (try dsimp only at hSw); go_simp; with_reducible rfl)
  try simp only [Act.put, List.setIfInBounds_toArray, List.set_cons_zero, List.set_cons_succ]
  refine wpAnyH_take (i := 6) (v := ?_) rfl (by kernel_rfl) (by kernel_rfl) (by kernel_rfl) (fun _ _ _ h => h) (Or.inl ⟨by rfl, ?_⟩) hHeld ?_
  rotate_left
  · first | (intro w hSw; (try dsimp only at hSw); go_simp; done) | (intro w hSw; (try dsimp only at hSw); go_simp; with_reducible rfl)
  try simp only [Act.put, List.setIfInBounds_toArray, List.set_cons_zero, List.set_cons_succ]
  refine wpAnyH_take (i := 7) (v := ?_) rfl (by kernel_rfl) (by kernel_rfl) (by kernel_rfl) (fun _ _ _ h => h) (Or.inl ⟨by rfl, ?_⟩) hHeld ?_
  rotate_left
  · first | (intro w hSw; (try dsimp only at hSw); go_simp; done) | (intro w hSw; (try dsimp only at hSw); go_simp; with_reducible rfl)
  try simp only [Act.put, List.setIfInBounds_toArray, List.set_cons_zero, List.set_cons_succ]
  refine wpAnyH_take (i := 8) (v := ?_) rfl (by kernel_rfl) (by kernel_rfl) (by kernel_rfl) (fun _ _ _ h => h) (Or.inl ⟨by rfl, ?_⟩) hHeld ?_
  rotate_left
  · first | (intro w hSw; (try dsimp only at hSw); go_simp; done) | (intro w hSw; (try dsimp only at hSw); go_simp; with_reducible rfl)
  try simp only [Act.put, List.setIfInBounds_toArray, List.set_cons_zero, List.set_cons_succ]
  refine wpAnyH_take (i := 9) (v := ?_) rfl (by kernel_rfl) (by kernel_rfl) (by kernel_rfl) (fun _ _ _ h => h) (Or.inl ⟨by rfl, ?_⟩) hHeld ?_
  rotate_left
  · first | (intro w hSw; (try dsimp only at hSw); go_simp; done) | (intro w hSw; (try dsimp only at hSw); go_simp; with_reducible rfl)
  try simp only [Act.put, List.setIfInBounds_toArray, List.set_cons_zero, List.set_cons_succ]
  refine wpAnyH_take (i := 10) (v := ?_) rfl (by kernel_rfl) (by kernel_rfl) (by kernel_rfl) (fun _ _ _ h => h) (Or.inl ⟨by rfl, ?_⟩) hHeld ?_
  rotate_left
  · first | (intro w hSw; (try dsimp only at hSw); go_simp; done) | (intro w hSw; (try dsimp only at hSw); go_simp; with_reducible rfl)
  try simp only [Act.put, List.setIfInBounds_toArray, List.set_cons_zero, List.set_cons_succ]
  refine wpAnyH_take (i := 11) (v := ?_) rfl (by kernel_rfl) (by kernel_rfl) (by kernel_rfl) (fun _ _ _ h => h) (Or.inl ⟨by rfl, ?_⟩) hHeld ?_
  rotate_left
  · first | (intro w hSw; (try dsimp only at hSw); go_simp; done) | (intro w hSw; (try dsimp only at hSw); go_simp; with_reducible rfl)
  try simp only [Act.put, List.setIfInBounds_toArray, List.set_cons_zero, List.set_cons_succ]
  refine wpAnyH_take (i := 12) (v := ?_) rfl (by kernel_rfl) (by kernel_rfl) (by kernel_rfl) (fun _ _ _ h => h) (Or.inl ⟨by rfl, ?_⟩) hHeld ?_
  rotate_left
  · first | (intro w hSw; (try dsimp only at hSw); go_simp; done) | (intro w hSw; (try dsimp only at hSw); go_simp; with_reducible rfl)
  try simp only [Act.put, List.setIfInBounds_toArray, List.set_cons_zero, List.set_cons_succ]
  refine wpAnyH_take (i := 13) (v := ?_) rfl (by kernel_rfl) (by kernel_rfl) (by kernel_rfl) (fun _ _ _ h => h) (Or.inl ⟨by rfl, ?_⟩) hHeld ?_
  rotate_left
  · first | (intro w hSw; (try dsimp only at hSw); go_simp; done) | (intro w hSw; (try dsimp only at hSw); go_simp; with_reducible rfl)
  try simp only [Act.put, List.setIfInBounds_toArray, List.set_cons_zero, List.set_cons_succ]
  refine wpAnyH_take (i := 14) (v := ?_) rfl (by kernel_rfl) (by kernel_rfl) (by kernel_rfl) (fun _ _ _ h => h) (Or.inl ⟨by rfl, ?_⟩) hHeld ?_
  rotate_left
  · first | (intro w hSw; (try dsimp only at hSw); go_simp; done) | (intro w hSw; (try dsimp only at hSw); go_simp; with_reducible rfl)
  try simp only [Act.put, List.setIfInBounds_toArray, List.set_cons_zero, List.set_cons_succ]
  refine wpAnyH_ready (rs := [15]) (by kernel_rfl) (by simp) ?_
  refine AllReadyH.cons rfl (fun K hK => ?_) AllReadyH.nil
  go_simp
  refine (hdr2.out _).mono ?_
  rintro e w6 ⟨u, rfl, hu, hb⟩
  replace hB := hHeld.next hb
  clear hb hHeld
  have huz : u.size ≤ 4 := by rw [← size_toList, hu.out]; have := dgl_len2 (k := 2) (n := r) (by omega); simpa [dgl] using this
  have e7 : ¬ (9223372036854775807 < 1 + a.size + 1 + b.size + 2 + u.size) := by omega
  have f3 := Lib.hid (fun w hm => float_yes (⟨#[45]⟩ ++ a ++ ⟨#[46]⟩ ++ b ++ ⟨#[69, 43]⟩ ++ u) (true, n, 0) (Op.negFloat .f64 (floatOfInt .f64 (n : Int))) w (by simp only [ByteArray.size_append]; show 1 + a.size + 1 + b.size + 2 + u.size ≤ _; omega) hm
    (by simp only [toList_append, hal.out, hbl.out, hu.out, m46, mE, m0, m45]; exact ((((((ascii_sign true).append (ten_ascii (ten_take (ten_dgl k n) p))).append (ascii_lits (l := [46]) (by decide))).append (ten_ascii (ten_drop (ten_dgl k n) p))).append (ascii_lits (l := [69, 43]) (by decide))).append (ten_ascii (ten_dgl 2 r))))
    (by simp only [toList_append, hal.out, hbl.out, hu.out, m46, mE, m0, m45]; have := point_text3 (n := n) (k := k) (p := p) true hl hp; rw [hrr.out] at this; exact this) hfw.out)
  go_wp2_with fail
  refine hK.out _ _ (hB) (fun hHeld => ?_)
  clear hK K
  try simp only [Act.put, List.setIfInBounds_toArray, List.set_cons_zero, List.set_cons_succ]
  refine wpAnyH_take (i := 16) (v := ?_) rfl (by kernel_rfl) (by kernel_rfl) (by kernel_rfl) (fun _ _ _ h => h) (Or.inl ⟨by rfl, ?_⟩) hHeld ?_
  rotate_left
  · first | (intro w hSw; (try dsimp only at hSw); go_simp; done) | (intro w hSw; (try dsimp only at hSw); go_simp; with_reducible rfl)
  try simp only [Act.put, List.setIfInBounds_toArray, List.set_cons_zero, List.set_cons_succ]
  refine wpAnyH_ready (rs := [17]) (by kernel_rfl) (by simp) ?_
  refine AllReadyH.cons rfl (fun K hK => ?_) AllReadyH.nil
  go_simp
  refine (f3.out _ (hm.next hHeld)).mono ?_
  rintro e w7 ⟨rfl, hb⟩
  replace hB := hHeld.next hb
  clear hb hHeld
  go_wp2_with fail
  refine hK.out _ _ (hB) (fun hHeld => ?_)
  clear hK K
  try simp only [Act.put, List.setIfInBounds_toArray, List.set_cons_zero, List.set_cons_succ]
  refine wpAnyH_take (i := 18) (v := ?_) rfl (by kernel_rfl) (by kernel_rfl) (by kernel_rfl) (fun _ _ _ h => h) (Or.inl ⟨by rfl, ?_⟩) hHeld ?_
  rotate_left
  · first | (intro w hSw; (try dsimp only at hSw); go_simp; done) | (intro w hSw; (try dsimp only at hSw); go_simp; with_reducible rfl)
  try simp only [Act.put, List.setIfInBounds_toArray, List.set_cons_zero, List.set_cons_succ]
  refine wpAnyH_take (i := 19) (v := ?_) rfl (by kernel_rfl) (by kernel_rfl) (by kernel_rfl) (fun _ _ _ h => h) (Or.inl ⟨by rfl, ?_⟩) hHeld ?_
  rotate_left
  · first | (intro w hSw; (try dsimp only at hSw); go_simp; done) | (intro w hSw; (try dsimp only at hSw); go_simp; with_reducible rfl)
  try simp only [Act.put, List.setIfInBounds_toArray, List.set_cons_zero, List.set_cons_succ]
  refine wpAnyH_take (i := 20) (v := ?_) rfl (by kernel_rfl) (by kernel_rfl) (by kernel_rfl) (fun _ _ _ h => h) (Or.inl ⟨by rfl, ?_⟩) hHeld ?_
  rotate_left
  · first | (intro w hSw; (try dsimp only at hSw); go_simp; done) | (intro w hSw; (try dsimp only at hSw); go_simp; with_reducible rfl)
  try simp only [Act.put, List.setIfInBounds_toArray, List.set_cons_zero, List.set_cons_succ]
  refine wpAnyH_take (i := 21) (v := ?_) rfl (by kernel_rfl) (by kernel_rfl) (by kernel_rfl) (fun _ _ _ h => h) (Or.inl ⟨by rfl, ?_⟩) hHeld ?_
  rotate_left
  · first | (intro w hSw; (try dsimp only at hSw); go_simp; done) | (intro w hSw; (try dsimp only at hSw); go_simp; with_reducible rfl)
  try simp only [Act.put, List.setIfInBounds_toArray, List.set_cons_zero, List.set_cons_succ]
  refine wpAnyH_take (i := 22) (v := ?_) rfl (by kernel_rfl) (by kernel_rfl) (by kernel_rfl) (fun _ _ _ h => h) (Or.inl ⟨by rfl, ?_⟩) hHeld ?_
  rotate_left
  · first | (intro w hSw; (try dsimp only at hSw); go_simp; done) | (intro w hSw; (try dsimp only at hSw); go_simp; with_reducible rfl)
  try simp only [Act.put, List.setIfInBounds_toArray, List.set_cons_zero, List.set_cons_succ]
  refine wpAnyH_done (by kernel_rfl) ?_ _
  refine NoPanic.normal ?_
  go_wp2_with fail
  refine (alike_same _ _ hna.out).mono ?_
  rintro e wx ⟨rfl, rfl⟩
  go_wp2_with fail
  refine (alike_same _ _ hnb.out).mono ?_
  rintro e wx ⟨rfl, rfl⟩
  go_wp2_with fail
  go_ret
  exact ⟨rfl, hB⟩
set_option maxRecDepth 100000 in
set_option maxHeartbeats 2000000 in
theorem numberPoint_out (n k p : Int) (neg : Bool) (w : World) (wn : (Lit.int .i64 n).wf = true) (wk : (Lit.int .i64 k).wf = true) (wp : (Lit.int .i64 p).wf = true) (hm : ML w) (hout : n < 0 ∨ k < 0 ∨ 12 < k) :
    Calls Try.prog 5 #[.int .i64 n, .int .i64 k, .int .i64 p, .bool neg] w (RetB w true) := by
  have hB : Below w.heap.size w w := Below.refl _ _
  go_enter Try.func5, Try.ntmps5
  go_wp2_with fail
  refine (small04_any _ hm).mono ?_
  rintro e w1 ⟨rfl, hb⟩
  replace hB := hB.next hb
  clear hb
  by_cases h1 : n < 0
  · go_wp2_with fail
    go_ret
    exact ⟨rfl, hB⟩
  by_cases h2 : k < 0
  · go_wp2_with fail
    go_ret
    exact ⟨rfl, hB⟩
  have h3 : 12 < k := by omega
  go_wp2_with fail
  go_ret
  exact ⟨rfl, hB⟩
set_option maxRecDepth 100000 in
set_option maxHeartbeats 2000000 in
theorem numberPoint_off (n k : Nat) (p : Int) (neg : Bool) (w : World) (wp : (Lit.int .i64 p).wf = true) (hm : ML w) (hn : n < 9223372036854775808) (hk : k ≤ 12) (hout : 15 < (dgl k n).length ∨ p < 0 ∨ ((dgl k n).length : Int) ≤ p) :
    Calls Try.prog 5 #[.int .i64 (n : Int), .int .i64 (k : Int), .int .i64 p, .bool neg] w (RetB w true) := by
  have hB : Below w.heap.size w w := Below.refl _ _
  have hkI : (k : Int) ≤ 12 := by omega
  have hdn := Lib.hid (fun w => numDigits_any n k w hn (by omega))
  go_enter Try.func5, Try.ntmps5
  go_wp2_with fail
  refine (small04_any _ hm).mono ?_
  rintro e w1 ⟨rfl, hb⟩
  replace hB := hB.next hb
  clear hb
  go_wp2_with fail
  refine (hdn.out _).mono ?_
  rintro e w2 ⟨s, rfl, hs, hb⟩
  replace hB := hB.next hb
  clear hb
  have hz : s.size = (dgl k n).length := by rw [← size_toList, hs.out]; rfl
  rw [← hz] at hout
  replace hz := Lib.hid hz
  by_cases h1 : 15 < s.size
  · have h1I : (15 : Int) < (s.size : Int) := by omega
    go_wp2_with fail
    go_ret
    exact ⟨rfl, hB⟩
  have h1I : (s.size : Int) ≤ 15 := by omega
  by_cases h2 : p < 0
  · go_wp2_with fail
    go_ret
    exact ⟨rfl, hB⟩
  have h3 : (s.size : Int) ≤ p := by omega
  go_wp2_with fail
  go_ret
  exact ⟨rfl, hB⟩
theorem numberPoint_walk (n k p : Int) (neg : Bool) (w : World) (wn : (Lit.int .i64 n).wf = true) (wk : (Lit.int .i64 k).wf = true) (wp : (Lit.int .i64 p).wf = true) (hm : ML w) :
    Calls Try.prog 5 #[.int .i64 n, .int .i64 k, .int .i64 p, .bool neg] w (RetB w true) := by
  by_cases hout : n < 0 ∨ k < 0 ∨ 12 < k
  · exact numberPoint_out n k p neg w wn wk wp hm hout
  · have hb := bounds_i64 wn
    obtain ⟨a, rfl⟩ : ∃ a : Nat, n = (a : Int) := ⟨n.toNat, by omega⟩
    obtain ⟨b, rfl⟩ : ∃ a : Nat, k = (a : Int) := ⟨k.toNat, by omega⟩
    by_cases hoff : 15 < (dgl b a).length ∨ p < 0 ∨ ((dgl b a).length : Int) ≤ p
    · exact numberPoint_off a b p neg w wp hm (by omega) (by omega) hoff
    · obtain ⟨c, rfl⟩ : ∃ a : Nat, p = (a : Int) := ⟨p.toNat, by omega⟩
      cases neg
      · exact numberPoint_in0 a b c w hm (by omega) (by omega) (by omega) (by omega)
      · by_cases h0 : a = 0
        · exact numberPoint_in1 a b c w hm (by omega) (by omega) (by omega) (by omega) h0
        · exact numberPoint_in2 a b c w hm (by omega) (by omega) (by omega) (by omega) h0
end Go.Proofs.Ytfbmfibghgkgpaa
