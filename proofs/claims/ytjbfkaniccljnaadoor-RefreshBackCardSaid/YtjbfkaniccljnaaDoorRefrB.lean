/- The law RefreshBlank, walked. -/
import Derived.Test.YtjbfkaniccljnaaDoorRefrN
namespace Go.Proofs.YtjbfkaniccljnaaDoor
open Go.RowKit
set_option linter.unusedVariables false
set_option linter.unusedSimpArgs false

abbrev TellP := Option (List UInt8 × Bool × List UInt8)
def dOf (o : TellP) : ByteArray := match o with | none => ⟨#[]⟩ | some x => ⟨x.1.toArray⟩
def hOf (o : TellP) : Bool := match o with | none => false | some x => x.2.1
def uOf (o : TellP) : ByteArray := match o with | none => ⟨#[]⟩ | some x => ⟨x.2.2.toArray⟩
theorem parse_at (s : ByteArray) (o : TellP) (w : World) (hs : s.size ≤ 1000000) (hm : ML w) (he : parseL s.toList = o) :
    Calls Tryd.prog 7 #[.string s] w fun e w' => e = .returned (.tuple #[.agg #[.string (dOf o), .bool (hOf o), .string (uOf o)], .bool o.isSome]) ∧ Below w.heap.size w w' := by
  cases o with
  | none => exact parse_not s w hs hm he
  | some x => exact parse_is s _ _ _ w hs hm (by rw [he]; unfold dOf uOf; rw [toList_mk, toList_mk]; rfl)
theorem parse_blank {c : UInt8} {s : List UInt8} (h : isB c = true) : parseL (c :: s) = parseL s := by
  unfold parseL blanksL; rw [List.dropWhile_cons, if_pos h]
theorem parse_dot (n : Nat) (s : List UInt8) : parseL (Lib.decDigits n ++ 46 :: s) = tailP (Lib.decDigits n) (s.dropWhile dotD) := by
  rw [parse_digits (dec_ne n) (dec_all n) (by rw [List.takeWhile_cons, if_neg (by decide)]), List.dropWhile_cons, if_pos (by decide)]
theorem tail_noughts (D r : List UInt8) : tailP (48 :: 48 :: D) r = tailP D r := by
  have hd : delayL (48 :: 48 :: D) = delayL D := by
    have e : (48 :: 48 :: D).dropWhile (· == 48) = D.dropWhile (· == 48) := rfl
    unfold delayL; rw [e]
  unfold tailP; rw [hd]
theorem parse_noughts (n : Nat) (s : List UInt8) : parseL (48 :: 48 :: Lib.decDigits n ++ 46 :: (Lib.decDigits n ++ s)) = tailP (Lib.decDigits n) (s.dropWhile dotD) := by
  have hall : ∀ c ∈ (48 :: 48 :: Lib.decDigits n : List UInt8), dgt c = true := by
    intro c hc
    rcases List.mem_cons.1 hc with rfl | hc
    · decide
    · rcases List.mem_cons.1 hc with rfl | hc
      · decide
      · exact dec_all n c hc
  rw [parse_digits (by simp) hall (by rw [List.takeWhile_cons, if_neg (by decide)]), List.dropWhile_cons, if_pos (by decide),
    List.dropWhile_append_of_pos (fun c hc => by unfold dotD; rw [dec_all n c hc, Bool.or_true]), tail_noughts]
theorem parse_bare (n : Nat) {s : List UInt8} (h : ∀ c r, s = c :: r → dotD c = false) : parseL (Lib.decDigits n ++ s) = tailP (Lib.decDigits n) (s.dropWhile dotD) := by
  refine parse_digits (dec_ne n) (dec_all n) ?_
  cases s with
  | nil => rfl
  | cons c r =>
    have := h c r rfl
    unfold dotD at this
    rw [Bool.or_eq_false_iff] at this
    rw [List.takeWhile_cons, if_neg (by rw [this.2]; decide)]
set_option maxRecDepth 100000 in
set_option maxHeartbeats 4000000 in
theorem refreshBlank_in (s : ByteArray) (c : UInt8) (n : Nat) (w : World) (hm : ML w) (hn : n < 9223372036854775808) (hs : s.size ≤ 300) :
    Calls Tryd.prog 4 #[.string s, .int .u8 (c.toNat : Int), .int .i64 (n : Int)] w (RetB w true) := by
  have hB : Below w.heap.size w w := Below.refl _ _
  have hsI : (s.size : Int) ≤ 300 := by omega
  obtain ⟨x, hx, hxz, hcv⟩ := conv_at (P := Tryd.prog) (S := 9) Tryd.underlying23 Tryd.underlying5 Tryd.underlying9 c
  have htx := Lib.hid (fun w => text13_pos (n + 1) n w (Nat.lt_succ_self n) hn)
  have hDz : (Lib.decDigits n).length ≤ 19 := decDigits_le 18 n (Nat.lt_of_lt_of_le hn (by decide))
  obtain ⟨o0, ho0⟩ : ∃ o, parseL s.toList = o := ⟨_, rfl⟩
  obtain ⟨o1, ho1⟩ : ∃ o, tailP (Lib.decDigits n) (s.toList.dropWhile dotD) = o := ⟨_, rfl⟩
  have p0 := Lib.hid (fun w hm => parse_at s o0 w (by omega) hm ho0)
  have p1 : Hid (blankZ (c.toNat : Int) = true → ∀ w (hm : ML w), Calls Tryd.prog 7 #[.string (x ++ s)] w fun e w' => e = .returned (.tuple #[.agg #[.string (dOf o0), .bool (hOf o0), .string (uOf o0)], .bool o0.isSome]) ∧ Below w.heap.size w w') :=
    Lib.hid (fun hb w hm => parse_at _ o0 w (by rw [ByteArray.size_append]; omega) hm (by rw [toList_append, hx.out]; show parseL (c :: s.toList) = _; rw [parse_blank hb]; exact ho0))
  have e1 : ¬ (9223372036854775807 < x.size + s.size) := by omega
  replace ho0 := Lib.hid ho0
  go_enter Tryd.func4, Tryd.ntmps4
  go_wp2_with fail
  refine (small21_any _ hm).mono ?_
  rintro e w1 ⟨rfl, hb⟩
  replace hB := hB.next hb
  clear hb
  go_wp2_with fail
  refine (htx.out _).mono ?_
  rintro e w2 ⟨t, rfl, ht, hb⟩
  replace hB := hB.next hb
  clear hb
  have htz : t.size ≤ 19 := by rw [← size_toList, ht.out]; exact hDz
  have p2 := Lib.hid (fun w hm => parse_at (t ++ ⟨#[46]⟩ ++ s) o1 w (by rw [ByteArray.size_append, ByteArray.size_append]; show t.size + 1 + s.size ≤ _; omega) hm (by
    rw [toList_append, toList_append, ht.out, show (⟨#[46]⟩ : ByteArray).toList = [46] from toList_mk [46], List.append_assoc, ← ho1]; exact parse_dot n s.toList))
  have p3 := Lib.hid (fun w hm => parse_at (⟨#[48, 48]⟩ ++ t ++ ⟨#[46]⟩ ++ t ++ s) o1 w (by simp only [ByteArray.size_append]; show 2 + t.size + 1 + t.size + s.size ≤ _; omega) hm (by
    simp only [toList_append, ht.out, show (⟨#[46]⟩ : ByteArray).toList = [46] from toList_mk [46], show (⟨#[48, 48]⟩ : ByteArray).toList = [48, 48] from toList_mk [48, 48]]
    rw [← ho1, ← parse_noughts n s.toList]
    congr 1
    simp))
  have p4 : Hid ((∀ c r, s.toList = c :: r → dotD c = false) → ∀ w (hm : ML w), Calls Tryd.prog 7 #[.string (t ++ s)] w fun e w' => e = .returned (.tuple #[.agg #[.string (dOf o1), .bool (hOf o1), .string (uOf o1)], .bool o1.isSome]) ∧ Below w.heap.size w w') :=
    Lib.hid (fun hq w hm => parse_at _ o1 w (by rw [ByteArray.size_append]; omega) hm (by rw [toList_append, ht.out, ← ho1]; exact parse_bare n hq))
  have f1 : ¬ (9223372036854775807 < t.size + 1) := by omega
  have f2 : ¬ (9223372036854775807 < t.size + 1 + s.size) := by omega
  have f3 : ¬ (9223372036854775807 < 2 + t.size) := by omega
  have f4 : ¬ (9223372036854775807 < 2 + t.size + 1) := by omega
  have f5 : ¬ (9223372036854775807 < 2 + t.size + 1 + t.size) := by omega
  have f6 : ¬ (9223372036854775807 < 2 + t.size + 1 + t.size + s.size) := by omega
  have f7 : ¬ (9223372036854775807 < t.size + s.size) := by omega
  replace ho1 := Lib.hid ho1
  generalize dOf o0 = vd at p0 p1
  generalize hOf o0 = vh at p0 p1
  generalize uOf o0 = vu at p0 p1
  generalize o0.isSome = vb at p0 p1
  generalize dOf o1 = qd at p2 p3 p4
  generalize hOf o1 = qh at p2 p3 p4
  generalize uOf o1 = qu at p2 p3 p4
  generalize o1.isSome = qb at p2 p3 p4
  go_wp2_with fail
  refine (p0.out _ (hm.next hB)).mono ?_
  rintro e w3 ⟨rfl, hb⟩
  replace hB := hB.next hb
  clear hb
  go_upto_if 36 with (go_at_call 10; refine (blank_any _ _).mono ?_; rintro e w' ⟨rfl, rfl⟩)
  have c9 := heap_alloc_new w3 (.cells #[.string vd, .bool vh, .string vu] 25)
  replace hB := hB.alloc hB.size (.cells #[.string vd, .bool vh, .string vu] 25)
  generalize w3.alloc (.cells #[.string vd, .bool vh, .string vu] 25) = W3 at hB c9 ⊢
  generalize w3.heap.size = q9 at c9 ⊢
  go_cut [7] (fun s7 wx => s7 = .bool true ∧ Below w.heap.size w wx)
  case first => as_aux_lemma =>
    cases hbz : blankZ (c.toNat : Int)
    · go_wp2_with fail
      go_meet
      exact ⟨rfl, hB⟩
    · have p1b := Lib.hid (p1.out hbz)
      go_wp2_with fail
      refine (p1b.out _ (hm.next (hB.alloc hB.size _))).mono ?_
      rintro e w4 ⟨rfl, hb⟩
      have c9b := (hb.block q9 (by have := (Array.getElem?_eq_some_iff.1 c9).1; simp; omega)).trans ((heap_alloc_old W3 _ (Array.getElem?_eq_some_iff.1 c9).1).trans c9)
      replace hB := (hB.alloc hB.size _).next hb
      have c9c := (heap_alloc_old w4 (.cells #[.string vd, .bool vh, .string vu] 25) (Array.getElem?_eq_some_iff.1 c9b).1).trans c9b
      have y0 := cell_of_row _ q9 0 _ _ _ c9c
      have y1 := cell_of_row _ q9 1 _ _ _ c9c
      have y2 := cell_of_row _ q9 2 _ _ _ c9c
      simp only [List.getElem?_toArray, List.getElem?_cons_zero, List.getElem?_cons_succ] at y0 y1 y2
      clear c9 c9b c9c hb
      go_wp2_with fail
      go_meet
      exact ⟨rfl, hB.alloc hB.size _⟩
  case rest =>
    obtain ⟨rfl, hB⟩ := hcut
    clear c9
    go_wp2_with fail
    refine (p2.out _ (hm.next hB)).mono ?_
    rintro e w5 ⟨rfl, hb⟩
    replace hB := hB.next hb
    clear hb
    go_wp2_with fail
    have c13 := heap_alloc_new w5 (.cells #[.string qd, .bool qh, .string qu] 25)
    replace hB := hB.alloc hB.size (.cells #[.string qd, .bool qh, .string qu] 25)
    generalize w5.alloc (.cells #[.string qd, .bool qh, .string qu] 25) = W5 at hB c13 ⊢
    generalize w5.heap.size = q13 at c13 ⊢
    refine (p3.out _ (hm.next hB)).mono ?_
    rintro e w6 ⟨rfl, hb⟩
    replace hB := hB.next hb
    replace c13 := (hb.block _ (Array.getElem?_eq_some_iff.1 c13).1).trans c13
    clear hb
    go_upto_region 12 with (fail)
    have c15 := heap_alloc_new w6 (.cells #[.string qd, .bool qh, .string qu] 25)
    replace c13 := (heap_alloc_old w6 (.cells #[.string qd, .bool qh, .string qu] 25) (Array.getElem?_eq_some_iff.1 c13).1).trans c13
    replace hB := hB.alloc hB.size (.cells #[.string qd, .bool qh, .string qu] 25)
    generalize w6.alloc (.cells #[.string qd, .bool qh, .string qu] 25) = W6 at hB c13 c15 ⊢
    generalize w6.heap.size = q15 at c15 ⊢
    match hL : s.toList with
    | [] =>
      have hem := isEmpty0 hL
      have p4b := Lib.hid (p4.out (fun c r h => by rw [hL] at h; cases h))
      replace hL := Lib.hid hL
      go_wp2_with fail
      refine (p4b.out _ (hm.next hB)).mono ?_
      rintro e w7 ⟨rfl, hb⟩
      replace hB := hB.next hb
      have d13 := (heap_alloc_old w7 (.cells #[.string qd, .bool qh, .string qu] 25) (Array.getElem?_eq_some_iff.1 ((hb.block _ (Array.getElem?_eq_some_iff.1 c13).1).trans c13)).1).trans ((hb.block _ (Array.getElem?_eq_some_iff.1 c13).1).trans c13)
      have d15 := (heap_alloc_old w7 (.cells #[.string qd, .bool qh, .string qu] 25) (Array.getElem?_eq_some_iff.1 ((hb.block _ (Array.getElem?_eq_some_iff.1 c15).1).trans c15)).1).trans ((hb.block _ (Array.getElem?_eq_some_iff.1 c15).1).trans c15)
      have y0 := cell_of_row _ q13 0 _ _ _ d13
      have y1 := cell_of_row _ q13 1 _ _ _ d13
      have y2 := cell_of_row _ q13 2 _ _ _ d13
      have z0 := cell_of_row _ q15 0 _ _ _ d15
      have z1 := cell_of_row _ q15 1 _ _ _ d15
      have z2 := cell_of_row _ q15 2 _ _ _ d15
      simp only [List.getElem?_toArray, List.getElem?_cons_zero, List.getElem?_cons_succ] at y0 y1 y2 z0 z1 z2
      clear c13 c15 d13 d15 hb
      go_wp2_with fail
      go_ret
      exact ⟨rfl, hB.alloc hB.size _⟩
    | c0 :: r0 =>
      have hem := isEmpty1 hL
      obtain ⟨hp, hc⟩ := get1 hL
      have hpI : (0 : Int) < (s.size : Int) := by omega
      by_cases h46 : c0 = 46
      · have hb := u8_yes (d := 46) h46
        replace hb : ((c0.toNat : Int) == 46) = true ∧ ((c0.toNat : Int) != 46) = false := hb
        obtain ⟨hb1, hb2⟩ := hb
        replace hL := Lib.hid hL
        replace h46 := Lib.hid h46
        go_wp2_with fail
        go_ret
        exact ⟨rfl, hB⟩
      · have hb := u8_no (d := 46) h46
        replace hb : ((c0.toNat : Int) == 46) = false ∧ ((c0.toNat : Int) != 46) = true := hb
        obtain ⟨hb1, hb2⟩ := hb
        by_cases hdg : digitZ (c0.toNat : Int) 10 < 0
        · have hdf := (digitZ_dgt _).1 hdg
          have p4b := Lib.hid (p4.out (fun c r h => by
            rw [hL] at h
            obtain rfl := (List.cons.inj h).1
            unfold dotD; rw [hdf]; simpa using h46))
          replace hL := Lib.hid hL
          replace h46 := Lib.hid h46
          replace hdf := Lib.hid hdf
          go_upto_region 14 with (go_at_call 9; refine (digit_any _ _ _ (byte_nn _) (byte_le _)).mono ?_; rintro e w' ⟨rfl, rfl⟩)
          go_wp2_with fail
          refine (p4b.out _ (hm.next hB)).mono ?_
          rintro e w7 ⟨rfl, hb⟩
          replace hB := hB.next hb
          have d13 := (heap_alloc_old w7 (.cells #[.string qd, .bool qh, .string qu] 25) (Array.getElem?_eq_some_iff.1 ((hb.block _ (Array.getElem?_eq_some_iff.1 c13).1).trans c13)).1).trans ((hb.block _ (Array.getElem?_eq_some_iff.1 c13).1).trans c13)
          have d15 := (heap_alloc_old w7 (.cells #[.string qd, .bool qh, .string qu] 25) (Array.getElem?_eq_some_iff.1 ((hb.block _ (Array.getElem?_eq_some_iff.1 c15).1).trans c15)).1).trans ((hb.block _ (Array.getElem?_eq_some_iff.1 c15).1).trans c15)
          have y0 := cell_of_row _ q13 0 _ _ _ d13
          have y1 := cell_of_row _ q13 1 _ _ _ d13
          have y2 := cell_of_row _ q13 2 _ _ _ d13
          have z0 := cell_of_row _ q15 0 _ _ _ d15
          have z1 := cell_of_row _ q15 1 _ _ _ d15
          have z2 := cell_of_row _ q15 2 _ _ _ d15
          simp only [List.getElem?_toArray, List.getElem?_cons_zero, List.getElem?_cons_succ] at y0 y1 y2 z0 z1 z2
          clear c13 c15 d13 d15 hb
          go_wp2_with fail
          go_ret
          exact ⟨rfl, hB.alloc hB.size _⟩
        · have hd0 : 0 ≤ digitZ (c0.toNat : Int) 10 := by omega
          replace hL := Lib.hid hL
          replace h46 := Lib.hid h46
          go_wp2_with (go_at_call 9; refine (digit_any _ _ _ (byte_nn _) (byte_le _)).mono ?_; rintro e w' ⟨rfl, rfl⟩)
          go_ret
          exact ⟨rfl, hB⟩
set_option maxRecDepth 100000 in
set_option maxHeartbeats 2000000 in
theorem refreshBlank_walk (s : ByteArray) (c n : Int) (w : World) (ws : s.size ≤ maxLen) (wc : (Lit.int .u8 c).wf = true) (wn : (Lit.int .i64 n).wf = true) (hm : ML w) :
    Calls Tryd.prog 4 #[.string s, .int .u8 c, .int .i64 n] w (RetB w true) := by
  have hB : Below w.heap.size w w := Below.refl _ _
  have hbn := bounds_i64 wn
  have hbc := bounds_u8 wc
  by_cases h2 : 300 < s.size
  · have h2I : (300 : Int) < (s.size : Int) := by omega
    go_enter Tryd.func4, Tryd.ntmps4
    go_wp2_with fail
    refine (small21_any _ hm).mono ?_
    rintro e w1 ⟨rfl, hb⟩
    replace hB := hB.next hb
    clear hb
    go_wp2_with fail
    go_ret
    exact ⟨rfl, hB⟩
  by_cases h1 : n < 0
  · have h2I : (s.size : Int) ≤ 300 := by omega
    go_enter Tryd.func4, Tryd.ntmps4
    go_wp2_with fail
    refine (small21_any _ hm).mono ?_
    rintro e w1 ⟨rfl, hb⟩
    replace hB := hB.next hb
    clear hb
    go_wp2_with fail
    go_ret
    exact ⟨rfl, hB⟩
  obtain ⟨a, rfl⟩ : ∃ a : Nat, n = (a : Int) := ⟨n.toNat, by omega⟩
  obtain ⟨b, rfl⟩ : ∃ b : UInt8, c = (b.toNat : Int) := ⟨UInt8.ofNat c.toNat, by rw [UInt8.toNat_ofNat_of_lt' (by show c.toNat < 256; omega)]; omega⟩
  exact refreshBlank_in s b a w hm (by omega) (by omega)
end Go.Proofs.YtjbfkaniccljnaaDoor
