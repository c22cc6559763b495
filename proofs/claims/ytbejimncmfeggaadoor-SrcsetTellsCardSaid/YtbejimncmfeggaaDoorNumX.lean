/- The contract of the reference's Float. -/
import Derived.Test.YtbejimncmfeggaaDoorNumU
namespace Go.Proofs.YtbejimncmfeggaaDoor
open Go.RowKit
set_option linter.unusedVariables false
set_option linter.unusedSimpArgs false

/-- A float, and whether there is one; nothing made. -/
def RetG (w : World) (o : Option (Bool × Nat × Int)) (e : Ending) (w' : World) : Prop := e = .returned (.tuple #[.float .f64 ((o.map floatW).getD 0), .bool o.isSome]) ∧ w = w'
theorem retG_none {w : World} {o : Option (Bool × Nat × Int)} (h : o = none) : RetG w o (.returned (.tuple #[.float .f64 0, .bool false])) w := by subst h; exact ⟨rfl, rfl⟩
theorem sign_key (s : ByteArray) : ∃ (x : ByteArray) (neg : Bool), x.size ≤ s.size ∧ Hid (floatP s.toList = (floatQ x.toList).map fun y => (neg, y)) ∧
    ((s.toList.isEmpty = true ∧ neg = false ∧ x = s) ∨
     (s.toList.isEmpty = false ∧ neg = true ∧ (1 : Int) ≤ (s.size : Int) ∧ (∃ h : 0 < s.size, ((s[0].toNat : Int) == 45) = true) ∧ s.extract 1 s.size = x) ∨
     (s.toList.isEmpty = false ∧ neg = false ∧ (1 : Int) ≤ (s.size : Int) ∧ (∃ h : 0 < s.size, ((s[0].toNat : Int) == 45) = false) ∧ x = s)) := by
  match hL : s.toList with
  | [] => exact ⟨s, false, Nat.le_refl _, Lib.hid (by rw [hL]; rfl), .inl ⟨rfl, rfl, rfl⟩⟩
  | c :: r =>
    obtain ⟨hp, hc⟩ := get_first hL
    by_cases h : c = 45
    · subst h
      exact ⟨_, true, size_from s 1, Lib.hid (by rw [from_one hL]; rfl), .inr (.inl ⟨rfl, rfl, by omega, ⟨hp, by rw [hc]; decide⟩, rfl⟩)⟩
    · refine ⟨s, false, Nat.le_refl _, Lib.hid ?_, .inr (.inr ⟨rfl, rfl, by omega, ⟨hp, by rw [hc]; exact (u8_not (d := 45) h).1⟩, rfl⟩)⟩
      rw [hL]
      unfold floatP
      split
      · rename_i h2; exact absurd (List.cons.inj h2).1 h
      · rfl
theorem expR_bd {l : List UInt8} {v : Int} (h : expR l = some v) : -9999 ≤ v ∧ v ≤ 9999 := by
  cases l with
  | nil => have : (0 : Int) = v := Option.some.inj h; omega
  | cons c r =>
    by_cases hc : c = 101 ∨ c = 69
    · exact expoV_bd (((if_pos hc : expR (c :: r) = expoV r).symm).trans h)
    · have : (none : Option Int) = some v := ((if_neg hc : expR (c :: r) = none).symm).trans h
      cases this
theorem span_len (l : List UInt8) : (span10 l).1.length ≤ l.length := by
  have := congrArg List.length (span10_all l); rw [List.length_append] at this; omega
theorem span_take (l : List UInt8) : l.take (span10 l).1.length = (span10 l).1 := (congrArg (List.take (span10 l).1.length) (span10_all l)).trans List.take_left
theorem span_drop (l : List UInt8) : l.drop (span10 l).1.length = (span10 l).2 := (congrArg (List.drop (span10 l).1.length) (span10_all l)).trans List.drop_left
theorem span_cut (x : ByteArray) : (x.extract 0 (span10 x.toList).1.length).toList = (span10 x.toList).1 ∧ (x.extract (span10 x.toList).1.length x.size).toList = (span10 x.toList).2 := by
  constructor
  · rw [toList_extract, List.drop_zero, span_take]
  · rw [toList_from, span_drop]
set_option maxRecDepth 100000 in
set_option maxHeartbeats 4000000 in
theorem refFloat_any (s : ByteArray) (w : World) (hs : s.size ≤ 1000000) :
    Calls Tryd.prog 26 #[.string s] w (RetG w (floatP s.toList)) := by
  obtain ⟨x, neg, hxz, hP, hws⟩ := sign_key s
  replace hws := Lib.hid hws
  have hxs : x.size ≤ 1000000 := by omega
  have hdx := Lib.hid (fun w => refDigits_any x w (by omega))
  obtain ⟨hta, hty⟩ := span_cut x
  have hlen := span_len x.toList
  rw [size_toList] at hlen
  have hQ := Lib.hid (refQ_eq x.toList)
  unfold refQ at hQ
  generalize hn1 : (span10 x.toList).1.length = n1 at hta hty hlen hdx
  obtain ⟨ta, ea⟩ : ∃ t, x.extract 0 n1 = t := ⟨_, rfl⟩
  obtain ⟨y, ey⟩ : ∃ t, x.extract n1 x.size = t := ⟨_, rfl⟩
  rw [ea] at hta
  rw [ey] at hty
  rw [← hta, ← hty] at hQ
  have htz : ta.size ≤ 1000000 := by rw [← ea, ByteArray.size_extract]; omega
  have hyz : y.size ≤ 1000000 := by rw [← ey, ByteArray.size_extract]; omega
  have hlI : (n1 : Int) ≤ (x.size : Int) := by omega
  -- behind the digits: a point, or none
  have hY : (∃ (z : ByteArray), y.toList.isEmpty = false ∧ (1 : Int) ≤ (y.size : Int) ∧ (∃ h : 0 < y.size, ((y[0].toNat : Int) == 46) = true) ∧ y.extract 1 y.size = z ∧ Hid ((span10 z.toList).1 = []) ∧ Hid (floatQ x.toList = none)) ∨
      (∃ (all y2 : ByteArray) (f : Nat) (B : Bool), Hid (floatQ x.toList = finR all.toList f y2.toList) ∧ all.size ≤ 2000000 ∧ y2.size ≤ 1000000 ∧ f ≤ 1000000 ∧
        ((y.toList.isEmpty = true ∧ B = false ∧ all = ta ∧ y2 = y ∧ f = 0) ∨
         (y.toList.isEmpty = false ∧ B = false ∧ (1 : Int) ≤ (y.size : Int) ∧ (∃ h : 0 < y.size, ((y[0].toNat : Int) == 46) = false) ∧ all = ta ∧ y2 = y ∧ f = 0) ∨
         (y.toList.isEmpty = false ∧ B = true ∧ (1 : Int) ≤ (y.size : Int) ∧ (∃ h : 0 < y.size, ((y[0].toNat : Int) == 46) = true) ∧ ∃ z : ByteArray, y.extract 1 y.size = z ∧ z.size ≤ 1000000 ∧ Hid ((span10 z.toList).1.length = f) ∧ ((f : Int) == 0) = false ∧
           (1 : Int) + (f : Int) ≤ (y.size : Int) ∧ ∃ b : ByteArray, y.extract 1 (1 + f) = b ∧ ta ++ b = all ∧ ta.size + b.size ≤ 2000000 ∧ y.extract (1 + f) y.size = y2))) := by
    have hq := hQ.out
    match hL : y.toList with
    | [] =>
      rw [hL] at hq
      exact .inr ⟨ta, y, 0, false, Lib.hid (by rw [hL]; exact hq.symm), by omega, hyz, by omega, .inl ⟨rfl, rfl, rfl, rfl, rfl⟩⟩
    | c :: r =>
      rw [hL] at hq
      dsimp only at hq
      obtain ⟨hp, hc⟩ := get_first hL
      by_cases h46 : c = 46
      · rw [if_pos h46] at hq
        have hz := from_one hL
        by_cases hf : (span10 r).1 = []
        · rw [if_pos hf] at hq
          exact .inl ⟨_, rfl, by omega, ⟨hp, by rw [hc, h46]; decide⟩, rfl, Lib.hid (by rw [hz]; exact hf), Lib.hid hq.symm⟩
        · rw [if_neg hf] at hq
          have hl : (span10 r).1.length ≤ r.length := span_len r
          have hyl : y.size = r.length + 1 := by rw [← size_toList, hL]; rfl
          have hrall := span10_all r
          have hb : (y.extract 1 (1 + (span10 r).1.length)).toList = (span10 r).1 := by
            rw [toList_extract, hL, show 1 + (span10 r).1.length = (span10 r).1.length + 1 by omega, List.take_succ_cons]
            exact span_take r
          have hy2 : (y.extract (1 + (span10 r).1.length) y.size).toList = (span10 r).2 := by
            rw [toList_from, hL, show 1 + (span10 r).1.length = (span10 r).1.length + 1 by omega, List.drop_succ_cons]
            exact span_drop r
          have hbz : (y.extract 1 (1 + (span10 r).1.length)).size ≤ 1000000 := by rw [← size_toList, hb]; omega
          refine .inr ⟨ta ++ y.extract 1 (1 + (span10 r).1.length), y.extract (1 + (span10 r).1.length) y.size, (span10 r).1.length, true, Lib.hid ?_, ?_, ?_, by omega, .inr (.inr ⟨rfl, rfl, by omega, ⟨hp, by rw [hc, h46]; decide⟩, _, rfl, ?_, Lib.hid (by rw [hz]), ?_, by omega, _, rfl, rfl, by omega, rfl⟩)⟩
          · rw [toList_append, hb, hy2]; exact hq.symm
          · rw [ByteArray.size_append]; omega
          · exact Nat.le_trans (size_from _ _) hyz
          · exact Nat.le_trans (size_from _ _) hyz
          · have := List.length_pos_iff.2 hf
            simp only [beq_eq_false_iff_ne, ne_eq]; omega
      · rw [if_neg h46] at hq
        exact .inr ⟨ta, y, 0, false, Lib.hid (by rw [hL]; exact hq.symm), by omega, hyz, by omega, .inr (.inl ⟨rfl, rfl, by omega, ⟨hp, by rw [hc]; exact (u8_not (d := 46) h46).1⟩, rfl, rfl, rfl⟩)⟩
  replace hn1 := Lib.hid hn1
  replace hta := Lib.hid hta
  replace hty := Lib.hid hty
  replace hlen := Lib.hid hlen
  clear hQ
  go_enter Tryd.func26, Tryd.ntmps26
  go_upto_region 1 with (fail)
  go_cut [4] (fun s4 wx => s4 = .bool neg ∧ w = wx)
  case first => as_aux_lemma =>
    rcases hws.out with ⟨a1, rfl, rfl⟩ | ⟨a1, rfl, a2, ⟨a3, a4⟩, a5⟩ | ⟨a1, rfl, a2, ⟨a3, a4⟩, rfl⟩
    all_goals
      go_wp2_with fail
      go_meet
      exact ⟨rfl, rfl⟩
  case rest =>
    obtain ⟨rfl, rfl⟩ := hcut
    go_upto_if 23 with (fail)
    go_cut [0] (fun s0 wx => s0 = .string x ∧ w = wx)
    case first => as_aux_lemma =>
      rcases hws.out with ⟨a1, rfl, rfl⟩ | ⟨a1, rfl, a2, ⟨a3, a4⟩, a5⟩ | ⟨a1, rfl, a2, ⟨a3, a4⟩, rfl⟩
      all_goals
        go_wp2_with fail
        go_meet
        exact ⟨by first | rfl | rw [a5], rfl⟩
    case rest =>
      obtain ⟨rfl, rfl⟩ := hcut
      go_upto_region 8 with (go_at_call 40; refine (hdx.out _).mono ?_; rintro e w' ⟨rfl, rfl⟩)
      rcases hY with ⟨z, b1, b2, ⟨b3, b4⟩, b5, b6, b7⟩ | ⟨all, y2, f, B, hQ2, hallz, hy2z, hfz, hways⟩
      · have hno : Hid (floatP s.toList = none) := Lib.hid (by rw [hP.out, b7.out]; rfl)
        have hdz : Hid (∀ w, Calls Tryd.prog 40 #[.string z] w fun e w' => e = .returned (.int .i64 0) ∧ w = w') := Lib.hid (fun w => by
          have := refDigits_any z w (by rw [← b5]; exact Nat.le_trans (size_from y 1) (by omega))
          rw [b6.out] at this; exact this)
        go_wp2_with (go_at_call 40; refine (hdz.out _).mono ?_; rintro e w' ⟨rfl, rfl⟩)
        go_ret2
        exact retG_none hno.out
      replace hways := Lib.hid hways
      go_cut [40] (fun s40 wx => s40 = .bool B ∧ w = wx)
      case first => as_aux_lemma =>
        rcases hways.out with ⟨b1, rfl, rfl, rfl, rfl⟩ | ⟨b1, rfl, b2, ⟨b3, b4⟩, rfl, rfl, rfl⟩ | ⟨b1, rfl, b2, ⟨b3, b4⟩, _⟩
        all_goals
          go_wp2_with fail
          go_meet
          exact ⟨rfl, rfl⟩
      case rest =>
        obtain ⟨rfl, rfl⟩ := hcut
        go_upto_if 40 with (fail)
        go_cut [0, 6, 7] (fun s0 s6 s7 wx => s0 = .string y2 ∧ s6 = .string all ∧ s7 = .int .i64 (f : Int) ∧ w = wx)
        case first => as_aux_lemma =>
          rcases hways.out with ⟨b1, rfl, rfl, rfl, rfl⟩ | ⟨b1, rfl, b2, ⟨b3, b4⟩, rfl, rfl, rfl⟩ | ⟨b1, rfl, b2, ⟨b3, b4⟩, z, c1, c2, c3, c4, c5, b, c6, c7, c8, c9⟩
          · go_wp2_with fail
            go_meet
            exact ⟨rfl, rfl, rfl, rfl⟩
          · go_wp2_with fail
            go_meet
            exact ⟨rfl, rfl, rfl, rfl⟩
          · have hdz : Hid (∀ w, Calls Tryd.prog 40 #[.string z] w fun e w' => e = .returned (.int .i64 (f : Int)) ∧ w = w') := Lib.hid (fun w => by
              have := refDigits_any z w (by omega)
              rw [c3.out] at this; exact this)
            have d1 : IntKind.i64.wrap (1 + (f : Int)) = 1 + (f : Int) := IntWalk.i64_in _ (by omega)
            have d2 : (1 + (f : Int)).toNat = 1 + f := by omega
            have d3 : (1 : Int) ≤ 1 + (f : Int) := by omega
            have d4 : (0 : Int) ≤ 1 + (f : Int) := by omega
            have d5 : ¬ (9223372036854775807 < ta.size + b.size) := by omega
            go_wp2_with (go_at_call 40; refine (hdz.out _).mono ?_; rintro e w' ⟨rfl, rfl⟩)
            go_meet
            exact ⟨rfl, rfl, rfl, rfl⟩
        case rest =>
          obtain ⟨rfl, rfl, rfl, rfl⟩ := hcut
          clear hways hws
          have hwA := Lib.hid (fun w => wholeR_any all w (by omega))
          have hwE := Lib.hid (fun w => refExp_any y2 w (by omega))
          have hP2 : Hid (floatP s.toList = (finR all.toList f y2.toList).map fun y => (neg, y)) := Lib.hid (by rw [hP.out, hQ2.out])
          clear hP hQ2
          cases hD : digs1 10 all.toList with
          | none =>
            have hno : Hid (floatP s.toList = none) := Lib.hid (by rw [hP2.out]; unfold finR; rw [hD]; rfl)
            have hw2 : Hid (∀ w, Calls Tryd.prog 39 #[.string all] w fun e w' => e = .returned (.tuple #[.int .i64 0, .bool false]) ∧ w = w') := Lib.hid (fun w => by have := hwA.out w; rw [hD] at this; exact this)
            have hw3 : Hid (∀ w, Calls Tryd.prog 41 #[.string y2] w fun e w' => e = .returned (.tuple #[.int .i64 ((expR y2.toList).getD 0), .bool (expR y2.toList).isSome]) ∧ w = w') := Lib.hid (fun w => hwE.out w)
            generalize (expR y2.toList).getD 0 = ev at hw3
            generalize (expR y2.toList).isSome = eb at hw3
            replace hD := Lib.hid hD
            go_wp2_with (first
              | (go_at_call 39; refine (hw2.out _).mono ?_; rintro e w' ⟨rfl, rfl⟩)
              | (go_at_call 41; refine (hw3.out _).mono ?_; rintro e w' ⟨rfl, rfl⟩))
            go_ret2
            exact retG_none hno.out
          | some m =>
            have hw2 : Hid (∀ w, Calls Tryd.prog 39 #[.string all] w fun e w' => e = .returned (.tuple #[.int .i64 ((min m maxI : Nat) : Int), .bool true]) ∧ w = w') := Lib.hid (fun w => by have := hwA.out w; rw [hD] at this; exact this)
            cases hE : expR y2.toList with
            | none =>
              have hno : Hid (floatP s.toList = none) := Lib.hid (by rw [hP2.out]; unfold finR; rw [hD]; dsimp only; rw [hE]; rfl)
              have hw3 : Hid (∀ w, Calls Tryd.prog 41 #[.string y2] w fun e w' => e = .returned (.tuple #[.int .i64 0, .bool false]) ∧ w = w') := Lib.hid (fun w => by have := hwE.out w; rw [hE] at this; exact this)
              generalize ((min m maxI : Nat) : Int) = mm at hw2
              replace hD := Lib.hid hD
              replace hE := Lib.hid hE
              go_wp2_with (first
                | (go_at_call 39; refine (hw2.out _).mono ?_; rintro e w' ⟨rfl, rfl⟩)
                | (go_at_call 41; refine (hw3.out _).mono ?_; rintro e w' ⟨rfl, rfl⟩))
              go_ret2
              exact retG_none hno.out
            | some ev =>
              have hw3 : Hid (∀ w, Calls Tryd.prog 41 #[.string y2] w fun e w' => e = .returned (.tuple #[.int .i64 ev, .bool true]) ∧ w = w') := Lib.hid (fun w => by have := hwE.out w; rw [hE] at this; exact this)
              have hbd := expR_bd hE
              have hF : Hid (floatP s.toList = (if 15 < all.size ∨ ev - (f : Int) < -22 ∨ 22 < ev - (f : Int) then none else some (m, ev - (f : Int))).map fun y => (neg, y)) := Lib.hid (by rw [hP2.out]; unfold finR; rw [hD]; dsimp only; rw [hE]; dsimp only; rw [size_toList])
              have hml := digs1_le hD
              rw [size_toList] at hml
              clear hP2 hwA hwE
              replace hD := Lib.hid hD
              replace hE := Lib.hid hE
              have k0 : IntKind.i64.wrap (ev - (f : Int)) = ev - (f : Int) := IntWalk.i64_in _ (by omega)
              by_cases h15 : 15 < all.size
              · have hno : Hid (floatP s.toList = none) := Lib.hid (by rw [hF.out, if_pos (.inl h15)]; rfl)
                have h15I : (15 : Int) < (all.size : Int) := by omega
                generalize ((min m maxI : Nat) : Int) = mm at hw2
                replace hml := Lib.hid hml
                go_wp2_with (first
                  | (go_at_call 39; refine (hw2.out _).mono ?_; rintro e w' ⟨rfl, rfl⟩)
                  | (go_at_call 41; refine (hw3.out _).mono ?_; rintro e w' ⟨rfl, rfl⟩))
                go_ret2
                exact retG_none hno.out
              have h15I : (all.size : Int) ≤ 15 := by omega
              have hm15 : m < 10 ^ 15 := Nat.lt_of_lt_of_le hml (Nat.pow_le_pow_right (by decide) (by omega))
              have hmin : min m maxI = m := by unfold maxI; omega
              rw [hmin] at hw2
              replace hmin := Lib.hid hmin
              replace hml := Lib.hid hml
              by_cases h1 : ev - (f : Int) < -22
              · have hno : Hid (floatP s.toList = none) := Lib.hid (by rw [hF.out, if_pos (.inr (.inl h1))]; rfl)
                replace hm15 := Lib.hid hm15
                go_wp2_with (first
                  | (go_at_call 39; refine (hw2.out _).mono ?_; rintro e w' ⟨rfl, rfl⟩)
                  | (go_at_call 41; refine (hw3.out _).mono ?_; rintro e w' ⟨rfl, rfl⟩))
                go_ret2
                exact retG_none hno.out
              have h1b : decide (ev - (f : Int) < -22) = false := decide_eq_false h1
              by_cases h2 : 22 < ev - (f : Int)
              · have hno : Hid (floatP s.toList = none) := Lib.hid (by rw [hF.out, if_pos (.inr (.inr h2))]; rfl)
                replace hm15 := Lib.hid hm15
                go_wp2_with (first
                  | (go_at_call 39; refine (hw2.out _).mono ?_; rintro e w' ⟨rfl, rfl⟩)
                  | (go_at_call 41; refine (hw3.out _).mono ?_; rintro e w' ⟨rfl, rfl⟩))
                go_ret2
                exact retG_none hno.out
              have hyes : Hid (floatP s.toList = some (neg, m, ev - (f : Int))) := Lib.hid (by rw [hF.out, if_neg (by omega)]; rfl)
              obtain ⟨fm, fi, hf⟩ := read_int (n := m) (Nat.lt_trans hm15 (by decide))
              replace hf := Lib.hid hf
              replace hm15 := Lib.hid hm15
              clear hF
              obtain ⟨k, hk⟩ : ∃ k : Int, ev - (f : Int) = k := ⟨_, rfl⟩
              rw [hk] at h1 h2 hyes k0
              have hK : k.natAbs ≤ 22 := by omega
              have hst : Hid (∀ j, j < 22 → ∀ w t, (binOp .mul t (.float .f64 (powB j)) (.float .f64 4621819117588971520)).run Tryd.prog w = .ok (.float .f64 (powB (j + 1))) w) := Lib.hid (fun j hj w t =>
                run_float_arith w .mul t .f64 _ _ _ (pow_step ⟨j, hj⟩))
              have hsg : (neg = false ∧ Hid (floatW (neg, m, k) = moveB (floatOfInt .f64 (m : Int)) k)) ∨ (neg = true ∧ ((m : Int) != 0) = false ∧ Hid (floatW (neg, m, k) = moveB (floatOfInt .f64 (m : Int)) k)) ∨
                  (neg = true ∧ ((m : Int) != 0) = true ∧ Hid (floatW (neg, m, k) = Op.negFloat .f64 (moveB (floatOfInt .f64 (m : Int)) k))) := by
                cases neg
                · exact .inl ⟨rfl, Lib.hid rfl⟩
                · by_cases h0 : m = 0
                  · exact .inr (.inl ⟨rfl, by rw [h0]; rfl, Lib.hid (by unfold floatW; rw [if_neg (fun h => h.2 h0)])⟩)
                  · exact .inr (.inr ⟨rfl, by simp only [bne_iff_ne, ne_eq]; omega, Lib.hid (by unfold floatW; rw [if_pos ⟨rfl, h0⟩])⟩)
              have hun : ∀ v : Nat, Op.unary .neg (.float .f64 v) = (pure (.float .f64 (Op.negFloat .f64 v)) : Sem Value) := fun v => rfl
              have knI : IntKind.i64.wrap (-k) = -k := IntWalk.i64_in _ (by omega)
              have k22 : ¬ (22 < k) := h2
              have km22 : -22 ≤ k := by omega
              go_wp2_with (first
                | (go_at_call 39; refine (hw2.out _).mono ?_; rintro e w' ⟨rfl, rfl⟩)
                | (go_at_call 41; refine (hw3.out _).mono ?_; rintro e w' ⟨rfl, rfl⟩))
              go_loop [13, 14] (fun pv iv => ∃ j : Nat, iv = .int .i64 j ∧ pv = .float .f64 (powB j) ∧ j ≤ k.natAbs) (fun _ iv => k.natAbs - (intOf iv).toNat)
              case atStart => exact ⟨0, rfl, rfl, Nat.zero_le _⟩
              case round =>
                obtain ⟨j, rfl, rfl, hj⟩ := hrel
                by_cases hlt : j < k.natAbs
                · have hr := hst.out j (by omega)
                  have hcase : (j : Int) < k ∨ (¬ (j : Int) < k ∧ (j : Int) < -k) := by omega
                  rcases hcase with c1 | ⟨c1, c2⟩
                  all_goals
                    go_wp2_with fail
                    go_round
                    case rel => exact ⟨j + 1, by go_num, rfl, by omega⟩
                    case measure => simp [intOf]; omega
                · obtain rfl : j = k.natAbs := by omega
                  have c1 : ¬ (k.natAbs : Int) < k := by omega
                  have c2 : ¬ (k.natAbs : Int) < -k := by omega
                  by_cases hkn : k < 0
                  · have hr : ∀ w t, (binOp .quo t (.float .f64 (floatOfInt .f64 (m : Int))) (.float .f64 (powB k.natAbs))).run Tryd.prog w = .ok (.float .f64 (moveB (floatOfInt .f64 (m : Int)) k)) w := fun w t => run_float_arith w .quo t .f64 _ _ _ (move_neg hf.out hkn (by omega))
                    rcases hsg with ⟨rfl, hW⟩ | ⟨rfl, s1, hW⟩ | ⟨rfl, s1, hW⟩
                    all_goals
                      go_wp2_with fail
                      go_ret2
                      unfold RetG
                      rw [hyes.out]
                      exact ⟨by rw [show ∀ y, ((some y : Option (Bool × Nat × Int)).map floatW).getD 0 = floatW y from fun _ => rfl, hW.out]; rfl, rfl⟩
                  · have hr : ∀ w t, (binOp .mul t (.float .f64 (floatOfInt .f64 (m : Int))) (.float .f64 (powB k.natAbs))).run Tryd.prog w = .ok (.float .f64 (moveB (floatOfInt .f64 (m : Int)) k)) w := fun w t => run_float_arith w .mul t .f64 _ _ _ (move_pos hf.out hkn (by omega))
                    have hk0 : 0 ≤ k := by omega
                    rcases hsg with ⟨rfl, hW⟩ | ⟨rfl, s1, hW⟩ | ⟨rfl, s1, hW⟩
                    all_goals
                      go_wp2_with fail
                      go_ret2
                      unfold RetG
                      rw [hyes.out]
                      exact ⟨by rw [show ∀ y, ((some y : Option (Bool × Nat × Int)).map floatW).getD 0 = floatW y from fun _ => rfl, hW.out]; rfl, rfl⟩
end Go.Proofs.YtbejimncmfeggaaDoor
