/- The contract of number.Float. -/
import Derived.Test.YtbejimncmfeggaaDoorNumG
import Derived.Test.YtbejimncmfeggaaDoorCut
namespace Go.Proofs.YtbejimncmfeggaaDoor
open Go.RowKit
set_option linter.unusedVariables false

theorem indexAny_cut (l : List UInt8) : (Lib.indexAny l [101, 69] = -1 ∧ cutE l = (l, none)) ∨ ∃ i : Nat, Lib.indexAny l [101, 69] = (i : Int) ∧ i < l.length ∧ cutE l = (l.take i, some (l.drop (i + 1))) := by
  induction l with
  | nil => exact .inl ⟨rfl, rfl⟩
  | cons c r ih =>
    unfold Lib.indexAny cutE
    by_cases h : c = 101 ∨ c = 69
    · have hc : ([101, 69] : List UInt8).contains c = true := by rcases h with rfl | rfl <;> rfl
      rw [if_pos hc, if_pos h]
      exact .inr ⟨0, rfl, by simp, by simp⟩
    · have hc : ¬ ([101, 69] : List UInt8).contains c = true := by simpa using h
      rw [if_neg hc, if_neg h]
      rcases ih with ⟨h1, h2⟩ | ⟨i, h1, hi, h2⟩
      · rw [h1, h2]; exact .inl ⟨rfl, rfl⟩
      · rw [h1, h2]
        have hn : ¬ (((i : Int) == -1) = true) := by rw [beq_iff_eq]; omega
        rw [if_neg hn]
        exact .inr ⟨i + 1, by omega, by simp; omega, by simp⟩
/-- The float that a number moved so far stands for. -/
def floatW (x : Bool × Nat × Int) : Nat := if x.1 = true ∧ x.2.1 ≠ 0 then Op.negFloat .f64 (moveB (floatOfInt .f64 (x.2.1 : Int)) x.2.2) else moveB (floatOfInt .f64 (x.2.1 : Int)) x.2.2
/-- A float, and whether there is one. -/
def RetF (w : World) (o : Option (Bool × Nat × Int)) (e : Ending) (w' : World) : Prop := e = .returned (.tuple #[.float .f64 ((o.map floatW).getD 0), .bool o.isSome]) ∧ Below w.heap.size w w'
theorem retF_none {w w' : World} {o : Option (Bool × Nat × Int)} (h : o = none) (hb : Below w.heap.size w w') : RetF w o (.returned (.tuple #[.float .f64 0, .bool false])) w' := by subst h; exact ⟨rfl, hb⟩
theorem read_int {n : Nat} (h : n < 2 ^ 53) : ∃ m i, Ieee.double.read (floatOfInt .f64 (n : Int)) = .number false m i := by
  have e : floatOfInt .f64 (n : Int) = Ieee.double.nearest false n 0 := by
    unfold floatOfInt FloatKind.nearest
    simp
    rfl
  rw [e]
  by_cases h0 : n = 0
  · subst h0; exact ⟨_, _, read_zero⟩
  · exact ⟨_, _, read_nat h0 h⟩
/-- strings.IndexAny at this text and the letters e, E. -/
def AnyE (x : ByteArray) : Prop := ∀ w, Calls Tryd.prog 50 #[.string x, .string ⟨#[101, 69]⟩] w fun e w' => e = .returned (.int .i64 (Lib.indexAny x.toList [101, 69])) ∧ Below w.heap.size w w'
/-- The text behind the sign. -/
def behindM (s : ByteArray) : ByteArray := ⟨(Lib.trimPrefix s.data.toList [45]).toArray⟩
theorem floatP_behind (s : ByteArray) : floatP s.toList = (floatQ (behindM s).toList).map fun x => (Lib.hasPrefix s.data.toList [45], x) := by
  have e0 : (behindM s).toList = Lib.trimPrefix s.data.toList [45] := toList_mk _
  have e2 : s.data.toList = s.toList := (ByteArray.toList_eq ..).symm
  rw [e0, e2]
  unfold Lib.trimPrefix
  match hL : s.toList with
  | [] => rfl
  | c :: r =>
    have hp : Lib.hasPrefix (c :: r) [45] = ((45 : UInt8) == c) := hasPrefix1 45 (c :: r)
    by_cases h : c = 45
    · subst h
      rw [if_pos (by rw [hp]; rfl), hp]; rfl
    · have e : ((45 : UInt8) == c) = false := by simpa using Ne.symm h
      rw [if_neg (by rw [hp, e]; decide), hp, e]
      unfold floatP
      split
      · rename_i h2; exact absurd (List.cons.inj h2).1 h
      · rfl
theorem behindM_size (s : ByteArray) : (behindM s).size ≤ s.size := by
  have e0 : (behindM s).toList = Lib.trimPrefix s.data.toList [45] := toList_mk _
  have e2 : s.data.toList = s.toList := (ByteArray.toList_eq ..).symm
  rw [← size_toList, e0, e2, ← size_toList]
  unfold Lib.trimPrefix
  split
  · rw [List.length_drop]; omega
  · exact Nat.le_refl _
/-- Behind the exponent: the point, the digits. -/
def tailQ (l : List UInt8) (m : Int) : Option (Nat × Int) :=
  if ((cutC 46 l).2.2 = true ∧ (cutC 46 l).2.1 = []) ∨ 15 < (cutC 46 l).1.length + (cutC 46 l).2.1.length then none
  else match digs1 10 ((cutC 46 l).1 ++ (cutC 46 l).2.1) with
    | none => none
    | some n => if m - (cutC 46 l).2.1.length < -22 ∨ 22 < m - (cutC 46 l).2.1.length then none else some (n, m - (cutC 46 l).2.1.length)
theorem floatQ_none {l : List UInt8} (h : cutE l = (l, none)) : floatQ l = tailQ l 0 := by
  unfold floatQ; rw [h]; rfl
theorem floatQ_bad {l a b : List UInt8} (h : cutE l = (a, some b)) (he : expoV b = none) : floatQ l = none := by
  unfold floatQ; rw [h]; dsimp only; rw [he]
theorem floatQ_some {l a b : List UInt8} {m : Int} (h : cutE l = (a, some b)) (he : expoV b = some m) : floatQ l = tailQ a m := by
  unfold floatQ; rw [h]; dsimp only; rw [he]; rfl

set_option maxRecDepth 100000 in
set_option maxHeartbeats 4000000 in
theorem float_at (s : ByteArray) (w : World) (hs : s.size ≤ 4294967000) (hm : ML w) (hIA : AnyE (behindM s)) :
    Calls Tryd.prog 38 #[.string s] w (RetF w (floatP s.toList)) := by
  have hF := Lib.hid (floatP_behind s)
  have hxs := behindM_size s
  obtain ⟨x, hbx⟩ : ∃ x, (⟨(Lib.trimPrefix s.data.toList [45]).toArray⟩ : ByteArray) = x := ⟨_, rfl⟩
  rw [show behindM s = x from hbx] at hF hxs hIA
  obtain ⟨neg, hneg⟩ : ∃ neg, Lib.hasPrefix s.data.toList [45] = neg := ⟨_, rfl⟩
  rw [hneg] at hF
  go_enter Tryd.func38, Tryd.ntmps38
  go_wp2_with (go_at_call 49; refine (Tryd.strings_CutPrefix _ _ _).mono ?_; rintro e w' ⟨rfl, rfl⟩)
  refine (hIA _).mono ?_
  rintro e w1 ⟨rfl, hb⟩
  clear hIA
  replace hbx := Lib.hid hbx
  replace hneg := Lib.hid hneg
  rcases indexAny_cut x.toList with ⟨h1, h2⟩ | ⟨i, h1, hi, h2⟩
  · rw [h1]
    have hQ : Hid (floatP s.toList = (tailQ x.toList 0).map fun y => (neg, y)) := Lib.hid (by rw [hF.out, floatQ_none h2])
    replace h1 := Lib.hid h1
    replace h2 := Lib.hid h2
    go_wp2_with fail
    obtain ⟨t, rfl⟩ : ∃ t, t = x := ⟨_, rfl⟩
    obtain ⟨m, hmz⟩ : ∃ m : Int, m = 0 := ⟨_, rfl⟩
    rw [← hmz] at hQ ⊢
    have hmb : -9999 ≤ m ∧ m ≤ 9999 := by omega
    obtain ⟨hmb1, hmb2⟩ := hmb
    replace hmz := Lib.hid hmz
    have hts : t.size ≤ 4294967000 := by omega
    have hz4 := cutC_len 46 t.toList
    rw [size_toList] at hz4
    have ht4 : t.size < 4294967281 := by omega
    refine (cut_any t 46 _ (hm.next hb) ht4).mono ?_
    rintro e w3 ⟨ta, tb, nd, rfl, h3, h4, rfl⟩
    have za : ta.size = (cutC 46 t.toList).1.length := by rw [← size_toList, h3.out]
    have zb : tb.size = (cutC 46 t.toList).2.1.length := by rw [← size_toList, h4.out]
    have hT : Hid (tailQ t.toList m = if ((cutC 46 t.toList).2.2 = true ∧ tb.toList = []) ∨ 15 < ta.size + tb.size then none else match digs1 10 (ta ++ tb).toList with
        | none => none
        | some n => if m - (tb.size : Int) < -22 ∨ 22 < m - (tb.size : Int) then none else some (n, m - (tb.size : Int))) := Lib.hid (by
      unfold tailQ; rw [toList_append, h3.out, h4.out, za, zb])
    have sz : ta.size + tb.size ≤ 4294967281 := by omega
    replace za := Lib.hid za
    replace zb := Lib.hid zb
    replace hz4 := Lib.hid hz4
    clear h3 h4
    generalize (cutC 46 t.toList).2.2 = pt at hT ⊢
    have hb4 := below_drewN hb nd
    have hcs : (pt = true ∧ tb.toList.isEmpty = true ∧ Hid (tailQ t.toList m = none)) ∨ (((pt = false) ∨ (pt = true ∧ tb.toList.isEmpty = false)) ∧ (15 : Int) < (ta.size : Int) + (tb.size : Int) ∧ Hid (tailQ t.toList m = none)) ∨
        (((pt = false) ∨ (pt = true ∧ tb.toList.isEmpty = false)) ∧ (ta.size : Int) + (tb.size : Int) ≤ 15 ∧ Hid (tailQ t.toList m = match digs1 10 (ta ++ tb).toList with
          | none => none
          | some n => if m - (tb.size : Int) < -22 ∨ 22 < m - (tb.size : Int) then none else some (n, m - (tb.size : Int)))) := by
      cases hp : pt
      · by_cases h15 : 15 < ta.size + tb.size
        · exact .inr (.inl ⟨.inl rfl, by omega, Lib.hid (by rw [hT.out, if_pos (.inr h15)])⟩)
        · exact .inr (.inr ⟨.inl rfl, by omega, Lib.hid (by rw [hT.out, if_neg (by rw [hp]; rintro (h | h); exact absurd h.1 (by decide); exact h15 h)])⟩)
      · cases he : tb.toList.isEmpty
        · have hne : tb.toList ≠ [] := by intro h; rw [h] at he; cases he
          by_cases h15 : 15 < ta.size + tb.size
          · exact .inr (.inl ⟨.inr ⟨rfl, rfl⟩, by omega, Lib.hid (by rw [hT.out, if_pos (.inr h15)])⟩)
          · exact .inr (.inr ⟨.inr ⟨rfl, rfl⟩, by omega, Lib.hid (by rw [hT.out, if_neg (by rintro (h | h); exact hne h.2; exact h15 h)])⟩)
        · exact .inl ⟨rfl, rfl, Lib.hid (by rw [hT.out, if_pos (.inl ⟨hp, by simpa using he⟩)])⟩
    clear hT
    rcases hcs with ⟨rfl, c1, cN⟩ | ⟨hpt, c1, cN⟩ | ⟨hpt, c1, cN⟩
    · have hno : Hid (floatP s.toList = none) := Lib.hid (by rw [hQ.out, cN.out]; rfl)
      go_wp2_with fail
      go_ret2
      exact retF_none hno.out hb4
    · have hno : Hid (floatP s.toList = none) := Lib.hid (by rw [hQ.out, cN.out]; rfl)
      rcases hpt with rfl | ⟨rfl, c2⟩
      all_goals
        go_wp2_with fail
        go_ret2
        exact retF_none hno.out hb4
    · have hzz : (ta ++ tb : ByteArray).size ≤ 140737488355328 := by rw [ByteArray.size_append]; omega
      have hw := Lib.hid (fun w => whole_any (ta ++ tb) w hzz)
      have e5 : IntKind.i64.wrap (m - (tb.size : Int)) = m - (tb.size : Int) := IntWalk.i64_in _ (by omega)
      have hzz2 : (ta ++ tb : ByteArray).toList.length ≤ 15 := by rw [size_toList, ByteArray.size_append]; omega
      cases hD : digs1 10 (ta ++ tb).toList with
      | none =>
        have hno : Hid (floatP s.toList = none) := Lib.hid (by rw [hQ.out, cN.out, hD]; rfl)
        have hw2 := Lib.hid (fun w => by have := hw.out w; rw [hD] at this; exact this)
        replace hD := Lib.hid hD
        clear hzz2
        rcases hpt with rfl | ⟨rfl, c2⟩
        all_goals
          go_wp2_with (go_at_call 37; refine (hw2.out _).mono ?_; rintro e w' ⟨rfl, rfl⟩)
          go_ret2
          exact retF_none hno.out hb4
      | some n =>
        have hnl := digs1_le hD
        have hn15 : n < 10 ^ 15 := Nat.lt_of_lt_of_le hnl (Nat.pow_le_pow_right (by decide) hzz2)
        have hw2 : Hid (∀ w, Calls Tryd.prog 37 #[.string (ta ++ tb)] w (fun e w' => e = .returned (.tuple #[.int .i64 (n : Int), .bool true]) ∧ w = w')) := Lib.hid (fun w => by
          have := hw.out w
          rw [hD] at this
          refine this.mono fun e w' h => ?_
          unfold RetN at h
          rw [show (some n).getD 0 = n from rfl, show min n maxI = n by unfold maxI; omega] at h
          exact h)
        obtain ⟨fm, fi, hf⟩ := read_int (n := n) (Nat.lt_trans hn15 (by decide))
        have hM : Hid (floatP s.toList = (if m - (tb.size : Int) < -22 ∨ 22 < m - (tb.size : Int) then none else some (n, m - (tb.size : Int))).map fun y => (neg, y)) := Lib.hid (by rw [hQ.out, cN.out, hD])
        replace hD := Lib.hid hD
        replace hf := Lib.hid hf
        replace hn15 := Lib.hid hn15
        clear hnl hzz2
        by_cases k1 : m - (tb.size : Int) < -22
        · have hno : Hid (floatP s.toList = none) := Lib.hid (by rw [hM.out, if_pos (.inl k1)]; rfl)
          rcases hpt with rfl | ⟨rfl, c2⟩
          all_goals
            go_wp2_with (go_at_call 37; refine (hw2.out _).mono ?_; rintro e w' ⟨rfl, rfl⟩)
            go_ret2
            exact retF_none hno.out hb4
        by_cases k2 : 22 < m - (tb.size : Int)
        · have hno : Hid (floatP s.toList = none) := Lib.hid (by rw [hM.out, if_pos (.inr k2)]; rfl)
          have k3 : -22 ≤ m - (tb.size : Int) := by omega
          have k5 : decide ((22 : Int) < m - (tb.size : Int)) = true := decide_eq_true k2
          rcases hpt with rfl | ⟨rfl, c2⟩
          all_goals
            go_wp2_with (go_at_call 37; refine (hw2.out _).mono ?_; rintro e w' ⟨rfl, rfl⟩)
            go_ret2
            exact retF_none hno.out hb4
        have k3 : -22 ≤ m - (tb.size : Int) := by omega
        have k4 : m - (tb.size : Int) ≤ 22 := by omega
        have hyes : Hid (floatP s.toList = some (neg, n, m - (tb.size : Int))) := Lib.hid (by rw [hM.out, if_neg (by omega)]; rfl)
        have hmv := Lib.hid (fun w => move_any (floatOfInt .f64 (n : Int)) (m - (tb.size : Int)) w hf.out k3 k4)
        have hsg : (neg = false ∧ Hid (floatW (neg, n, m - (tb.size : Int)) = moveB (floatOfInt .f64 (n : Int)) (m - (tb.size : Int)))) ∨ (neg = true ∧ ((n : Int) != 0) = false ∧ Hid (floatW (neg, n, m - (tb.size : Int)) = moveB (floatOfInt .f64 (n : Int)) (m - (tb.size : Int)))) ∨
            (neg = true ∧ ((n : Int) != 0) = true ∧ Hid (floatW (neg, n, m - (tb.size : Int)) = Op.negFloat .f64 (moveB (floatOfInt .f64 (n : Int)) (m - (tb.size : Int))))) := by
          cases neg
          · exact .inl ⟨rfl, Lib.hid rfl⟩
          · by_cases h0 : n = 0
            · exact .inr (.inl ⟨rfl, by rw [h0]; rfl, Lib.hid (by unfold floatW; rw [if_neg (fun h => h.2 h0)])⟩)
            · exact .inr (.inr ⟨rfl, by simp only [bne_iff_ne, ne_eq]; omega, Lib.hid (by unfold floatW; rw [if_pos ⟨rfl, h0⟩])⟩)
        have hun : ∀ v : Nat, Op.unary .neg (.float .f64 v) = (pure (.float .f64 (Op.negFloat .f64 v)) : Sem Value) := fun v => rfl
        rcases hsg with ⟨rfl, hW⟩ | ⟨rfl, s1, hW⟩ | ⟨rfl, s1, hW⟩ <;> rcases hpt with rfl | ⟨rfl, c2⟩
        all_goals
          go_wp2_with (first
            | (go_at_call 37; refine (hw2.out _).mono ?_; rintro e w' ⟨rfl, rfl⟩)
            | (go_at_call 53; refine (hmv.out _).mono ?_; rintro e w' ⟨rfl, rfl⟩))
          go_ret2
          unfold RetF
          rw [hyes.out]
          exact ⟨by rw [show ∀ y, ((some y : Option (Bool × Nat × Int)).map floatW).getD 0 = floatW y from fun _ => rfl, hW.out]; rfl, hb4⟩
  · rw [h1]
    rw [size_toList] at hi
    have e1 : IntKind.i64.wrap ((i : Int) + 1) = (i : Int) + 1 := IntWalk.i64_in _ (by omega)
    have i1 : (i : Int) + 1 ≤ (x.size : Int) := by omega
    have i2 : (i : Int) ≤ (x.size : Int) := by omega
    have i3 : i + 1 ≤ x.size := by omega
    have hL1 : Hid ((x.extract (i + 1) x.size).toList = x.toList.drop (i + 1)) := Lib.hid (by rw [toList_extract, ← size_toList, List.take_length])
    have hL2 : Hid ((x.extract 0 i).toList = x.toList.take i) := Lib.hid (by rw [toList_extract]; rfl)
    have hz1 : (x.extract (i + 1) x.size).size ≤ 140737488355328 := by rw [← size_toList, hL1.out, List.length_drop, size_toList]; omega
    have hz2 : (x.extract 0 i).size ≤ 4294967000 := by rw [← size_toList, hL2.out, List.length_take, size_toList]; omega
    replace h1 := Lib.hid h1
    replace h2 := Lib.hid h2
    replace hz1 := Lib.hid hz1
    replace hz2 := Lib.hid hz2
    go_wp2_with fail
    refine (exponent_any _ _ hz1.out).mono ?_
    rintro e w2 ⟨rfl, rfl⟩
    cases hX : expoV (x.extract (i + 1) x.size).toList with
    | none =>
      have hno : Hid (floatP s.toList = none) := Lib.hid (by rw [hF.out, floatQ_bad h2.out (by rw [← hL1.out]; exact hX)]; rfl)
      replace hX := Lib.hid hX
      go_wp2_with fail
      go_ret2
      exact retF_none hno.out hb
    | some m =>
      have hQ : Hid (floatP s.toList = (tailQ (x.extract 0 i).toList m).map fun y => (neg, y)) := Lib.hid (by rw [hF.out, floatQ_some h2.out (by rw [← hL1.out]; exact hX), hL2.out])
      obtain ⟨hmb1, hmb2⟩ := expoV_bd hX
      replace hX := Lib.hid hX
      rw [show (some m).getD 0 = m from rfl, show (some m).isSome = true from rfl]
      go_wp2_with fail
      have hts := hz2.out
      generalize x.extract 0 i = t at hQ hts ⊢
      clear e1 i1 i2 i3 hi hL1 hL2 hz1 hz2
      have hz4 := cutC_len 46 t.toList
      rw [size_toList] at hz4
      have ht4 : t.size < 4294967281 := by omega
      refine (cut_any t 46 _ (hm.next hb) ht4).mono ?_
      rintro e w3 ⟨ta, tb, nd, rfl, h3, h4, rfl⟩
      have za : ta.size = (cutC 46 t.toList).1.length := by rw [← size_toList, h3.out]
      have zb : tb.size = (cutC 46 t.toList).2.1.length := by rw [← size_toList, h4.out]
      have hT : Hid (tailQ t.toList m = if ((cutC 46 t.toList).2.2 = true ∧ tb.toList = []) ∨ 15 < ta.size + tb.size then none else match digs1 10 (ta ++ tb).toList with
          | none => none
          | some n => if m - (tb.size : Int) < -22 ∨ 22 < m - (tb.size : Int) then none else some (n, m - (tb.size : Int))) := Lib.hid (by
        unfold tailQ; rw [toList_append, h3.out, h4.out, za, zb])
      have sz : ta.size + tb.size ≤ 4294967281 := by omega
      replace za := Lib.hid za
      replace zb := Lib.hid zb
      replace hz4 := Lib.hid hz4
      clear h3 h4
      generalize (cutC 46 t.toList).2.2 = pt at hT ⊢
      have hb4 := below_drewN hb nd
      have hcs : (pt = true ∧ tb.toList.isEmpty = true ∧ Hid (tailQ t.toList m = none)) ∨ (((pt = false) ∨ (pt = true ∧ tb.toList.isEmpty = false)) ∧ (15 : Int) < (ta.size : Int) + (tb.size : Int) ∧ Hid (tailQ t.toList m = none)) ∨
          (((pt = false) ∨ (pt = true ∧ tb.toList.isEmpty = false)) ∧ (ta.size : Int) + (tb.size : Int) ≤ 15 ∧ Hid (tailQ t.toList m = match digs1 10 (ta ++ tb).toList with
            | none => none
            | some n => if m - (tb.size : Int) < -22 ∨ 22 < m - (tb.size : Int) then none else some (n, m - (tb.size : Int)))) := by
        cases hp : pt
        · by_cases h15 : 15 < ta.size + tb.size
          · exact .inr (.inl ⟨.inl rfl, by omega, Lib.hid (by rw [hT.out, if_pos (.inr h15)])⟩)
          · exact .inr (.inr ⟨.inl rfl, by omega, Lib.hid (by rw [hT.out, if_neg (by rw [hp]; rintro (h | h); exact absurd h.1 (by decide); exact h15 h)])⟩)
        · cases he : tb.toList.isEmpty
          · have hne : tb.toList ≠ [] := by intro h; rw [h] at he; cases he
            by_cases h15 : 15 < ta.size + tb.size
            · exact .inr (.inl ⟨.inr ⟨rfl, rfl⟩, by omega, Lib.hid (by rw [hT.out, if_pos (.inr h15)])⟩)
            · exact .inr (.inr ⟨.inr ⟨rfl, rfl⟩, by omega, Lib.hid (by rw [hT.out, if_neg (by rintro (h | h); exact hne h.2; exact h15 h)])⟩)
          · exact .inl ⟨rfl, rfl, Lib.hid (by rw [hT.out, if_pos (.inl ⟨hp, by simpa using he⟩)])⟩
      clear hT
      rcases hcs with ⟨rfl, c1, cN⟩ | ⟨hpt, c1, cN⟩ | ⟨hpt, c1, cN⟩
      · have hno : Hid (floatP s.toList = none) := Lib.hid (by rw [hQ.out, cN.out]; rfl)
        go_wp2_with fail
        go_ret2
        exact retF_none hno.out hb4
      · have hno : Hid (floatP s.toList = none) := Lib.hid (by rw [hQ.out, cN.out]; rfl)
        rcases hpt with rfl | ⟨rfl, c2⟩
        all_goals
          go_wp2_with fail
          go_ret2
          exact retF_none hno.out hb4
      · have hzz : (ta ++ tb : ByteArray).size ≤ 140737488355328 := by rw [ByteArray.size_append]; omega
        have hw := Lib.hid (fun w => whole_any (ta ++ tb) w hzz)
        have e5 : IntKind.i64.wrap (m - (tb.size : Int)) = m - (tb.size : Int) := IntWalk.i64_in _ (by omega)
        have hzz2 : (ta ++ tb : ByteArray).toList.length ≤ 15 := by rw [size_toList, ByteArray.size_append]; omega
        cases hD : digs1 10 (ta ++ tb).toList with
        | none =>
          have hno : Hid (floatP s.toList = none) := Lib.hid (by rw [hQ.out, cN.out, hD]; rfl)
          have hw2 := Lib.hid (fun w => by have := hw.out w; rw [hD] at this; exact this)
          replace hD := Lib.hid hD
          clear hzz2
          rcases hpt with rfl | ⟨rfl, c2⟩
          all_goals
            go_wp2_with (go_at_call 37; refine (hw2.out _).mono ?_; rintro e w' ⟨rfl, rfl⟩)
            go_ret2
            exact retF_none hno.out hb4
        | some n =>
          have hnl := digs1_le hD
          have hn15 : n < 10 ^ 15 := Nat.lt_of_lt_of_le hnl (Nat.pow_le_pow_right (by decide) hzz2)
          have hw2 : Hid (∀ w, Calls Tryd.prog 37 #[.string (ta ++ tb)] w (fun e w' => e = .returned (.tuple #[.int .i64 (n : Int), .bool true]) ∧ w = w')) := Lib.hid (fun w => by
            have := hw.out w
            rw [hD] at this
            refine this.mono fun e w' h => ?_
            unfold RetN at h
            rw [show (some n).getD 0 = n from rfl, show min n maxI = n by unfold maxI; omega] at h
            exact h)
          obtain ⟨fm, fi, hf⟩ := read_int (n := n) (Nat.lt_trans hn15 (by decide))
          have hM : Hid (floatP s.toList = (if m - (tb.size : Int) < -22 ∨ 22 < m - (tb.size : Int) then none else some (n, m - (tb.size : Int))).map fun y => (neg, y)) := Lib.hid (by rw [hQ.out, cN.out, hD])
          replace hD := Lib.hid hD
          replace hf := Lib.hid hf
          replace hn15 := Lib.hid hn15
          clear hnl hzz2
          by_cases k1 : m - (tb.size : Int) < -22
          · have hno : Hid (floatP s.toList = none) := Lib.hid (by rw [hM.out, if_pos (.inl k1)]; rfl)
            rcases hpt with rfl | ⟨rfl, c2⟩
            all_goals
              go_wp2_with (go_at_call 37; refine (hw2.out _).mono ?_; rintro e w' ⟨rfl, rfl⟩)
              go_ret2
              exact retF_none hno.out hb4
          by_cases k2 : 22 < m - (tb.size : Int)
          · have hno : Hid (floatP s.toList = none) := Lib.hid (by rw [hM.out, if_pos (.inr k2)]; rfl)
            have k3 : -22 ≤ m - (tb.size : Int) := by omega
            have k5 : decide ((22 : Int) < m - (tb.size : Int)) = true := decide_eq_true k2
            rcases hpt with rfl | ⟨rfl, c2⟩
            all_goals
              go_wp2_with (go_at_call 37; refine (hw2.out _).mono ?_; rintro e w' ⟨rfl, rfl⟩)
              go_ret2
              exact retF_none hno.out hb4
          have k3 : -22 ≤ m - (tb.size : Int) := by omega
          have k4 : m - (tb.size : Int) ≤ 22 := by omega
          have hyes : Hid (floatP s.toList = some (neg, n, m - (tb.size : Int))) := Lib.hid (by rw [hM.out, if_neg (by omega)]; rfl)
          have hmv := Lib.hid (fun w => move_any (floatOfInt .f64 (n : Int)) (m - (tb.size : Int)) w hf.out k3 k4)
          have hsg : (neg = false ∧ Hid (floatW (neg, n, m - (tb.size : Int)) = moveB (floatOfInt .f64 (n : Int)) (m - (tb.size : Int)))) ∨ (neg = true ∧ ((n : Int) != 0) = false ∧ Hid (floatW (neg, n, m - (tb.size : Int)) = moveB (floatOfInt .f64 (n : Int)) (m - (tb.size : Int)))) ∨
              (neg = true ∧ ((n : Int) != 0) = true ∧ Hid (floatW (neg, n, m - (tb.size : Int)) = Op.negFloat .f64 (moveB (floatOfInt .f64 (n : Int)) (m - (tb.size : Int))))) := by
            cases neg
            · exact .inl ⟨rfl, Lib.hid rfl⟩
            · by_cases h0 : n = 0
              · exact .inr (.inl ⟨rfl, by rw [h0]; rfl, Lib.hid (by unfold floatW; rw [if_neg (fun h => h.2 h0)])⟩)
              · exact .inr (.inr ⟨rfl, by simp only [bne_iff_ne, ne_eq]; omega, Lib.hid (by unfold floatW; rw [if_pos ⟨rfl, h0⟩])⟩)
          have hun : ∀ v : Nat, Op.unary .neg (.float .f64 v) = (pure (.float .f64 (Op.negFloat .f64 v)) : Sem Value) := fun v => rfl
          rcases hsg with ⟨rfl, hW⟩ | ⟨rfl, s1, hW⟩ | ⟨rfl, s1, hW⟩ <;> rcases hpt with rfl | ⟨rfl, c2⟩
          all_goals
            go_wp2_with (first
              | (go_at_call 37; refine (hw2.out _).mono ?_; rintro e w' ⟨rfl, rfl⟩)
              | (go_at_call 53; refine (hmv.out _).mono ?_; rintro e w' ⟨rfl, rfl⟩))
            go_ret2
            unfold RetF
            rw [hyes.out]
            exact ⟨by rw [show ∀ y, ((some y : Option (Bool × Nat × Int)).map floatW).getD 0 = floatW y from fun _ => rfl, hW.out]; rfl, hb4⟩
end Go.Proofs.YtbejimncmfeggaaDoor
