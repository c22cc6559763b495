/- The contract of srcset.take. -/
import Derived.Test.YtbejimncmfeggaaDoorSrcC
import Derived.Test.YtbejimncmfeggaaDoorNumT
import Derived.Test.YtbejimncmfeggaaDoorNumX
namespace Go.Proofs.YtbejimncmfeggaaDoor
open Go.RowKit
set_option linter.unusedVariables false
set_option linter.unusedSimpArgs false

/-- What words have said so far. -/
structure DSt where
  hw : Bool
  w : Int
  hh : Bool
  h : Int
  hd : Bool
  d : Nat
def candC (url : ByteArray) (wv : Value) (st : DSt) : Array Value := #[.string url, wv, .bool st.hw, .int .i64 st.w, .bool st.hh, .int .i64 st.h, .bool st.hd, .float .f64 st.d]
/-- Is a float no less than 0? -/
def geZ (b : Nat) : Bool := (FloatKind.f64.format.order b 0 == some .gt) || (FloatKind.f64.format.order b 0 == some .eq)
def numN (h : List UInt8) : Nat := min ((digs1 10 h).getD 0) maxI
def numF (h : List UInt8) : Nat := ((floatP h).map floatW).getD 0
def okW (st : DSt) (h : List UInt8) : Bool := (digs1 10 h).isSome && decide (1 ≤ numN h) && !st.hw && !st.hd
def okH (st : DSt) (h : List UInt8) : Bool := (digs1 10 h).isSome && decide (1 ≤ numN h) && !st.hh && !st.hd
def okX (st : DSt) (h : List UInt8) : Bool := (floatP h).isSome && geZ (numF h) && !st.hw && !st.hh && !st.hd
/-- What one word says, its last sign apart. -/
def takeC (st : DSt) (h : List UInt8) (c : UInt8) : Option DSt :=
  if c = 119 then (if okW st h = true then some { st with hw := true, w := (numN h : Int) } else none)
  else if c = 104 then (if okH st h = true then some { st with hh := true, h := (numN h : Int) } else none)
  else if c = 120 then (if okX st h = true then some { st with hd := true, d := numF h } else none)
  else none
def takeS (st : DSt) (l : List UInt8) : Option DSt := match l.getLast? with | none => none | some c => takeC st l.dropLast c
def RetTake (g : Nat) (url : ByteArray) (wv : Value) (o : Option DSt) (w : World) (e : Ending) (w' : World) : Prop :=
  e = .returned (.bool o.isSome) ∧ Chg (· = g) w w' ∧ ∀ st', o = some st' → w'.heap[g]? = some (.cells (candC url wv st') 27 (0, 0))
theorem retTake_no {g : Nat} {url : ByteArray} {wv : Value} {o : Option DSt} {w w' : World} (h : o = none) (hc : Chg (· = g) w w') : RetTake g url wv o w (.returned (.bool false)) w' := by
  subst h; exact ⟨rfl, hc, fun _ x => by cases x⟩
theorem last_split (t : ByteArray) (h : 0 < t.size) : takeS = takeS ∧ t.toList.getLast? = some t[t.size - 1] ∧ t.toList.dropLast = (t.extract 0 (t.size - 1)).toList := by
  have e := extractLast t h
  refine ⟨rfl, ?_, ?_⟩
  · rw [e, List.getLast?_append]; rfl
  · conv => lhs; rw [e]
    rw [List.dropLast_concat]
theorem u8c {c d : UInt8} : (c = d → ((c.toNat : Int) == (d.toNat : Int)) = true) ∧ (c ≠ d → ((c.toNat : Int) == (d.toNat : Int)) = false) := by
  refine ⟨fun h => by subst h; simp, fun h => ?_⟩
  rw [beq_eq_false_iff_ne]
  exact fun h2 => h (UInt8.toNat_inj.1 (by omega))
set_option maxRecDepth 100000 in
set_option maxHeartbeats 4000000 in
theorem take_any (g : Nat) (url : ByteArray) (wv : Value) (st : DSt) (t : ByteArray) (w : World) (hb : w.heap[g]? = some (.cells (candC url wv st) 27 (0, 0))) (hs : t.size ≤ 1000000) :
    Calls Tryd.prog 23 #[.pointer (some ⟨g, 0, none⟩), .string t] w (RetTake g url wv (takeS st t.toList) w) := by
  obtain ⟨hw, sw, hh, sh, hd, sd⟩ := st
  by_cases h0 : 0 < t.size
  rotate_left
  · have e : t.toList = [] := (toList_empty_iff t).2 (by omega)
    have hno : Hid (takeS ⟨hw, sw, hh, sh, hd, sd⟩ t.toList = none) := Lib.hid (by rw [e]; rfl)
    have hem : t.toList.isEmpty = true := by rw [e]; rfl
    have heq : (t.toList == []) = true := by rw [e]; rfl
    replace e := Lib.hid e
    go_enter Tryd.func23, Tryd.ntmps23
    go_wp2_with fail
    go_ret
    exact retTake_no hno.out (Chg.refl _ _)
  have hne : (!t.toList.isEmpty) = true := by rw [extract1 t h0]; rfl
  have hem : t.toList.isEmpty = false := by rw [extract1 t h0]; rfl
  obtain ⟨-, hl1, hl2⟩ := last_split t h0
  obtain ⟨H, hH⟩ : ∃ H, t.extract 0 (t.size - 1) = H := ⟨_, rfl⟩
  rw [hH] at hl2
  have hHz : H.size ≤ 1000000 := by rw [← hH, ByteArray.size_extract]; omega
  have hT : Hid (takeS ⟨hw, sw, hh, sh, hd, sd⟩ t.toList = takeC ⟨hw, sw, hh, sh, hd, sd⟩ H.toList t[t.size - 1]) := Lib.hid (by unfold takeS; rw [hl1, hl2])
  clear hl1 hl2
  have h1I : (1 : Int) ≤ (t.size : Int) := by omega
  obtain ⟨c, hc⟩ : ∃ c, t[t.size - 1] = c := ⟨_, rfl⟩
  rw [hc] at hT
  have x2 := cell_of_row _ _ 2 _ _ _ hb
  have x4 := cell_of_row _ _ 4 _ _ _ hb
  have x6 := cell_of_row _ _ 6 _ _ _ hb
  simp only [candC, List.getElem?_toArray, List.getElem?_cons_zero, List.getElem?_cons_succ] at x2 x4 x6
  have f2 := frozen_of_row _ _ 2 _ _ hb
  have f3 := frozen_of_row _ _ 3 _ _ hb
  have f4 := frozen_of_row _ _ 4 _ _ hb
  have f5 := frozen_of_row _ _ 5 _ _ hb
  have f6 := frozen_of_row _ _ 6 _ _ hb
  have f7 := frozen_of_row _ _ 7 _ _ hb
  have x3 := cell_of_row _ _ 3 _ _ _ hb
  have x5 := cell_of_row _ _ 5 _ _ _ hb
  have x7 := cell_of_row _ _ 7 _ _ _ hb
  simp only [candC, List.getElem?_toArray, List.getElem?_cons_zero, List.getElem?_cons_succ] at x3 x5 x7
  replace hb := Lib.hid hb
  replace hc := Lib.hid hc
  go_enter Tryd.func23, Tryd.ntmps23
  by_cases c1 : c = 119
  · have q1 : ((c.toNat : Int) == 119) = true := by rw [c1]; rfl
    have hV : Hid (takeS ⟨hw, sw, hh, sh, hd, sd⟩ t.toList = if okW ⟨hw, sw, hh, sh, hd, sd⟩ H.toList = true then some ⟨true, (numN H.toList : Int), hh, sh, hd, sd⟩ else none) := Lib.hid (by rw [hT.out]; unfold takeC; rw [if_pos c1])
    clear hT
    replace c1 := Lib.hid c1
    have hway : ∃ (b : Bool) (z : Int), Hid ((numN H.toList : Int) = z) ∧ Hid (∀ w, Calls Tryd.prog 37 #[.string H] w fun e w' => e = .returned (.tuple #[.int .i64 z, .bool b]) ∧ w = w') ∧
        ((b = false ∧ Hid (okW ⟨hw, sw, hh, sh, hd, sd⟩ H.toList = false)) ∨ (b = true ∧ z < 1 ∧ Hid (okW ⟨hw, sw, hh, sh, hd, sd⟩ H.toList = false)) ∨ (b = true ∧ 1 ≤ z ∧ hw = true ∧ Hid (okW ⟨hw, sw, hh, sh, hd, sd⟩ H.toList = false)) ∨
         (b = true ∧ 1 ≤ z ∧ hw = false ∧ hd = true ∧ Hid (okW ⟨hw, sw, hh, sh, hd, sd⟩ H.toList = false)) ∨ (b = true ∧ 1 ≤ z ∧ hw = false ∧ hd = false ∧ Hid (okW ⟨hw, sw, hh, sh, hd, sd⟩ H.toList = true))) := by
      refine ⟨(digs1 10 H.toList).isSome, (numN H.toList : Int), Lib.hid rfl, Lib.hid (fun w => whole_any H w (by omega)), ?_⟩
      unfold okW
      cases (digs1 10 H.toList).isSome
      · exact .inl ⟨rfl, Lib.hid rfl⟩
      · by_cases hn : 1 ≤ numN H.toList
        · have hI : (1 : Int) ≤ (numN H.toList : Int) := by omega
          rw [decide_eq_true hn]
          cases hw
          · cases hd
            · exact .inr (.inr (.inr (.inr ⟨rfl, hI, rfl, rfl, Lib.hid rfl⟩)))
            · exact .inr (.inr (.inr (.inl ⟨rfl, hI, rfl, rfl, Lib.hid rfl⟩)))
          · exact .inr (.inr (.inl ⟨rfl, hI, rfl, Lib.hid rfl⟩))
        · have hI : (numN H.toList : Int) < 1 := by omega
          rw [decide_eq_false hn]
          exact .inr (.inl ⟨rfl, hI, Lib.hid rfl⟩)
    obtain ⟨b, z, hz, hcall, hway⟩ := hway
    rw [← hc.out] at q1
    rcases hway with ⟨rfl, hk⟩ | ⟨rfl, z1, hk⟩ | ⟨rfl, z1, rfl, hk⟩ | ⟨rfl, z1, rfl, rfl, hk⟩ | ⟨rfl, z1, rfl, rfl, hk⟩
    · have hno := Lib.hid (hV.out.trans (if_neg (by rw [hk.out]; decide)))
      go_wp2_with fail
      refine (hcall.out _).mono ?_
      rintro e w' ⟨rfl, rfl⟩
      go_wp2_with fail
      go_ret
      exact retTake_no hno.out (Chg.refl _ _)
    · have hno := Lib.hid (hV.out.trans (if_neg (by rw [hk.out]; decide)))
      go_wp2_with fail
      refine (hcall.out _).mono ?_
      rintro e w' ⟨rfl, rfl⟩
      go_wp2_with fail
      go_ret
      exact retTake_no hno.out (Chg.refl _ _)
    · have hno := Lib.hid (hV.out.trans (if_neg (by rw [hk.out]; decide)))
      go_wp2_with fail
      refine (hcall.out _).mono ?_
      rintro e w' ⟨rfl, rfl⟩
      go_wp2_with fail
      go_ret
      exact retTake_no hno.out (Chg.refl _ _)
    · have hno := Lib.hid (hV.out.trans (if_neg (by rw [hk.out]; decide)))
      go_wp2_with fail
      refine (hcall.out _).mono ?_
      rintro e w' ⟨rfl, rfl⟩
      go_wp2_with fail
      go_ret
      exact retTake_no hno.out (Chg.refl _ _)
    · have hyes := Lib.hid (hV.out.trans (if_pos hk.out))
      go_wp2_with fail
      refine (hcall.out _).mono ?_
      rintro e w' ⟨rfl, rfl⟩
      go_wp2_with fail
      go_ret
      exact ⟨by rw [hyes.out]; rfl, ((Chg.refl (· = g) w).set (g := g) rfl 2 _).set (g := g) rfl 3 _, fun st' e => by
        rw [hyes.out] at e
        cases e
        rw [set_blockA (set_blockA hb.out), hz.out]; rfl⟩
  have q1 : ((c.toNat : Int) == 119) = false := u8c.2 c1
  by_cases c2 : c = 104
  · have q2 : ((c.toNat : Int) == 104) = true := by rw [c2]; rfl
    have hV : Hid (takeS ⟨hw, sw, hh, sh, hd, sd⟩ t.toList = if okH ⟨hw, sw, hh, sh, hd, sd⟩ H.toList = true then some ⟨hw, sw, true, (numN H.toList : Int), hd, sd⟩ else none) := Lib.hid (by rw [hT.out]; unfold takeC; rw [if_neg c1]; rw [if_pos c2])
    clear hT
    replace c2 := Lib.hid c2
    have hway : ∃ (b : Bool) (z : Int), Hid ((numN H.toList : Int) = z) ∧ Hid (∀ w, Calls Tryd.prog 37 #[.string H] w fun e w' => e = .returned (.tuple #[.int .i64 z, .bool b]) ∧ w = w') ∧
        ((b = false ∧ Hid (okH ⟨hw, sw, hh, sh, hd, sd⟩ H.toList = false)) ∨ (b = true ∧ z < 1 ∧ Hid (okH ⟨hw, sw, hh, sh, hd, sd⟩ H.toList = false)) ∨ (b = true ∧ 1 ≤ z ∧ hh = true ∧ Hid (okH ⟨hw, sw, hh, sh, hd, sd⟩ H.toList = false)) ∨
         (b = true ∧ 1 ≤ z ∧ hh = false ∧ hd = true ∧ Hid (okH ⟨hw, sw, hh, sh, hd, sd⟩ H.toList = false)) ∨ (b = true ∧ 1 ≤ z ∧ hh = false ∧ hd = false ∧ Hid (okH ⟨hw, sw, hh, sh, hd, sd⟩ H.toList = true))) := by
      refine ⟨(digs1 10 H.toList).isSome, (numN H.toList : Int), Lib.hid rfl, Lib.hid (fun w => whole_any H w (by omega)), ?_⟩
      unfold okH
      cases (digs1 10 H.toList).isSome
      · exact .inl ⟨rfl, Lib.hid rfl⟩
      · by_cases hn : 1 ≤ numN H.toList
        · have hI : (1 : Int) ≤ (numN H.toList : Int) := by omega
          rw [decide_eq_true hn]
          cases hh
          · cases hd
            · exact .inr (.inr (.inr (.inr ⟨rfl, hI, rfl, rfl, Lib.hid rfl⟩)))
            · exact .inr (.inr (.inr (.inl ⟨rfl, hI, rfl, rfl, Lib.hid rfl⟩)))
          · exact .inr (.inr (.inl ⟨rfl, hI, rfl, Lib.hid rfl⟩))
        · have hI : (numN H.toList : Int) < 1 := by omega
          rw [decide_eq_false hn]
          exact .inr (.inl ⟨rfl, hI, Lib.hid rfl⟩)
    obtain ⟨b, z, hz, hcall, hway⟩ := hway
    rw [← hc.out] at q1 q2
    rcases hway with ⟨rfl, hk⟩ | ⟨rfl, z1, hk⟩ | ⟨rfl, z1, rfl, hk⟩ | ⟨rfl, z1, rfl, rfl, hk⟩ | ⟨rfl, z1, rfl, rfl, hk⟩
    · have hno := Lib.hid (hV.out.trans (if_neg (by rw [hk.out]; decide)))
      go_wp2_with fail
      refine (hcall.out _).mono ?_
      rintro e w' ⟨rfl, rfl⟩
      go_wp2_with fail
      go_ret
      exact retTake_no hno.out (Chg.refl _ _)
    · have hno := Lib.hid (hV.out.trans (if_neg (by rw [hk.out]; decide)))
      go_wp2_with fail
      refine (hcall.out _).mono ?_
      rintro e w' ⟨rfl, rfl⟩
      go_wp2_with fail
      go_ret
      exact retTake_no hno.out (Chg.refl _ _)
    · have hno := Lib.hid (hV.out.trans (if_neg (by rw [hk.out]; decide)))
      go_wp2_with fail
      refine (hcall.out _).mono ?_
      rintro e w' ⟨rfl, rfl⟩
      go_wp2_with fail
      go_ret
      exact retTake_no hno.out (Chg.refl _ _)
    · have hno := Lib.hid (hV.out.trans (if_neg (by rw [hk.out]; decide)))
      go_wp2_with fail
      refine (hcall.out _).mono ?_
      rintro e w' ⟨rfl, rfl⟩
      go_wp2_with fail
      go_ret
      exact retTake_no hno.out (Chg.refl _ _)
    · have hyes := Lib.hid (hV.out.trans (if_pos hk.out))
      go_wp2_with fail
      refine (hcall.out _).mono ?_
      rintro e w' ⟨rfl, rfl⟩
      go_wp2_with fail
      go_ret
      exact ⟨by rw [hyes.out]; rfl, ((Chg.refl (· = g) w).set (g := g) rfl 4 _).set (g := g) rfl 5 _, fun st' e => by
        rw [hyes.out] at e
        cases e
        rw [set_blockA (set_blockA hb.out), hz.out]; rfl⟩
  have q2 : ((c.toNat : Int) == 104) = false := u8c.2 c2
  by_cases c3 : c = 120
  · have q3 : ((c.toNat : Int) == 120) = true := by rw [c3]; rfl
    have hV : Hid (takeS ⟨hw, sw, hh, sh, hd, sd⟩ t.toList = if okX ⟨hw, sw, hh, sh, hd, sd⟩ H.toList = true then some ⟨hw, sw, hh, sh, true, numF H.toList⟩ else none) := Lib.hid (by rw [hT.out]; unfold takeC; rw [if_neg c1, if_neg c2, if_pos c3])
    clear hT
    replace c1 := Lib.hid c1
    replace c2 := Lib.hid c2
    replace c3 := Lib.hid c3
    have hcall := Lib.hid (fun w => float_all H w (by omega))
    obtain ⟨b, hbb⟩ : ∃ b, (floatP H.toList).isSome = b := ⟨_, rfl⟩
    obtain ⟨n, hn⟩ : ∃ n, numF H.toList = n := ⟨_, rfl⟩
    unfold RetF at hcall
    rw [show ((floatP H.toList).map floatW).getD 0 = n from hn, hbb] at hcall
    rw [← hc.out] at q1 q2 q3
    cases b
    · have hno := Lib.hid (hV.out.trans (if_neg (by unfold okX; rw [hbb]; simp)))
      replace hbb := Lib.hid hbb
      replace hn := Lib.hid hn
      go_wp2_with fail
      refine (hcall.out _).mono ?_
      rintro e w' ⟨rfl, hb2⟩
      go_wp2_with fail
      go_ret
      exact retTake_no hno.out (Chg.of hb2)
    · replace hbb := Lib.hid hbb
      replace hn := Lib.hid hn
      have lg : g < w.heap.size := (Array.getElem?_eq_some_iff.1 hb.out).1
      obtain ⟨r, hr⟩ : ∃ r, FloatKind.f64.format.order n 0 = r := ⟨_, rfl⟩
      have hway : ((r = none ∨ r = some .lt) ∧ Hid (okX ⟨hw, sw, hh, sh, hd, sd⟩ H.toList = false)) ∨ ((r = some .gt ∨ r = some .eq) ∧ ((hw = true ∧ Hid (okX ⟨hw, sw, hh, sh, hd, sd⟩ H.toList = false)) ∨ (hw = false ∧ hh = true ∧ Hid (okX ⟨hw, sw, hh, sh, hd, sd⟩ H.toList = false)) ∨
          (hw = false ∧ hh = false ∧ hd = true ∧ Hid (okX ⟨hw, sw, hh, sh, hd, sd⟩ H.toList = false)) ∨ (hw = false ∧ hh = false ∧ hd = false ∧ Hid (okX ⟨hw, sw, hh, sh, hd, sd⟩ H.toList = true)))) := by
        unfold okX geZ
        rw [hbb.out, hn.out, hr]
        cases r with
        | none => exact .inl ⟨.inl rfl, Lib.hid (by simp)⟩
        | some r =>
          cases r with
          | lt => exact .inl ⟨.inr rfl, Lib.hid (by simp)⟩
          | gt =>
            refine .inr ⟨.inl rfl, ?_⟩
            cases hw
            · cases hh
              · cases hd
                · exact .inr (.inr (.inr ⟨rfl, rfl, rfl, Lib.hid rfl⟩))
                · exact .inr (.inr (.inl ⟨rfl, rfl, rfl, Lib.hid rfl⟩))
              · exact .inr (.inl ⟨rfl, rfl, Lib.hid rfl⟩)
            · exact .inl ⟨rfl, Lib.hid rfl⟩
          | eq =>
            refine .inr ⟨.inr rfl, ?_⟩
            cases hw
            · cases hh
              · cases hd
                · exact .inr (.inr (.inr ⟨rfl, rfl, rfl, Lib.hid rfl⟩))
                · exact .inr (.inr (.inl ⟨rfl, rfl, rfl, Lib.hid rfl⟩))
              · exact .inr (.inl ⟨rfl, rfl, Lib.hid rfl⟩)
            · exact .inl ⟨rfl, Lib.hid rfl⟩
      rcases hway with ⟨hr0 | hr0, hk⟩ | ⟨hr0 | hr0, ⟨rfl, hk⟩ | ⟨rfl, rfl, hk⟩ | ⟨rfl, rfl, rfl, hk⟩ | ⟨rfl, rfl, rfl, hk⟩⟩
      all_goals
        rw [hr0] at hr
        clear hr0
        first
          | (have hno := Lib.hid (hV.out.trans (if_neg (by rw [hk.out]; decide)))
             clear hk
             go_wp2_with fail
             refine (hcall.out _).mono ?_
             rintro e w' ⟨rfl, hb2⟩
             obtain ⟨E, d, rfl⟩ := hb2.ext
             go_wp2_with fail
             go_ret
             exact retTake_no hno.out (Chg.of hb2))
          | (have hyes := Lib.hid (hV.out.trans (if_pos hk.out))
             clear hk
             have lg2 : g < (w.setCell ⟨g, 6, none⟩ (.bool true)).heap.size := by simpa [World.setCell] using lg
             have y7 : (w.setCell ⟨g, 6, none⟩ (.bool true)).cell? ⟨g, 7, none⟩ = some (.float .f64 sd) := (cell_of_row _ _ 7 _ _ _ (set_blockA hb.out)).trans rfl
             have g7 : (w.setCell ⟨g, 6, none⟩ (.bool true)).frozen? ⟨g, 7, none⟩ = false := frozen_of_row _ _ 7 _ _ (set_blockA hb.out)
             go_wp2_with fail
             refine (hcall.out _).mono ?_
             rintro e w' ⟨rfl, hb2⟩
             obtain ⟨E, d, rfl⟩ := hb2.ext
             have z7 : (extW (w.setCell ⟨g, 6, none⟩ (.bool true)) E d).cell? ⟨g, 7, none⟩ = some (.float .f64 sd) := ((below_ext _ E d).cell (p := ⟨g, 7, none⟩) lg2).trans y7
             have zf : (extW (w.setCell ⟨g, 6, none⟩ (.bool true)) E d).frozen? ⟨g, 7, none⟩ = false := ((below_ext _ E d).frozen (p := ⟨g, 7, none⟩) lg2).trans g7
             have zs : (extW (w.setCell ⟨g, 6, none⟩ (.bool true)) E d).setCell ⟨g, 7, none⟩ (.float .f64 n) = extW ((w.setCell ⟨g, 6, none⟩ (.bool true)).setCell ⟨g, 7, none⟩ (.float .f64 n)) E d := ext_set _ _ _ _ _ _ lg2
             have zst : (store ⟨g, 7, none⟩ (.float .f64 n)).run Tryd.prog (extW (w.setCell ⟨g, 6, none⟩ (.bool true)) E d) = .ok () (extW ((w.setCell ⟨g, 6, none⟩ (.bool true)).setCell ⟨g, 7, none⟩ (.float .f64 n)) E d) := by
               rw [run_store _ _ _ _ _ rfl, z7]
               dsimp only
               rw [zf, zs]; rfl
             clear z7 zf zs
             go_wp2_with fail
             go_ret
             exact ⟨by rw [hyes.out]; rfl, (((Chg.refl (· = g) w).set (g := g) rfl 6 _).set (g := g) rfl 7 _).trans (Chg.of (below_ext _ _ _)), fun st' e => by
               rw [hyes.out] at e
               cases e
               rw [ext_block _ _ _ _ (by simpa [World.setCell] using lg), set_blockA (set_blockA hb.out), hn.out]; rfl⟩)
  · have q3 : ((c.toNat : Int) == 120) = false := u8c.2 c3
    have hno : Hid (takeS ⟨hw, sw, hh, sh, hd, sd⟩ t.toList = none) := Lib.hid (by rw [hT.out]; unfold takeC; rw [if_neg c1, if_neg c2, if_neg c3])
    rw [← hc.out] at q1 q2 q3
    replace c1 := Lib.hid c1
    replace c2 := Lib.hid c2
    replace c3 := Lib.hid c3
    go_wp2_with fail
    go_ret
    exact retTake_no hno.out (Chg.refl _ _)
end Go.Proofs.YtbejimncmfeggaaDoor
