/- The contract of six.row: the pieces of a row, or the program gives up. -/
import Derived.Test.YtgkbdcdfpoaifaaDoorSixB
import Derived.Test.YtgkbdcdfpoaifaaDoorSixQ
import Derived.Laws.AppendOwn
namespace Go.Proofs.YtgkbdcdfpoaifaaDoor
open Go.RowKit
set_option linter.unusedVariables false
set_option linter.unusedSimpArgs false

def u16V (n : Nat) : Value := .int .u16 (n : Int)
/-- The call's own pieces. -/
def OwnU (w : World) (B : Nat) (v : Value) (l : List Nat) : Prop := w.ownsRow B 22 1 v l.length (l.map u16V)
theorem OwnU.nil (w : World) (B : Nat) : OwnU w B (.slice none 0 0) [] := World.ownsRow_nil _ _ _ _
theorem OwnU.form {w : World} {B : Nat} {v : Value} {l : List Nat} (h : OwnU w B v l) : ∃ a c, v = .slice a l.length c := by
  rcases h.2 with ⟨rfl, hn⟩ | ⟨g, cap, cur, rfl, _⟩
  · exact ⟨none, 0, by rw [hn]⟩
  · exact ⟨_, _, rfl⟩
theorem OwnU.below {w w' : World} {B K : Nat} {v : Value} {l : List Nat} (h : OwnU w B v l) (hb : Below K w w') (hK : w.heap.size ≤ K) : OwnU w' B v l := by
  refine ⟨h.1, ?_⟩
  rcases h.2 with hn | ⟨g, cap, cur, rfl, hg, hh, rest⟩
  · exact .inl hn
  · exact .inr ⟨g, cap, cur, rfl, hg, by rw [hb.block g (by have := (Array.getElem?_eq_some_iff.1 hh).1; omega)]; exact hh, rest⟩
theorem ty16 : ElemTy Tryd.prog 39 22 (.int .u16 0) 2 := .mk' Tryd.underlying39 (by kernel_rfl) rfl
theorem cell_boxes (w : World) (us : List Value) (e : TypeId) : ∀ j x, us[j]? = some x → (w.alloc (.cells us.toArray e)).cell? ((⟨w.heap.size, 0, none⟩ : Addr).add j) = some x := by
  intro j x hj
  have : (w.alloc (.cells us.toArray e)).heap[w.heap.size]? = some (.cells us.toArray e) := heap_alloc_new w _
  have e : (⟨w.heap.size, 0, none⟩ : Addr).add j = ⟨w.heap.size, j, none⟩ := by unfold Addr.add; split <;> simp_all
  rw [e]
  simp only [World.cell?]
  rw [this]
  simp [hj]
theorem wpList_pushU {ops : Array Oper} {rest : List Oper} {o : Oper} {a : Act} {Q : Exit → Act → World → Prop}
    (hgd : o.guard = none) (s x : Operand) (ho : o.op = .call { callee := .builtin .append, args := #[s, x], argTypes := #[39, 39] })
    {W0 w0 : World} {B : Nat} {v : Value} {l : List Nat} (ms : List Nat) (hs : a.eval s = v) (hx : a.eval x = .slice (some ⟨w0.heap.size, 0, none⟩) ms.length ms.length)
    (hown : OwnU w0 B v l) (hbel : Below B W0 w0) (hB : B ≤ w0.heap.size) (h8 : l.length ≤ 8) (hm8 : ms.length ≤ 8)
    (h : ∀ a' c' w', OwnU w' B (.slice a' (l.length + ms.length) c') (l ++ ms) → Below B W0 w' → wpList Tryd.prog ops Q rest (a.put o.dst (.slice a' (l.length + ms.length) c')) w') :
    wpList Tryd.prog ops Q (o :: rest) a (w0.alloc (.cells (ms.map u16V).toArray 22)) := by
  obtain ⟨i, hi, hz, hs1, hb1⟩ := ty16.i
  refine wpList_append_own (w0.alloc (.cells (ms.map u16V).toArray 22)) hgd s x 39 ho B 22 i (.int .u16 0) 1 2 ty16.u hi hz hs1 hb1 ty16.z (by decide) v l.length (l.map u16V) hs (hown.alloc _) ⟨w0.heap.size, 0, none⟩ ms.length ms.length (ms.map u16V) hx (by simp)
    (cell_boxes w0 _ _) (by intro y hy; obtain ⟨n, _, rfl⟩ := List.mem_map.1 hy; rfl) (by unfold maxLen; omega) (by omega) (by simp; omega) ?_
  intro v' w' hown' hgrow hnil
  have hO : OwnU w' B v' (l ++ ms) := by unfold OwnU; rw [List.length_append, List.map_append]; exact hown'
  obtain ⟨a', c', rfl⟩ := hO.form
  rw [List.length_append] at hO ⊢
  refine h a' c' w' hO ?_
  exact (hbel.alloc hB _).grown hgrow (by simp; omega) (fun k hk => (hown.lt k hk).1)
/-- The pieces of a row, or the program gives up. -/
def RetRow (w : World) (o : Option (List Nat)) (e : Ending) (w' : World) : Prop :=
  (match o with | some x => ∃ v, e = .returned v ∧ OwnU w' w.heap.size v x | none => GiveUp e) ∧ Below w.heap.size w w'
theorem retRow_none {w w' : World} {o : Option (List Nat)} {pv : Value} (h : o = none) (hb : Below w.heap.size w w') : RetRow w o (.panicked [{ v := .iface 54 pv, recovered := false }]) w' := by subst h; exact ⟨⟨pv, rfl⟩, hb⟩
theorem retRow_some {w w' : World} {o : Option (List Nat)} {x : List Nat} {v : Value} (h : o = some x) (ho : OwnU w' w.heap.size v x) (hb : Below w.heap.size w w') : RetRow w o (.returned v) w' := by subst h; exact ⟨⟨v, rfl, ho⟩, hb⟩
def rowM : Value → Value → Nat | .string s, .bool true => s.size + 1 | _, _ => 0
theorem contains_index (l : List UInt8) (c : UInt8) : l.contains c = decide (0 ≤ Lib.indexByte l c) := by
  induction l with
  | nil => rfl
  | cons d r ih =>
    have hg := Lib.indexByte_ge r c
    unfold Lib.indexByte
    rw [List.contains_cons]
    by_cases h : d = c
    · subst h; simp
    · have h2 : (c == d) = false := by simpa using Ne.symm h
      have h3 : (d == c) = false := by simpa using h
      rw [h2, Bool.false_or, ih, h3]
      by_cases h1 : Lib.indexByte r c = -1
      · simp [h1]
      · have h0 : 0 ≤ Lib.indexByte r c := by omega
        have : (Lib.indexByte r c == -1) = false := by simpa using h1
        simp [this, h0]; omega
set_option maxRecDepth 100000 in
set_option maxHeartbeats 4000000 in
theorem row_any (s : ByteArray) (nb : Bool) (w : World) (hm : ML w) (hs : s.size ≤ 1000000) :
    Calls Tryd.prog 19 #[.string s, .bool nb] w (RetRow w (rowC nb s.toList)) := by
  have hB0 : Below w.heap.size w w := Below.refl _ _
  have hlen := size_toList s
  cases hem : s.toList.isEmpty
  · have hne : s.toList ≠ [] := by intro h; rw [h] at hem; cases hem
    have hgo := Lib.hid (rowC_go (nb := nb) hne)
    replace hlen := Lib.hid hlen
    clear hne
    go_enter Tryd.func19, Tryd.ntmps19
    go_wp2_with fail
    go_loopw [0, 5, 6] (fun sv lv mv wr => ∃ (t : ByteArray) (P : List Nat) (mo : Bool) (f : Nat), sv = .string t ∧ mv = .bool mo ∧ t.size ≤ s.size ∧ Hid (mo = true → t.size < f) ∧ P.length ≤ 8 ∧ OwnU wr w.heap.size lv P ∧ Below w.heap.size w wr ∧
      Hid (if mo = true then rowC nb s.toList = rowK nb f P t.toList else rowC nb s.toList = some P)) (fun sv _ mv _ => rowM sv mv)
    case atStart => exact ⟨s, [], true, s.toList.length + 1, rfl, rfl, Nat.le_refl _, Lib.hid (fun _ => by rw [hlen.out]; omega), by decide, OwnU.nil _ _, hB0, Lib.hid (by rw [if_pos rfl]; exact hgo.out)⟩
    case round =>
      obtain ⟨t, P, mo, f, rfl, rfl, hts, hf, hP, hown, hbel, hg⟩ := hrel
      clear hB0
      cases mo
      · have hfin : Hid (rowC nb s.toList = some P) := Lib.hid (by have := hg.out; rw [if_neg (by decide)] at this; exact this)
        go_wp2_with fail
        go_ret
        exact retRow_some hfin.out hown hbel
      · have hf0 := hf.out rfl
        clear hf
        obtain ⟨f, rfl⟩ : ∃ g, f = g + 1 := ⟨f - 1, by omega⟩
        have hg2 : Hid (rowC nb s.toList = rowK nb (f + 1) P t.toList) := Lib.hid (by have := hg.out; rw [if_pos rfl] at this; exact this)
        clear hg
        have hsz := hbel.size
        have hct := Lib.hid (fun w hm => cut_any t 58 w hm (by omega))
        have hl := cutC_len 58 t.toList
        rw [size_toList] at hl
        have hshort := Lib.hid (fun h => cutC_short (c := 58) (l := t.toList) h)
        go_wp2_with fail
        refine (hct.out _ (hm.next hbel)).mono ?_
        rintro e w2 ⟨ta, tb, nd, rfl, h1, h2, hw⟩
        have hbel2 : Below w.heap.size w w2 := by rw [hw]; exact below_drewN hbel nd
        have hown2 := (show ∀ v l, OwnU wr w.heap.size v l → OwnU w2 w.heap.size v l from fun v l h => by rw [hw]; exact h) _ _ hown
        have hsz2 := hbel2.size
        clear hw hbel hown hsz
        have haz : ta.size ≤ s.size := by rw [← size_toList, h1.out]; omega
        have hbz : tb.size ≤ s.size := by rw [← size_toList, h2.out]; omega
        have hbz2 : (cutC 58 t.toList).2.2 = true → tb.size < t.size := fun h => by rw [← size_toList, h2.out, ← size_toList t]; exact hshort.out h
        have hpc := Lib.hid (fun w => piece_any ta w (by omega))
        have hfc := Lib.hid (fun w hm => four_any ta w hm (by omega))
        have hix := Lib.hid (fun w => Tryd.strings_IndexByte ta 46 w)
        obtain ⟨mo, hmo⟩ : ∃ mo, (cutC 58 t.toList).2.2 = mo := ⟨_, rfl⟩
        rw [hmo] at hbz2 ⊢
        have hstep := Lib.hid (fun x hx => rowK_step (nb := nb) (f := f) (P := P) (x := x) hmo hx)
        have hnone : Hid (pieceL (!mo) nb (cutC 58 t.toList).1 = none → rowC nb s.toList = none) := Lib.hid (fun h => by rw [hg2.out]; exact rowK_none (by rw [hmo]; exact h))
        have hdone : ∀ x, pieceL (!mo) nb (cutC 58 t.toList).1 = some x → ((P ++ x).length ≤ 8 → Hid (if mo = true then rowC nb s.toList = rowK nb f (P ++ x) tb.toList else rowC nb s.toList = some (P ++ x))) ∧ (8 < (P ++ x).length → Hid (rowC nb s.toList = none)) := fun x hx => by
          rw [hg2.out, h2.out]; exact hstep.out x hx
        replace hdone := Lib.hid hdone
        have hmea : Hid (rowM (.string tb) (.bool mo) < rowM (.string t) (.bool true)) := Lib.hid (by
          cases mo
          · exact Nat.succ_pos _
          · exact Nat.succ_lt_succ (hbz2 rfl))
        have hf2 : Hid (mo = true → tb.size < f) := Lib.hid (fun h => by have := hbz2 h; omega)
        clear hbz2 hl hshort hstep hf0
        replace hmo := Lib.hid hmo
        have hPI : (P.length : Int) ≤ 8 := by omega
        by_cases hW : (!mo) = false ∨ nb = false ∨ (cutC 58 t.toList).1.contains 46 = false
        · have hpl := Lib.hid (pieceL_one hW)
          have hway : mo = true ∨ (mo = false ∧ nb = false) ∨ (mo = false ∧ nb = true ∧ Hid (∀ w, Calls Tryd.prog 25 #[.string ta, .int .u8 46] w fun e w' => ∃ z : Int, e = .returned (.int .i64 z) ∧ z < 0 ∧ w' = w)) := by
            cases mo
            · cases nb
              · exact .inr (.inl ⟨rfl, rfl⟩)
              · refine .inr (.inr ⟨rfl, rfl, Lib.hid (fun w => (hix.out w).mono ?_)⟩)
                rintro e w' ⟨rfl, rfl⟩
                refine ⟨_, rfl, ?_, rfl⟩
                have hc : (cutC 58 t.toList).1.contains 46 = false := by
                  rcases hW with h | h | h
                  · cases h
                  · cases h
                  · exact h
                rw [← h1.out, contains_index, decide_eq_false_iff_not, ByteArray.toList_eq] at hc
                have e46 : ((46 : Int).toNat.toUInt8) = 46 := rfl
                rw [e46]
                omega
            · exact .inl rfl
          clear hW hix
          cases hv : pieceV (cutC 58 t.toList).1 with
          | none =>
            have hno : Hid (rowC nb s.toList = none) := Lib.hid (hnone.out (by rw [hpl.out, hv]; rfl))
            have hpc2 : Hid (∀ w, Calls Tryd.prog 27 #[.string ta] w (RetQ .u16 w none)) := Lib.hid (fun w => by have := hpc.out w; rw [h1.out, hv] at this; exact this)
            replace hv := Lib.hid hv
            rcases hway with rfl | ⟨rfl, rfl⟩ | ⟨rfl, rfl, hz⟩
            all_goals
              go_wp2_with (first | (go_at_call 25; refine (hz.out _).mono ?_; rintro e w' ⟨z, rfl, hzl, rfl⟩))
              refine (hpc2.out _).mono ?_
              rintro e w3 ⟨⟨pv, rfl⟩, rfl⟩
              exact ⟨rfl, retRow_none hno.out hbel2⟩
          | some v =>
            obtain ⟨hd1, hd2⟩ := hdone.out [v] (by rw [hpl.out, hv]; rfl)
            have hpc2 : Hid (∀ w, Calls Tryd.prog 27 #[.string ta] w (RetQ .u16 w (some v))) := Lib.hid (fun w => by have := hpc.out w; rw [h1.out, hv] at this; exact this)
            replace hv := Lib.hid hv
            have hlen8 : (P ++ [v]).length = P.length + 1 := by simp
            rw [hlen8] at hd1 hd2
            replace hlen8 := Lib.hid hlen8
            replace hd1 := Lib.hid hd1
            replace hd2 := Lib.hid hd2
            by_cases h7 : P.length + 1 ≤ 8
            · have h7I : (P.length : Int) + 1 ≤ 8 := by omega
              rcases hway with rfl | ⟨rfl, rfl⟩ | ⟨rfl, rfl, hz⟩
              all_goals
                go_wp2_with (first | (go_at_call 25; refine (hz.out _).mono ?_; rintro e w' ⟨z, rfl, hzl, rfl⟩))
                refine (hpc2.out _).mono ?_
                rintro e w3 ⟨rfl, rfl⟩
                go_wp2_with (at_builtin; refine wpList_pushU rfl _ _ rfl [v] rfl rfl hown2 hbel2 hsz2 hP (by show 1 ≤ 8; decide) ?_; intro a' c' w4 ho4 hb4)
                go_roundw
                case rel => exact ⟨tb, P ++ [v], _, f, rfl, rfl, hbz, by first | exact Lib.hid (fun _ => hf2.out trivial) | exact Lib.hid (fun h => by cases h), by rw [hlen8.out]; exact h7, ho4, hb4, hd1.out h7⟩
                case measure => exact hmea.out
            · have h7I : (8 : Int) < (P.length : Int) + 1 := by omega
              have hno : Hid (rowC nb s.toList = none) := Lib.hid (hd2.out (by omega)).out
              rcases hway with rfl | ⟨rfl, rfl⟩ | ⟨rfl, rfl, hz⟩
              all_goals
                go_wp2_with (first | (go_at_call 25; refine (hz.out _).mono ?_; rintro e w' ⟨z, rfl, hzl, rfl⟩))
                refine (hpc2.out _).mono ?_
                rintro e w3 ⟨rfl, rfl⟩
                go_wp2_with (at_builtin; refine wpList_pushU rfl _ _ rfl [v] rfl rfl hown2 hbel2 hsz2 hP (by show 1 ≤ 8; decide) ?_; intro a' c' w4 ho4 hb4)
                exact ⟨rfl, retRow_none hno.out hb4⟩
        · have hW2 : mo = false ∧ nb = true ∧ (cutC 58 t.toList).1.contains 46 = true := by
            cases mo
            · cases nb
              · exact absurd (.inr (.inl rfl)) hW
              · refine ⟨rfl, rfl, ?_⟩
                cases h : (cutC 58 t.toList).1.contains 46
                · exact absurd (.inr (.inr h)) hW
                · rfl
            · exact absurd (.inl rfl) hW
          clear hW
          obtain ⟨rfl, rfl, hc⟩ := hW2
          have hpl := Lib.hid (pieceL_four hc)
          have hz : Hid (∀ w, Calls Tryd.prog 25 #[.string ta, .int .u8 46] w fun e w' => ∃ z : Int, e = .returned (.int .i64 z) ∧ 0 ≤ z ∧ w' = w) := Lib.hid (fun w => (hix.out w).mono (by
            rintro e w' ⟨rfl, rfl⟩
            refine ⟨_, rfl, ?_, rfl⟩
            rw [← h1.out, contains_index, decide_eq_true_iff, ByteArray.toList_eq] at hc
            exact hc))
          replace hc := Lib.hid hc
          clear hix hpc
          cases hv : fourV (cutC 58 t.toList).1 with
          | none =>
            have hno : Hid (rowC true s.toList = none) := Lib.hid (hnone.out (by show pieceL true true _ = none; rw [hpl.out, hv]; rfl))
            have hfc2 : Hid (∀ w, ML w → Calls Tryd.prog 26 #[.string ta] w (RetQ2 w none)) := Lib.hid (fun w hm => by have := hfc.out w hm; rw [h1.out, hv] at this; exact this)
            replace hv := Lib.hid hv
            go_wp2_with (go_at_call 25; refine (hz.out _).mono ?_; rintro e w' ⟨z, rfl, hzl, rfl⟩)
            refine (hfc2.out _ (hm.next hbel2)).mono ?_
            rintro e w3 ⟨⟨pv, rfl⟩, hb3⟩
            exact ⟨rfl, retRow_none hno.out (hbel2.next hb3)⟩
          | some v =>
            obtain ⟨hd1, hd2⟩ := hdone.out [v / 65536, v % 65536] (by show pieceL true true _ = _; rw [hpl.out, hv]; rfl)
            have hfc2 : Hid (∀ w, ML w → Calls Tryd.prog 26 #[.string ta] w (RetQ2 w (some v))) := Lib.hid (fun w hm => by have := hfc.out w hm; rw [h1.out, hv] at this; exact this)
            replace hv := Lib.hid hv
            have hlen8 : (P ++ [v / 65536, v % 65536]).length = P.length + 2 := by simp
            rw [hlen8] at hd1 hd2
            replace hlen8 := Lib.hid hlen8
            obtain ⟨vh, hvh⟩ : ∃ x, v / 65536 = x := ⟨_, rfl⟩
            obtain ⟨vl, hvl⟩ : ∃ x, v % 65536 = x := ⟨_, rfl⟩
            have hfc3 : Hid (∀ w, ML w → Calls Tryd.prog 26 #[.string ta] w fun e w' => e = .returned (.tuple #[.int .u16 (vh : Int), .int .u16 (vl : Int)]) ∧ Below w.heap.size w w') := Lib.hid (fun w hm => by subst hvh hvl; exact hfc2.out w hm)
            rw [hvh, hvl] at hd1 hlen8
            replace hd1 := Lib.hid hd1
            replace hd2 := Lib.hid hd2
            replace hvh := Lib.hid hvh
            replace hvl := Lib.hid hvl
            have hsz3 : w.heap.size ≤ w2.heap.size := hsz2
            by_cases h7 : P.length + 2 ≤ 8
            · have h7I : (P.length : Int) + 2 ≤ 8 := by omega
              go_wp2_with (go_at_call 25; refine (hz.out _).mono ?_; rintro e w' ⟨z, rfl, hzl, rfl⟩)
              refine (hfc3.out _ (hm.next hbel2)).mono ?_
              rintro e w3 ⟨rfl, hb3⟩
              have hbel3 := hbel2.next hb3
              have hown3 := hown2.below hb3 (Nat.le_refl _)
              have hsz3 := hbel3.size
              go_wp2_with (at_builtin; refine wpList_pushU rfl _ _ rfl [vh, vl] rfl rfl hown3 hbel3 hsz3 hP (by show 2 ≤ 8; decide) ?_; intro a' c' w4 ho4 hb4)
              go_roundw
              case rel => exact ⟨tb, P ++ [vh, vl], _, f, rfl, rfl, hbz, Lib.hid (fun h => by cases h), by rw [hlen8.out]; exact h7, ho4, hb4, hd1.out h7⟩
              case measure => exact hmea.out
            · have h7I : (8 : Int) < (P.length : Int) + 2 := by omega
              have hno : Hid (rowC true s.toList = none) := Lib.hid (hd2.out (by omega)).out
              go_wp2_with (go_at_call 25; refine (hz.out _).mono ?_; rintro e w' ⟨z, rfl, hzl, rfl⟩)
              refine (hfc3.out _ (hm.next hbel2)).mono ?_
              rintro e w3 ⟨rfl, hb3⟩
              have hbel3 := hbel2.next hb3
              have hown3 := hown2.below hb3 (Nat.le_refl _)
              have hsz3 := hbel3.size
              go_wp2_with (at_builtin; refine wpList_pushU rfl _ _ rfl [vh, vl] rfl rfl hown3 hbel3 hsz3 hP (by show 2 ≤ 8; decide) ?_; intro a' c' w4 ho4 hb4)
              exact ⟨rfl, retRow_none hno.out hb4⟩
  · have hno : Hid (rowC nb s.toList = some []) := Lib.hid (by
      have : s.toList = [] := by simpa using hem
      rw [this]; rfl)
    replace hlen := Lib.hid hlen
    go_enter Tryd.func19, Tryd.ntmps19
    go_wp2_with fail
    go_ret
    exact retRow_some hno.out (OwnU.nil _ _) hB0
end Go.Proofs.YtgkbdcdfpoaifaaDoor
