/- The contract of six.Parse. -/
import Derived.Test.YtgkbdcdfpoaifaaDoorSixC
import Derived.Test.YtgkbdcdfpoaifaaDoorSixD
import Derived.Test.YtgkbdcdfpoaifaaDoorSixW
import Derived.Laws.CopyOwn
namespace Go.Proofs.YtgkbdcdfpoaifaaDoor
open Go.RowKit
set_option linter.unusedVariables false
set_option linter.unusedSimpArgs false

theorem results_cells {fn : Func} {p q : Tmp} {tyA tyB : TypeId} (h : fn.results = #[.cell p tyA, .cell q tyB]) (tmps : Array Value) (P : Program) (w : World) :
    (results fn tmps).run P w =
      ((asAddr (tmps.getD p undef)).run P w).andThen fun a w₁ => ((loadVar tyA a).run P w₁).andThen fun v w₂ => ((asAddr (tmps.getD q undef)).run P w₂).andThen fun b w₃ => ((loadVar tyB b).run P w₃).andThen fun u w₄ => .ok (.tuple #[v, u]) w₄ := by
  simp only [results, h]
  simp [Sem.run_bind, Result.andThen]
theorem results_six {tmps : Array Value} {w : World} {g g2 : Nat} {c : Array Value} {b : Bool} (h2 : tmps.getD 2 undef = .pointer (some ⟨g, 0, none⟩)) (h3 : tmps.getD 3 undef = .pointer (some ⟨g2, 0, none⟩))
    (hg : w.heap[g]? = some (.cells c 23)) (hc : c.size = 8) (hg2 : w.heap[g2]? = some (.cells #[.bool b] 4)) : (results Tryd.f10 tmps).run Tryd.prog w = .ok (.tuple #[.agg c, .bool b]) w := by
  have y0 : w.cell? ⟨g2, 0, none⟩ = some (.bool b) := by simp [World.cell?, hg2]
  have hb : (loadVar 4 ⟨g2, 0, none⟩).run Tryd.prog w = .ok (.bool b) w := by simp [go_sem, y0]
  have ha := run_loadVar_row (P := Tryd.prog) w g 23 23 c _ _ hg Tryd.underlying23 rfl (by rw [hc]; kernel_rfl)
  rw [results_cells rfl, h2, h3]
  simp only [asAddr, Sem.run_pure, Result.andThen, ha, hb]
def catchers (g g2 : Nat) : List Deferred := [{ target := .fn (.func 17) #[.pointer (some ⟨g, 0, none⟩), .pointer (some ⟨g2, 0, none⟩)], args := #[] }]
theorem end_idle {R : Ending → World → Prop} {tmps : Array Value} {w : World} {g g2 : Nat} {c : Array Value} {b : Bool} (h2 : tmps.getD 2 undef = .pointer (some ⟨g, 0, none⟩)) (h3 : tmps.getD 3 undef = .pointer (some ⟨g2, 0, none⟩))
    (hg : w.heap[g]? = some (.cells c 23)) (hc : c.size = 8) (hg2 : w.heap[g2]? = some (.cells #[.bool b] 4)) (hR : R (.returned (.tuple #[.agg c, .bool b])) w) :
    Leaves Tryd.prog Tryd.f10 tmps R (catchers g g2) .returning w := by
  refine leaves_cons (f := 17) (args := #[.pointer (some ⟨g, 0, none⟩), .pointer (some ⟨g2, 0, none⟩)]) (by simp) (by simp [go_sem]) ?_
  refine (catch_idle ⟨g, 0, none⟩ ⟨g2, 0, none⟩ w).mono ?_
  rintro e u' w' ⟨rfl, rfl, rfl⟩
  exact ⟨_, results_six h2 h3 hg hc hg2, hR⟩
theorem end_panic {R : Ending → World → Prop} {tmps : Array Value} {w : World} {g g2 B : Nat} {c : Array Value} {b pv : Value} (h2 : tmps.getD 2 undef = .pointer (some ⟨g, 0, none⟩)) (h3 : tmps.getD 3 undef = .pointer (some ⟨g2, 0, none⟩))
    (hg : w.heap[g]? = some (.cells c 23)) (hc : c.size = 8) (hg2 : w.heap[g2]? = some (.cells #[b] 4)) (hne : g ≠ g2) (hB1 : B ≤ g) (hB2 : B ≤ g2) (hR : ∀ w', Below B w w' → R (.returned (.tuple #[.agg zero8, .bool false])) w') :
    Leaves Tryd.prog Tryd.f10 tmps R (catchers g g2) (.panicking [{ v := .iface 54 pv, recovered := false }]) w := by
  refine leaves_cons (f := 17) (args := #[.pointer (some ⟨g, 0, none⟩), .pointer (some ⟨g2, 0, none⟩)]) (by simp) (by simp [go_sem]) ?_
  refine (catch_panicking g g2 B pv [] w c hc b hg hg2 hne hB1 hB2).mono ?_
  rintro e u' w' ⟨rfl, rfl, k1, k2, hb⟩
  exact ⟨_, results_six h2 h3 k1 rfl k2, hR _ hb⟩
/-- An address of eight pieces, or none. -/
def RetSix (w : World) (o : Option (List Nat)) (e : Ending) (w' : World) : Prop :=
  e = .returned (.tuple #[sixV (o.getD [0, 0, 0, 0, 0, 0, 0, 0]), .bool o.isSome]) ∧ Below w.heap.size w w'
theorem retSix_none {w w' : World} {o : Option (List Nat)} (h : o = none) (hb : Below w.heap.size w w') : RetSix w o (.returned (.tuple #[.agg zero8, .bool false])) w' := by subst h; exact ⟨rfl, hb⟩
theorem retSix_some {w w' : World} {o : Option (List Nat)} {l : List Nat} (h : o = some l) (hb : Below w.heap.size w w') : RetSix w o (.returned (.tuple #[.agg (sixCells l), .bool true])) w' := by subst h; exact ⟨rfl, hb⟩
/-- The two results' cells, the call running. -/
structure SixW (w wx : World) (c : Array Value) : Prop where
  below : Below w.heap.size w wx
  size : w.heap.size + 2 ≤ wx.heap.size
  a : wx.heap[w.heap.size]? = some (.cells c 23)
  b : wx.heap[w.heap.size + 1]? = some (.cells #[.bool false] 4)
theorem SixW.next {w wx wy : World} {c : Array Value} (h : SixW w wx c) (hb : Below wx.heap.size wx wy) : SixW w wy c :=
  ⟨h.below.next hb, by have := hb.size; have := h.size; omega, (hb.block _ (by have := h.size; omega)).trans h.a, (hb.block _ (by have := h.size; omega)).trans h.b⟩
theorem SixW.start (w : World) : SixW w ((w.alloc (.cells zero8 23)).alloc (.cells #[.bool false] 4)) zero8 :=
  ⟨((Below.refl _ _).alloc (Nat.le_refl _) _).alloc (by simp) _, by simp, by rw [heap_alloc_old _ _ (by simp), heap_alloc_new], heap_alloc2_new w _ _⟩
theorem SixW.panic {w wx : World} {c : Array Value} {tmps : Array Value} {s : List UInt8} {pv : Value} (h : SixW w wx c) (hc : c.size = 8) (hno : sixP s = none) (h2 : tmps.getD 2 undef = .pointer (some ⟨w.heap.size, 0, none⟩)) (h3 : tmps.getD 3 undef = .pointer (some ⟨w.heap.size + 1, 0, none⟩)) :
    Leaves Tryd.prog Tryd.f10 tmps (RetSix w (sixP s)) (catchers w.heap.size (w.heap.size + 1)) (.panicking [{ v := .iface 54 pv, recovered := false }]) wx :=
  end_panic (B := w.heap.size) h2 h3 h.a hc h.b (by omega) (Nat.le_refl _) (by omega) (fun w' hb => retSix_none hno (h.below.trans hb))
theorem SixW.setRow {w wx : World} {c : Array Value} (h : SixW w wx c) (d : Array Value) : SixW w (wx.setRow w.heap.size d) d :=
  ⟨below_setRow h.below (Nat.le_refl _) _, by have := h.size; simpa using this, setRow_heap _ _ _ _ _ _ h.a, (setRow_other _ _ _ _ (by omega)).trans h.b⟩
theorem SixW.cellb {w wx : World} {c : Array Value} (h : SixW w wx c) : wx.cell? ⟨w.heap.size + 1, 0, none⟩ = some (.bool false) ∧ wx.frozen? ⟨w.heap.size + 1, 0, none⟩ = false := by
  constructor
  · simp [World.cell?, h.b]
  · simp [World.frozen?, h.b]
theorem SixW.done {w wx : World} {c tmps : Array Value} {R : Ending → World → Prop} {b : Bool} (h : SixW w wx c) (hc : c.size = 8) (h2 : tmps.getD 2 undef = .pointer (some ⟨w.heap.size, 0, none⟩)) (h3 : tmps.getD 3 undef = .pointer (some ⟨w.heap.size + 1, 0, none⟩))
    (hR : ∀ w', Below w.heap.size w w' → R (.returned (.tuple #[.agg c, .bool b])) w') :
    Leaves Tryd.prog Tryd.f10 tmps R (catchers w.heap.size (w.heap.size + 1)) .returning (wx.setCell ⟨w.heap.size + 1, 0, none⟩ (.bool b)) :=
  end_idle h2 h3 ((set_other (by omega) 0 _).trans h.a) hc ((set_at (cs := #[.bool false]) h.b 0 (.bool b))) (hR _ (h.below.setCell (p := ⟨w.heap.size + 1, 0, none⟩) (by simp) _))
/-- 'copy(row[off:], src)': the row behind it is this one. -/
theorem wpList_copy_row {P : Program} {w : World} {ops : Array Oper} {rest : List Oper} {o : Oper} {a : Act} {Q : Exit → Act → World → Prop} (hgd : o.guard = none) (d s : Operand) (dT sT : TypeId)
    (ho : o.op = .call { callee := .builtin .copy, args := #[d, s], argTypes := #[dT, sT] }) (elem : TypeId) (hu : P.underlying dT = some (.slice elem)) (hsz : (P.info? elem).map (·.size) = some 1)
    (dp sp : Option Addr) (dLen dCap sLen sCap : Nat) (hd : a.eval d = .slice dp dLen dCap) (hs : a.eval s = .slice sp sLen sCap)
    (g off : Nat) (cur : Array Value) (t : TypeId) (hg : w.heap[g]? = some (.cells cur t (0, 0))) (cs : List Value) (D : Array Value) (hD : D = (splice cur.toList off cs).toArray) (hn : cs.length = Nat.min sLen dLen)
    (hpos : 0 < cs.length → dp = some ⟨g, off, none⟩ ∧ ∃ ad, sp = some ad ∧ ∀ j v, cs[j]? = some v → w.cell? (ad.add j) = some v)
    (hfit : off + cs.length ≤ cur.size) (h1 : ∀ v ∈ cs, v.oneCell' = true)
    (h : wpList P ops Q rest (a.put o.dst (goInt cs.length)) (w.setRow g D)) :
    wpList P ops Q (o :: rest) a w := by
  subst hD
  by_cases h0 : cs.length = 0
  · obtain rfl : cs = [] := List.eq_nil_of_length_eq_zero h0
    refine wpList_copy_nothing hgd d s dT sT ho elem hu hsz dp sp dLen dCap sLen sCap hd hs (by simpa using hn.symm) ?_
    have e : (splice cur.toList off ([] : List Value)).toArray = cur := by simp [splice]
    rw [e, setRow_self w g cur t (0, 0) hg] at h
    exact h
  · obtain ⟨rfl, ad, rfl, hsrc⟩ := hpos (by omega)
    exact wpList_copy_own hgd d s dT sT ho elem hu hsz g off dLen dCap ad sLen sCap hd hs cur t hg cs hn hsrc hfit h1 h
theorem OwnU.src {w : World} {B : Nat} {a : Option Addr} {n c : Nat} {x : List Nat} (h : OwnU w B (.slice a n c) x) (h0 : 0 < x.length) : ∃ ad, a = some ad ∧ ∀ j v, (x.map u16V)[j]? = some v → w.cell? (ad.add j) = some v := by
  rcases h.2 with ⟨_, hn⟩ | ⟨g, cap, cur, hv, hg, hh, _⟩
  · omega
  · obtain ⟨rfl, _, _⟩ := Value.slice.inj hv
    exact ⟨_, rfl, World.ownsRow.cells h rfl⟩
theorem cutD_len (l : List UInt8) : (cutD l).1.length ≤ l.length ∧ (cutD l).2.1.length ≤ l.length := by
  unfold cutD Lib.cut
  split
  · exact ⟨by show (List.take _ l).length ≤ _; rw [List.length_take]; omega, by show (List.drop _ l).length ≤ _; rw [List.length_drop]; omega⟩
  · exact ⟨Nat.le_refl _, Nat.zero_le _⟩
theorem rowC_le {nb : Bool} {l : List UInt8} {x : List Nat} (h : rowC nb l = some x) : x.length ≤ 8 := by
  unfold rowC at h
  split at h
  · cases h
  · split at h
    · cases h; assumption
    · cases h
theorem row_at {s : ByteArray} {nb : Bool} {o : Option (List Nat)} (w : World) (hm : ML w) (hs : s.size ≤ 1000000) (h : rowC nb s.toList = o) : Calls Tryd.prog 19 #[.string s, .bool nb] w (RetRow w o) := h ▸ row_any s nb w hm hs
set_option maxRecDepth 100000 in
set_option maxHeartbeats 4000000 in
theorem sixParse_any (s : ByteArray) (w : World) (hm : ML w) (hs : s.size ≤ 1000000) :
    Calls Tryd.prog 10 #[.string s] w (RetSix w (sixP s.toList)) := by
  have hmf : ∀ (fn : Fn) (first cap : Array Value) (w : World), (Instr.makeFunc fn first cap).run Tryd.prog w = .ok (.func fn first cap) w := fun _ _ _ _ => rfl
  have hW0 := SixW.start w
  have hm0 := hm.next hW0.below
  obtain ⟨m, hml⟩ := hm0
  have hcut := Lib.hid (Tryd.strings_Cut s ⟨#[58, 58]⟩ m _ (by omega) hml)
  clear hml
  go_enter_defers Tryd.func10, Tryd.ntmps10
  go_wp2_with fail
  refine hcut.out.mono ?_
  rintro e w3 ⟨rfl, nd, hw⟩
  have hW := hW0.next (show Below _ _ w3 from hw ▸ below_drewN (Below.refl _ _) nd)
  clear hcut hW0 hw
  have hC : Lib.cut s.data.toList [58, 58] = cutD s.toList := by rw [ByteArray.toList_eq]; rfl
  rw [hC]
  obtain ⟨ta, hta⟩ : ∃ x : ByteArray, (⟨(cutD s.toList).1.toArray⟩ : ByteArray) = x := ⟨_, rfl⟩
  obtain ⟨tb, htb⟩ : ∃ x : ByteArray, (⟨(cutD s.toList).2.1.toArray⟩ : ByteArray) = x := ⟨_, rfl⟩
  obtain ⟨two, htwo⟩ : ∃ x, (cutD s.toList).2.2 = x := ⟨_, rfl⟩
  rw [hta, htb, htwo]
  have hal : ta.toList = (cutD s.toList).1 := by rw [← hta]; exact toList_mk _
  have hbl : tb.toList = (cutD s.toList).2.1 := by rw [← htb]; exact toList_mk _
  have hlen := cutD_len s.toList
  have has : ta.size ≤ 1000000 := by rw [← size_toList, hal]; rw [size_toList] at hlen; omega
  have hbs : tb.size ≤ 1000000 := by rw [← size_toList, hbl]; rw [size_toList] at hlen; omega
  have hP : sixP s.toList = if two = true then (match rowC false ta.toList with
    | none => none
    | some x => match rowC true tb.toList with
      | none => none
      | some y => if x.length + y.length < 8 then some (x ++ (List.replicate (8 - x.length - y.length) 0 ++ y)) else none)
    else match rowC true s.toList with | none => none | some x => if x.length = 8 then some x else none := by
    rw [hal, hbl, ← htwo]; rfl
  replace hP := Lib.hid hP
  clear hlen hal hbl hta htb hC
  replace htwo := Lib.hid htwo
  have hm3 := hm.next hW.below
  cases two
  · cases hv : rowC true s.toList with
    | none =>
      have hno : Hid (sixP s.toList = none) := Lib.hid (by rw [hP.out, if_neg (by decide), hv])
      have hrow := Lib.hid (row_at _ hm3 hs hv)
      replace hv := Lib.hid hv
      go_wp2_with fail
      refine hrow.out.mono ?_
      rintro e w4 ⟨⟨pv, rfl⟩, hb⟩
      exact (hW.next hb).panic rfl hno.out rfl rfl
    | some x =>
      have hrow := Lib.hid (row_at _ hm3 hs hv)
      have hq : Hid (sixP s.toList = if x.length = 8 then some x else none) := Lib.hid (by rw [hP.out, if_neg (by decide), hv])
      replace hv := Lib.hid hv
      go_wp2_with fail
      refine hrow.out.mono ?_
      rintro e w4 ⟨⟨v, rfl, ho⟩, hb⟩
      obtain ⟨xa, xc, rfl⟩ := ho.form
      have hW4 := hW.next hb
      clear hb
      by_cases h8 : x.length = 8
      · have hyes : Hid (sixP s.toList = some x) := Lib.hid (by rw [hq.out, if_pos h8])
        have h8I : ((x.length : Int) != 8) = false := by rw [h8]; rfl
        replace h8 := Lib.hid h8
        obtain ⟨D, hD⟩ : ∃ D, D = (splice zero8.toList 0 (x.map u16V)).toArray := ⟨_, rfl⟩
        have hDx : Hid (D = sixCells x) := Lib.hid (by
          rw [hD]
          have e : splice zero8.toList 0 (x.map u16V) = x.map u16V := by
            unfold splice
            rw [List.take_zero, List.nil_append, List.drop_of_length_le (by rw [List.length_map, h8.out]; decide), List.append_nil]
          rw [e]; rfl)
        have hDs : D.size = 8 := by rw [hDx.out]; simp [sixCells, h8.out]
        have hi8 : Hid ((Tryd.prog.info? 23).map (·.size) = some D.size) := Lib.hid (by rw [hDs]; kernel_rfl)
        have hone : Hid (D.all (·.oneCell') = true) := Lib.hid (by rw [hDx.out]; simp [sixCells, Value.oneCell'])
        have hW5 := hW4.setRow D
        have hW6 := hW5.setRow D
        obtain ⟨y0, f2⟩ := hW6.cellb
        replace hD := Lib.hid hD
        replace hDs := Lib.hid hDs
        go_wp2_with (first
          | (refine wpList_copy_row rfl _ _ 39 39 rfl 22 Tryd.underlying39 (by kernel_rfl) (some ⟨w.heap.size, 0, none⟩) xa 8 8 x.length xc rfl rfl w.heap.size 0 zero8 23 hW4.a (x.map u16V) D hD.out (by rw [List.length_map, h8.out]; rfl) (fun h0 => ⟨rfl, ho.src (by simpa using h0)⟩) (by rw [List.length_map, h8.out]; decide) (by intro v hv; obtain ⟨n, _, rfl⟩ := List.mem_map.1 hv; rfl) ?_)
          | (refine wpList_load_row rfl 23 _ rfl w.heap.size rfl 23 D _ _ hW5.a Tryd.underlying23 rfl hi8.out ?_)
          | (refine wpList_store_row rfl 23 _ _ rfl w.heap.size D rfl rfl 23 _ hW5.a hi8.out rfl hone.out ?_))
        exact hW6.done hDs.out rfl rfl (fun w' hb => hDx.out ▸ retSix_some hyes.out hb)
      · have hno : Hid (sixP s.toList = none) := Lib.hid (by rw [hq.out, if_neg h8])
        have h8I : ((x.length : Int) != 8) = true := by simp only [bne_iff_ne, ne_eq]; omega
        have hWs := hW4.setRow zero8
        obtain ⟨y0, f2⟩ := hWs.cellb
        replace h8 := Lib.hid h8
        go_wp2_with (refine wpList_store_row rfl 23 _ _ rfl w.heap.size zero8 rfl rfl 23 _ hW4.a (by kernel_rfl) rfl (by kernel_rfl) ?_)
        exact hWs.done rfl rfl rfl (fun w' hb => retSix_none hno.out hb)
  · have hP2 : Hid (sixP s.toList = match rowC false ta.toList with
      | none => none
      | some x => match rowC true tb.toList with
        | none => none
        | some y => if x.length + y.length < 8 then some (x ++ (List.replicate (8 - x.length - y.length) 0 ++ y)) else none) := Lib.hid (by rw [hP.out, if_pos rfl])
    clear hP
    cases hv : rowC false ta.toList with
    | none =>
      have hno : Hid (sixP s.toList = none) := Lib.hid (by rw [hP2.out, hv])
      have hrow := Lib.hid (row_at _ hm3 has hv)
      replace hv := Lib.hid hv
      go_wp2_with fail
      refine hrow.out.mono ?_
      rintro e w4 ⟨⟨pv, rfl⟩, hb⟩
      exact (hW.next hb).panic rfl hno.out rfl rfl
    | some x =>
      have hrow := Lib.hid (row_at _ hm3 has hv)
      have hx8 : x.length ≤ 8 := rowC_le hv
      go_wp2_with fail
      refine hrow.out.mono ?_
      rintro e w4 ⟨⟨v, rfl, ho⟩, hb⟩
      obtain ⟨xa, xc, rfl⟩ := ho.form
      have hW4 := hW.next hb
      have hm4 := hm3.next hb
      clear hb hrow
      cases hu : rowC true tb.toList with
      | none =>
        have hno : Hid (sixP s.toList = none) := Lib.hid (by rw [hP2.out, hv]; dsimp only; rw [hu])
        have hrow := Lib.hid (row_at _ hm4 hbs hu)
        replace hv := Lib.hid hv
        replace hu := Lib.hid hu
        go_wp2_with fail
        refine hrow.out.mono ?_
        rintro e w5 ⟨⟨pv, rfl⟩, hb⟩
        exact (hW4.next hb).panic rfl hno.out rfl rfl
      | some y =>
        have hrow := Lib.hid (row_at _ hm4 hbs hu)
        have hy8 : y.length ≤ 8 := rowC_le hu
        have hq : Hid (sixP s.toList = if x.length + y.length < 8 then some (x ++ (List.replicate (8 - x.length - y.length) 0 ++ y)) else none) := Lib.hid (by rw [hP2.out, hv]; dsimp only; rw [hu])
        replace hv := Lib.hid hv
        replace hu := Lib.hid hu
        go_wp2_with fail
        refine hrow.out.mono ?_
        rintro e w5 ⟨⟨v, rfl, ho2⟩, hb⟩
        obtain ⟨ya, yc, rfl⟩ := ho2.form
        have hox := ho.below hb (Nat.le_refl _)
        have hW5 := hW4.next hb
        have h24 := hW4.size
        clear hb ho
        by_cases h8 : x.length + y.length < 8
        · have hyes : Hid (sixP s.toList = some (x ++ (List.replicate (8 - x.length - y.length) 0 ++ y))) := Lib.hid (by rw [hq.out, if_pos h8])
          have h8I : (x.length : Int) + (y.length : Int) < 8 := by omega
          obtain ⟨k, hk⟩ : ∃ k, y.length + k = 8 := ⟨8 - y.length, by omega⟩
          have hkI : (8 : Int) - (y.length : Int) = (k : Int) := by omega
          have hk1 : (k : Int) ≤ 8 := by omega
          have hy8I : (y.length : Int) ≤ 8 := by omega
          obtain ⟨D, hD⟩ : ∃ D, D = (splice zero8.toList 0 (x.map u16V)).toArray := ⟨_, rfl⟩
          have hDx : Hid (D = (x.map u16V ++ List.replicate (8 - x.length) (u16V 0)).toArray) := Lib.hid (by
            rw [hD]
            have e : splice zero8.toList 0 (x.map u16V) = x.map u16V ++ List.replicate (8 - x.length) (u16V 0) := by
              unfold splice
              rw [List.take_zero, List.nil_append, Nat.zero_add, List.length_map]
              congr 1
              have : zero8.toList = List.replicate 8 (u16V 0) := rfl
              rw [this, List.drop_replicate]
            rw [e])
          have hDs : D.size = 8 := by rw [hDx.out]; simp; omega
          obtain ⟨E, hE⟩ : ∃ E, E = (splice D.toList k (y.map u16V)).toArray := ⟨_, rfl⟩
          have hEx : Hid (E = sixCells (x ++ (List.replicate (8 - x.length - y.length) 0 ++ y))) := Lib.hid (by
            rw [hE]
            have e : splice D.toList k (y.map u16V) = (x ++ (List.replicate (8 - x.length - y.length) 0 ++ y)).map u16V := by
              unfold splice
              rw [List.drop_of_length_le (by rw [Array.length_toList, hDs, List.length_map]; omega), List.append_nil, hDx.out]
              rw [List.take_append, List.length_map, List.take_of_length_le (by rw [List.length_map]; omega), List.take_replicate, List.map_append, List.map_append, List.map_replicate, List.append_assoc]
              congr 3
              omega
            rw [e]; rfl)
          have hEs : E.size = 8 := by rw [hEx.out]; simp [sixCells]; omega
          have hi8 : Hid ((Tryd.prog.info? 23).map (·.size) = some E.size) := Lib.hid (by rw [hEs]; kernel_rfl)
          have hone : Hid (E.all (·.oneCell') = true) := Lib.hid (by rw [hEx.out]; simp [sixCells, Value.oneCell'])
          have hW6 := hW5.setRow D
          have hW7 := hW6.setRow E
          have hW8 := hW7.setRow E
          obtain ⟨y0, f2⟩ := hW8.cellb
          have hyown : Hid (∀ {a c : _}, OwnU w5 w4.heap.size (.slice a y.length c) y → OwnU (w5.setRow w.heap.size D) w4.heap.size (.slice a y.length c) y) := Lib.hid (fun h => by
            refine ⟨h.1, ?_⟩
            rcases h.2 with hn | ⟨g, cap, cur, hv, hg, hh, rest⟩
            · exact .inl hn
            · exact .inr ⟨g, cap, cur, hv, hg, by rw [setRow_other _ _ _ _ (by omega)]; exact hh, rest⟩)
          have ho3 := hyown.out ho2
          replace hD := Lib.hid hD
          replace hE := Lib.hid hE
          replace hDs := Lib.hid hDs
          replace hEs := Lib.hid hEs
          have hkN := Lib.hid hk
          clear hk
          by_cases hk8 : k = 8
          · subst hk8
            obtain rfl : y = [] := List.eq_nil_of_length_eq_zero (by have := hkN.out; omega)
            have hkN := 0
            go_wp2_with (first
              | (refine wpList_copy_row rfl (.tmp 40) (.tmp 41) 39 39 rfl 22 Tryd.underlying39 (by kernel_rfl) (some ⟨w.heap.size, 0, none⟩) xa 8 8 x.length xc rfl rfl w.heap.size 0 zero8 23 hW5.a (x.map u16V) D hD.out (by rw [List.length_map]; exact (Nat.min_eq_left hx8).symm) (fun h0 => ⟨rfl, hox.src (by simpa using h0)⟩) (by rw [List.length_map]; show 0 + x.length ≤ 8; omega) (by intro v hv; obtain ⟨n, _, rfl⟩ := List.mem_map.1 hv; rfl) ?_)
              | (refine wpList_copy_row rfl (.tmp 46) (.tmp 47) 39 39 rfl 22 Tryd.underlying39 (by kernel_rfl) _ _ _ _ _ _ rfl rfl w.heap.size 8 D 23 hW6.a [] E hE.out (by first | rfl | simp) (fun h0 => absurd h0 (by decide)) (by rw [hDs.out]; decide) (by intro v hv; cases hv) ?_)
              | (refine wpList_load_row rfl 23 _ rfl w.heap.size rfl 23 E _ _ hW7.a Tryd.underlying23 rfl hi8.out ?_)
              | (refine wpList_store_row rfl 23 _ _ rfl w.heap.size E rfl rfl 23 _ hW7.a hi8.out rfl hone.out ?_))
            exact hW8.done hEs.out rfl rfl (fun w' hb => hEx.out ▸ retSix_some hyes.out hb)
          · have hk8I : (k : Int) < 8 := by omega
            have hyk : Hid ((y.map u16V).length = Nat.min y.length (8 - k)) := Lib.hid (by rw [List.length_map]; have := hkN.out; exact (Nat.min_eq_left (by omega)).symm)
            go_wp2_with (first
              | (refine wpList_copy_row rfl (.tmp 40) (.tmp 41) 39 39 rfl 22 Tryd.underlying39 (by kernel_rfl) (some ⟨w.heap.size, 0, none⟩) xa 8 8 x.length xc rfl rfl w.heap.size 0 zero8 23 hW5.a (x.map u16V) D hD.out (by rw [List.length_map]; exact (Nat.min_eq_left hx8).symm) (fun h0 => ⟨rfl, hox.src (by simpa using h0)⟩) (by rw [List.length_map]; show 0 + x.length ≤ 8; omega) (by intro v hv; obtain ⟨n, _, rfl⟩ := List.mem_map.1 hv; rfl) ?_)
              | (refine wpList_copy_row rfl (.tmp 46) (.tmp 47) 39 39 rfl 22 Tryd.underlying39 (by kernel_rfl) (some ⟨w.heap.size, k, none⟩) ya (8 - k) (8 - k) y.length yc rfl rfl w.heap.size k D 23 hW6.a (y.map u16V) E hE.out hyk.out (fun h0 => ⟨rfl, ho3.src (by simpa using h0)⟩) (by rw [List.length_map, hDs.out]; have := hkN.out; omega) (by intro v hv; obtain ⟨n, _, rfl⟩ := List.mem_map.1 hv; rfl) ?_)
              | (refine wpList_load_row rfl 23 _ rfl w.heap.size rfl 23 E _ _ hW7.a Tryd.underlying23 rfl hi8.out ?_)
              | (refine wpList_store_row rfl 23 _ _ rfl w.heap.size E rfl rfl 23 _ hW7.a hi8.out rfl hone.out ?_))
            exact hW8.done hEs.out rfl rfl (fun w' hb => hEx.out ▸ retSix_some hyes.out hb)
        · have hno : Hid (sixP s.toList = none) := Lib.hid (by rw [hq.out, if_neg h8])
          have h8I : (8 : Int) ≤ (x.length : Int) + (y.length : Int) := by omega
          have hx8I : (x.length : Int) ≤ 8 := by omega
          have hy8I : (y.length : Int) ≤ 8 := by omega
          have hWs := hW5.setRow zero8
          obtain ⟨y0, f2⟩ := hWs.cellb
          go_wp2_with (refine wpList_store_row rfl 23 _ _ rfl w.heap.size zero8 rfl rfl 23 _ hW5.a (by kernel_rfl) rfl (by kernel_rfl) ?_)
          exact hWs.done rfl rfl rfl (fun w' hb => retSix_none hno.out hb)
end Go.Proofs.YtgkbdcdfpoaifaaDoor
