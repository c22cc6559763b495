/- The contract of srcset.Describe. -/
import Derived.Test.YtbejimncmfeggaaDoorSrcP
import Derived.Test.YtbejimncmfeggaaDoorShelf
import Derived.Great.BuildSlice
import Derived.Laws.CopyOwn
namespace Go.Proofs.YtbejimncmfeggaaDoor
open Go.RowKit
set_option linter.unusedVariables false
set_option linter.unusedSimpArgs false

theorem two_snd (w : World) (A B : Obj) : ((w.alloc A).alloc B).heap[w.heap.size + 1]? = some B := by
  have := heap_alloc_new (w.alloc A) B
  simpa using this
theorem set_off {w : World} {g i k : Nat} {v : Value} (h : k ≠ g) : (w.setCell ⟨g, i, none⟩ v).heap[k]? = w.heap[k]? := Below.heap_setCell _ _ _ _ h
theorem below_set {B g i : Nat} {a w : World} {v : Value} (h : Below B a w) (hg : B ≤ g) : Below B a (w.setCell ⟨g, i, none⟩ v) := h.setCell hg v
def e0 : ByteArray := ByteArray.empty
def nilV : Value := .slice none 0 0
/-- What Describe hands back. -/
def RetDescr (l : List ByteArray) (w : World) (e : Ending) (w' : World) : Prop :=
  (Hid (descL (l.map (·.toList)) = none) ∧ e = .returned (.tuple #[.agg (candC e0 nilV d0), .bool false]) ∧ Below w.heap.size w w') ∨
  (∃ st wv, Hid (descL (l.map (·.toList)) = some st) ∧ e = .returned (.tuple #[.agg (candC e0 wv st), .bool true]) ∧ OwnS w' w.heap.size 9 wv l ∧ Below w.heap.size w w')
theorem candInfo (u : ByteArray) (wv : Value) (st : DSt) : (Tryd.prog.info? 27).map (·.size) = some (candC u wv st).size := by kernel_rfl
theorem candCells (u : ByteArray) (pa : Option Addr) (n c : Nat) (st : DSt) : (candC u (.slice pa n c) st).all (·.oneCell') = true := by kernel_rfl
theorem descr_ret {R : Ending → World → Prop} {a : Act} {w : World} {g : Nat} {u : ByteArray} {wv : Value} {st : DSt} {b : Bool} (h2 : a.tmps.getD 2 undef = .pointer (some ⟨g, 0, none⟩)) (h3 : a.tmps.getD 3 undef = .bool b) (hd : a.defers = [])
    (hg : w.heap[g]? = some (.cells (candC u wv st) 27 (0, 0))) (hR : R (.returned (.tuple #[.agg (candC u wv st), .bool b])) w) :
    bodyPost Tryd.prog Tryd.f11 R .ret a w := by
  refine bodyPost_ret (v := .tuple #[.agg (candC u wv st), .bool b]) ?_ hd hR
  rw [results_cell_tmp rfl, h2, h3]
  simp [asAddr, Result.andThen, run_loadVar_row (P := Tryd.prog) w g _ 27 _ _ _ hg Tryd.underlying27 rfl (candInfo u wv st)]
theorem clone_any (pa : Option Addr) (c : Nat) (l : List ByteArray) (w : World) (hr : ReadS w (.slice pa l.length c) l) (hl : l.length ≤ 1000000) :
    Calls Tryd.prog 24 #[.slice pa l.length c] w fun e w' => ∃ v, e = .returned v ∧ OwnS w' w.heap.size 9 v l ∧ Below w.heap.size w w' := by
  obtain ⟨pa', c', he, hc⟩ := hr
  cases he
  cases pa with
  | none =>
    have h0 : l = [] := by
      cases l with
      | nil => rfl
      | cons a r => obtain ⟨g, o, e, _⟩ := hc (by simp); cases e
    subst h0
    refine (Tryd.slices_Clone_string_nil _ _ w).mono ?_
    rintro e w' ⟨rfl, rfl⟩
    exact ⟨_, rfl, OwnS.nil _ _ _, Below.refl _ _⟩
  | some ad =>
    by_cases h0 : 0 < l.length
    · obtain ⟨g, o, e, hcell⟩ := hc h0
      cases e
      refine (Tryd.slices_Clone_string g o l.length c l w (Nat.le_refl _) (by omega) (fun j hj => by rw [hcell j hj]; simp [List.getD, hj])).mono ?_
      rintro e w' ⟨v, rfl, ho, _, hb⟩
      exact ⟨v, rfl, by rw [List.take_of_length_le (Nat.le_refl _)] at ho; exact ho, hb⟩
    · obtain rfl : l = [] := List.eq_nil_of_length_eq_zero (by omega)
      refine (Tryd.slices_Clone_string_zero ad c w).mono ?_
      rintro e w' ⟨v, rfl, ho, _, hb⟩
      exact ⟨v, rfl, ho, hb⟩
theorem OwnS.low {w : World} {B B' : Nat} {E : TypeId} {v : Value} {l : List ByteArray} (h : OwnS w B' E v l) (hB : B ≤ B') : OwnS w B E v l := by
  refine ⟨h.1, ?_⟩
  rcases h.2 with hn | ⟨k, cap, cur, rfl, hk, rest⟩
  · exact .inl hn
  · exact .inr ⟨k, cap, cur, rfl, Nat.le_trans hB hk, rest⟩
theorem takeAll_cons (st : DSt) (l : List ByteArray) (k : Nat) (h : k < l.length) : takeAll st ((l.drop k).map (·.toList)) = (takeS st l[k].toList).bind fun st' => takeAll st' ((l.drop (k + 1)).map (·.toList)) := by
  rw [List.drop_eq_getElem_cons h, List.map_cons, takeAll]
set_option maxRecDepth 100000 in
set_option maxHeartbeats 4000000 in
theorem describe_any (v : Value) (l : List ByteArray) (w : World) (hr : ReadS w v l) (hz : ∀ x ∈ l, x.size ≤ 1000000) (hl : l.length ≤ 1000000) :
    Calls Tryd.prog 11 #[v] w (RetDescr l w) := by
  have hrd := hr
  obtain ⟨pa, c, rfl, hc⟩ := hr
  go_enter Tryd.func11, Tryd.ntmps11
  go_wp2_with fail
  go_loopw [9] (fun i wr => ∃ (k : Nat) (st : DSt), i = .int .i64 k ∧ k ≤ l.length ∧ Hid (takeAll d0 (l.map (·.toList)) = takeAll st ((l.drop k).map (·.toList))) ∧
    wr.heap[w.heap.size]? = some (.cells (candC e0 nilV d0) 27 (0, 0)) ∧ wr.heap[w.heap.size + 1]? = some (.cells (candC e0 nilV st) 27 (0, 0)) ∧ Below w.heap.size w wr) (fun i _ => l.length - (intOf i).toNat)
  case atStart => exact ⟨0, d0, rfl, Nat.zero_le _, rfl, (heap_alloc_old _ _ (by simp)).trans (heap_alloc_new _ _), two_snd _ _ _, ((Below.refl _ _).alloc (Nat.le_refl _) _).alloc (by simp) _⟩
  case round =>
    obtain ⟨k, st, rfl, hk, hrun, hrb, hcb, hbel⟩ := hrel
    have lc : w.heap.size + 1 < wr.heap.size := (Array.getElem?_eq_some_iff.1 hcb).1
    by_cases hlt : k < l.length
    · have z1 : (k : Int) < (l.length : Int) := by omega
      obtain ⟨g1, o1, rfl, hcell1⟩ := hc (by omega)
      have x1 := hcell1 k hlt
      have b1 := World.block_lt_of_cell? w _ x1
      have y1 : wr.cell? ⟨g1, o1 + k, none⟩ = some (.string l[k]) := (hbel.cell (by simpa using b1)).trans x1
      have hzk : l[k].size ≤ 1000000 := hz _ (List.getElem_mem ..)
      have hst := Lib.hid (takeAll_cons st l k hlt)
      have htk := Lib.hid (take_any (w.heap.size + 1) e0 nilV st l[k] wr hcb hzk)
      clear hcell1 x1 b1 hc
      replace hrb := Lib.hid hrb
      replace hcb := Lib.hid hcb
      obtain ⟨o, ho⟩ : ∃ o, takeS st l[k].toList = o := ⟨_, rfl⟩
      rw [ho] at htk
      cases o with
      | none =>
        have hno : Hid (descL (l.map (·.toList)) = none) := Lib.hid (by unfold descL; rw [hrun.out, hst.out, ho]; rfl)
        replace ho := Lib.hid ho
        go_wp2_with fail
        refine htk.out.mono ?_
        rintro e w2 ⟨rfl, hC, -⟩
        have hrb2 : w2.heap[w.heap.size]? = some (.cells (candC e0 nilV d0) 27 (0, 0)) := (hC.block _ (by omega) (by omega)).trans hrb.out
        have hb2 : Below w.heap.size w w2 := hbel.trans (hC.below (by omega) (by intro i hi; omega))
        replace hrb2 := Lib.hid hrb2
        clear hC
        go_wp2_with (refine wpList_store_rowTo rfl 27 _ _ rfl rfl w.heap.size (candC e0 nilV d0) rfl rfl 27 (candC e0 nilV d0) hrb2.out (candInfo _ _ _) rfl (candCells _ _ _ _ _) ?_)
        refine descr_ret rfl rfl rfl (setRow_heap _ _ _ _ _ _ hrb2.out) (.inl ⟨hno, rfl, below_setRow hb2 (Nat.le_refl _) _⟩)
      | some st2 =>
        have hnew : Hid (takeAll d0 (l.map (·.toList)) = takeAll st2 ((l.drop (k + 1)).map (·.toList))) := Lib.hid (by rw [hrun.out, hst.out, ho]; rfl)
        replace ho := Lib.hid ho
        go_wp2_with fail
        refine htk.out.mono ?_
        rintro e w2 ⟨rfl, hC, hcb2⟩
        have hrb2 : w2.heap[w.heap.size]? = some (.cells (candC e0 nilV d0) 27 (0, 0)) := (hC.block _ (by omega) (by omega)).trans hrb.out
        have hb2 : Below w.heap.size w w2 := hbel.trans (hC.below (by omega) (by intro i hi; omega))
        have hcb3 := Lib.hid (hcb2 st2 rfl)
        replace hrb2 := Lib.hid hrb2
        clear hC hcb2
        go_wp2_with fail
        go_roundw
        case rel => exact ⟨k + 1, st2, by go_num, by omega, hnew, hrb2.out, hcb3.out, hb2⟩
        case measure => simp [intOf]; omega
    · have hge : (l.length : Int) ≤ (k : Int) := by omega
      have hall : takeAll d0 (l.map (·.toList)) = some st := by rw [hrun.out, List.drop_of_length_le (by omega)]; rfl
      have hD : Hid (descL (l.map (·.toList)) = if (st.hh && !st.hw) = true then none else some st) := Lib.hid (by unfold descL; rw [hall]; rfl)
      have hread : ReadS wr (.slice pa l.length c) l := hrd.below hbel (Nat.le_refl _)
      have hcl := Lib.hid (clone_any pa c l wr hread hl)
      clear hrun hread hall
      have x2 := cell_of_row _ _ 2 _ _ _ hcb
      have x4 := cell_of_row _ _ 4 _ _ _ hcb
      simp only [candC, List.getElem?_toArray, List.getElem?_cons_zero, List.getElem?_cons_succ] at x2 x4
      obtain ⟨bw, hbw⟩ : ∃ b, st.hw = b := ⟨_, rfl⟩
      obtain ⟨bh, hbh⟩ : ∃ b, st.hh = b := ⟨_, rfl⟩
      rw [hbw] at x2
      rw [hbh] at x4
      rw [hbw, hbh] at hD
      replace hbw := Lib.hid hbw
      replace hbh := Lib.hid hbh
      replace hrb := Lib.hid hrb
      replace hcb := Lib.hid hcb
      have hway : (bh = true ∧ bw = false) ∨ (bh = false ∨ (bh = true ∧ bw = true)) := by cases bh <;> cases bw <;> simp
      rcases hway with ⟨rfl, rfl⟩ | hway
      · have hno : Hid (descL (l.map (·.toList)) = none) := hD
        go_wp2_with (refine wpList_store_rowTo rfl 27 _ _ rfl rfl w.heap.size (candC e0 nilV d0) rfl rfl 27 (candC e0 nilV d0) hrb.out (candInfo _ _ _) rfl (candCells _ _ _ _ _) ?_)
        refine descr_ret rfl rfl rfl (setRow_heap _ _ _ _ _ _ hrb.out) (.inl ⟨hno, rfl, below_setRow hbel (Nat.le_refl _) _⟩)
      · have hyes : Hid (descL (l.map (·.toList)) = some st) := Lib.hid (by rw [hD.out]; rcases hway with rfl | ⟨rfl, rfl⟩ <;> simp)
        clear hD
        rcases hway with rfl | ⟨rfl, rfl⟩
        all_goals
          go_wp2_with fail
          refine hcl.out.mono ?_
          rintro e w2 ⟨wv, rfl, ho, hb2⟩
          obtain ⟨pb, cb, rfl, -⟩ := ho.read
          have hrb2 : w2.heap[w.heap.size]? = some (.cells (candC e0 nilV d0) 27 (0, 0)) := (hb2.block _ (by omega)).trans hrb.out
          have hcb2 : w2.heap[w.heap.size + 1]? = some (.cells (candC e0 nilV st) 27 (0, 0)) := (hb2.block _ (by omega)).trans hcb.out
          have hcb3 : (w2.setCell ⟨w.heap.size + 1, 1, none⟩ (.slice pb l.length cb)).heap[w.heap.size + 1]? = some (.cells (candC e0 (.slice pb l.length cb) st) 27 (0, 0)) := set_blockA hcb2
          have hrb3 : (w2.setCell ⟨w.heap.size + 1, 1, none⟩ (.slice pb l.length cb)).heap[w.heap.size]? = some (.cells (candC e0 nilV d0) 27 (0, 0)) := (set_off (by omega)).trans hrb2
          have y1 := cell_of_row _ _ 1 _ _ _ hcb2
          have f1 := frozen_of_row _ _ 1 _ _ hcb2
          simp only [candC, List.getElem?_toArray, List.getElem?_cons_zero, List.getElem?_cons_succ] at y1
          replace hrb2 := Lib.hid hrb2
          replace hcb2 := Lib.hid hcb2
          replace hrb3 := Lib.hid hrb3
          replace hcb3 := Lib.hid hcb3
          have hbel3 : Below w.heap.size w (w2.setCell ⟨w.heap.size + 1, 1, none⟩ (.slice pb l.length cb)) := below_set (hbel.trans (hb2.mono (by omega))) (by omega)
          have hown3 : ∀ cs, OwnS ((w2.setCell ⟨w.heap.size + 1, 1, none⟩ (.slice pb l.length cb)).setRow w.heap.size cs) w.heap.size 9 (.slice pb l.length cb) l := fun cs => (ho.chg (fun i h1 h2 => (setRow_other _ _ _ _ (by omega)).trans (set_off (by omega)))).low (by omega)
          replace hown3 := Lib.hid hown3
          clear ho
          go_wp2_with (first | (refine wpList_load_row rfl 27 _ rfl (w.heap.size + 1) rfl _ _ _ _ hcb3.out Tryd.underlying27 rfl (candInfo _ _ _) ?_) | (refine wpList_store_rowTo rfl 27 _ _ rfl rfl w.heap.size (candC e0 (.slice pb l.length cb) st) rfl rfl 27 (candC e0 nilV d0) hrb3.out (candInfo _ _ _) rfl (candCells _ _ _ _ _) ?_))
          refine descr_ret rfl rfl rfl (setRow_heap _ _ _ _ _ _ hrb3.out) (.inr ⟨_, _, hyes, rfl, hown3.out _, below_setRow hbel3 (Nat.le_refl _) _⟩)
end Go.Proofs.YtbejimncmfeggaaDoor
