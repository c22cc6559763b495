/- The contracts of six.Parse's deferred closure: behind a panic; behind a return. -/
import Derived.Test.YtgkbdcdfpoaifaaDoorSixB
import Derived.Tactics2
import Derived.Defers
import Derived.Recover
import Derived.Laws.Pointers
import Derived.Laws.Rows
import Derived.Laws.Tables
import Derived.Laws.CopyOwn
namespace Go.Proofs.YtgkbdcdfpoaifaaDoor
open Go.RowKit
set_option linter.unusedVariables false
set_option linter.unusedSimpArgs false

theorem catch_idle (p q : Addr) (w : World) :
    CallsD Tryd.prog 17 #[.pointer (some p), .pointer (some q)] .returning w fun e u' w' => e = .returned (.tuple #[]) ∧ u' = .returning ∧ w' = w := by
  refine callsD_of_wpS Tryd.func17 rfl fun c₀ cs hu => ?_
  apply wpS_seq
  apply wpS_region
  simp [wpOpsS, go_sem, recoverD, hu, Tryd.ntmps17, Exit.thenS]
  refine wpS_cond (t := false) (by simp [Act.eval, Array.replicate]) ?_
  simp only [Bool.false_eq_true, if_false]
  refine wpS_of_wp (wp_skip ?_)
  cases c₀
  simp_all [bodyPostS, results, Tryd.results17]
theorem postS_intro {P : Program} {fn : Func} {c₀ : Frame} {cs cs' : List Frame} {R : Ending → FrameMode → World → Prop} {a : Act} {w : World} (u' : FrameMode) (v : Value) (hd : a.defers = []) (hcs : cs' = { c₀ with mode := u' } :: cs)
    (hr : (results fn a.tmps).run P w = .ok v w) (hR : R (.returned v) u' w) : bodyPostS P fn c₀ cs R .normal a cs' w := ⟨hd, u', hcs, v, hr, hR⟩
def zero8 : Array Value := #[.int .u16 0, .int .u16 0, .int .u16 0, .int .u16 0, .int .u16 0, .int .u16 0, .int .u16 0, .int .u16 0]
theorem set_at {w : World} {g : Nat} {cs : Array Value} {t : TypeId} (hg : w.heap[g]? = some (.cells cs t)) (i : Nat) (v : Value) : (w.setCell ⟨g, i, none⟩ v).heap[g]? = some (.cells (cs.setIfInBounds i v) t) := by
  simp only [World.setCell, Array.getElem?_modify, if_true, hg]; rfl
theorem set_other {w : World} {g k : Nat} (h : k ≠ g) (i : Nat) (v : Value) : (w.setCell ⟨g, i, none⟩ v).heap[k]? = w.heap[k]? := Below.heap_setCell w ⟨g, i, none⟩ v k h
set_option maxHeartbeats 1000000 in
theorem catch_panicking (g g2 B : Nat) (pv : Value) (older : List PanicEntry) (w : World) (c : Array Value) (hc : c.size = 8) (b : Value) (hg : w.heap[g]? = some (.cells c 23)) (hg2 : w.heap[g2]? = some (.cells #[b] 4)) (hne : g ≠ g2) (hB1 : B ≤ g) (hB2 : B ≤ g2) :
    CallsD Tryd.prog 17 #[.pointer (some ⟨g, 0, none⟩), .pointer (some ⟨g2, 0, none⟩)] (.panicking ({ v := .iface 54 pv, recovered := false } :: older)) w fun e u' w' =>
      e = .returned (.tuple #[]) ∧ u' = .panicking ({ v := .iface 54 pv, recovered := true } :: older) ∧
        w'.heap[g]? = some (.cells zero8 23) ∧ w'.heap[g2]? = some (.cells #[.bool false] 4) ∧ Below B w w' := by
  have k2 : (w.setRow g zero8).heap[g2]? = some (.cells #[b] 4) := (setRow_other w g g2 zero8 (Ne.symm hne)).trans hg2
  have k1 : (w.setRow g zero8).heap[g]? = some (.cells zero8 23) := setRow_heap w g c zero8 _ (0, 0) hg
  have y0 : (w.setRow g zero8).cell? ⟨g2, 0, none⟩ = some b := by simp [World.cell?, k2]
  have f2 : (w.setRow g zero8).frozen? ⟨g2, 0, none⟩ = false := by simp [World.frozen?, k2]
  have hbel : Below B w (w.setRow g zero8) := below_setRow (Below.refl _ _) hB1 _
  refine callsD_of_wpS Tryd.func17 rfl fun c₀ cs hu => ?_
  apply wpS_seq
  apply wpS_region
  simp [wpOpsS, go_sem, recoverD, hu, Tryd.ntmps17, Exit.thenS]
  refine wpS_cond (t := true) (by simp [Act.eval, Array.replicate]) ?_
  simp only [if_true]
  refine wpS_of_wp ?_
  replace hg := Lib.hid hg
  replace hg2 := Lib.hid hg2
  replace k1 := Lib.hid k1
  replace k2 := Lib.hid k2
  replace hu := Lib.hid hu
  simp only [Array.replicate, List.setIfInBounds_toArray]
  go_wp2_with (refine wpList_store_row rfl 23 _ _ rfl g zero8 rfl rfl 23 c hg.out (by kernel_rfl) hc (by kernel_rfl) ?_)
  refine postS_intro _ (.tuple #[]) rfl rfl (by simp [results, Tryd.results17]) ⟨rfl, rfl, ?_, ?_, ?_⟩
  · rw [set_other hne]; exact k1.out
  · exact set_at (cs := #[b]) k2.out 0 (.bool false)
  · exact hbel.setCell (p := ⟨g2, 0, none⟩) hB2 _
end Go.Proofs.YtgkbdcdfpoaifaaDoor
