/- The contract of tamisref01.Same, over this seat's program. -/
import Derived.Test.YtbejimncmfeggaaDoorBase
namespace Go.Proofs.YtbejimncmfeggaaDoor
open Go.RowKit
set_option linter.unusedVariables false

theorem sameB_cons {l m : List ByteArray} {k : Nat} (h1 : k < l.length) (h2 : k < m.length) : sameB (l.drop k) (m.drop k) = ((l[k].toList == m[k].toList) && sameB (l.drop (k + 1)) (m.drop (k + 1))) := by
  rw [List.drop_eq_getElem_cons h1, List.drop_eq_getElem_cons h2]; simp only [sameB, List.map_cons]; rfl
theorem sameB_len {l m : List ByteArray} (h : l.length ≠ m.length) : sameB l m = false := by
  simp only [sameB, beq_eq_false_iff_ne]
  intro e; exact h (by simpa using congrArg List.length e)
theorem OwnS.le {w : World} {B : Nat} {E : TypeId} {v : Value} {l : List ByteArray} (h : OwnS w B E v l) : l.length ≤ maxLen := by
  rcases h.2 with ⟨_, hn⟩ | ⟨g, cap, cur, _, _, _, hcap, hml, _⟩
  · omega
  · omega
set_option maxHeartbeats 400000 in
theorem same_any (v1 v2 : Value) (l m : List ByteArray) (w : World) (h1 : ReadS w v1 l) (h2 : ReadS w v2 m) (hl : l.length ≤ maxLen) (hm : m.length ≤ maxLen) :
    Calls Tryd.prog 14 #[v1, v2] w (RetB w (sameB l m)) := by
  unfold maxLen at hl hm
  obtain ⟨a1, c1, rfl, hc1⟩ := h1
  obtain ⟨a2, c2, rfl, hc2⟩ := h2
  by_cases hlen : l.length = m.length
  · obtain ⟨e1, n1⟩ := beq_of (show (l.length : Int) = (m.length : Int) by omega)
    have Hlen := Lib.hid hlen
    clear hlen
    go_enter Tryd.func14, Tryd.ntmps14
    go_wp2_with fail
    go_loopw [5] (fun i wr => ∃ k : Nat, i = .int .i64 k ∧ k ≤ l.length ∧ Hid (sameB (l.drop k) (m.drop k) = sameB l m) ∧ Below w.heap.size w wr) (fun i _ => l.length - (intOf i).toNat)
    case atStart => exact ⟨0, rfl, Nat.zero_le _, rfl, Below.refl _ _⟩
    case round =>
      obtain ⟨k, rfl, hk, hr, hbel⟩ := hrel
      by_cases hlt : k < l.length
      · have hlt2 : k < m.length := by have := Hlen.out; omega
        obtain ⟨g1, o1, rfl, hcell1⟩ := hc1 (by omega)
        obtain ⟨g2, o2, rfl, hcell2⟩ := hc2 (by omega)
        have x1 := hcell1 k hlt
        have x2 := hcell2 k hlt2
        have b1 := World.block_lt_of_cell? w _ x1
        have b2 := World.block_lt_of_cell? w _ x2
        have y1 : wr.cell? ⟨g1, o1 + k, none⟩ = some (.string l[k]) := (hbel.cell (by simpa using b1)).trans x1
        have y2 : wr.cell? ⟨g2, o2 + k, none⟩ = some (.string m[k]) := (hbel.cell (by simpa using b2)).trans x2
        have hs := Lib.hid (sameB_cons hlt hlt2)
        have z1 : (k : Int) < (l.length : Int) := by omega
        have z2 : (k : Int) < (m.length : Int) := by omega
        clear hc1 hc2 hcell1 hcell2 x1 x2 b1 b2
        cases hq : l[k].toList == m[k].toList
        · go_wp2_with fail
          go_quiet (fail)
          go_wp2
          go_ret
          exact ⟨ret_bool (by rw [← hr.out, hs.out, hq]; rfl), below_drewN hbel _⟩
        · go_wp2_with fail
          go_quiet (fail)
          go_wp2
          go_roundw
          case rel => exact ⟨k + 1, by go_num, by omega, Lib.hid (by rw [← hr.out, hs.out, hq]; rfl), below_drewN hbel _⟩
          case measure => simp [intOf]; omega
      · have hfin : Hid (true = sameB l m) := Lib.hid (by
          have := Hlen.out
          rw [← hr.out, List.drop_of_length_le (by omega), List.drop_of_length_le (by omega)]; rfl)
        go_wp2
        go_ret
        exact ⟨ret_bool hfin.out, hbel⟩
  · obtain ⟨e1, n1⟩ := bne_of (show ¬ (l.length : Int) = (m.length : Int) by omega)
    have Hlen := Lib.hid hlen
    clear hlen
    go_enter Tryd.func14, Tryd.ntmps14
    go_wp2
    go_ret
    exact ⟨ret_bool (sameB_len Hlen.out).symm, Below.refl _ _⟩
end Go.Proofs.YtbejimncmfeggaaDoor
