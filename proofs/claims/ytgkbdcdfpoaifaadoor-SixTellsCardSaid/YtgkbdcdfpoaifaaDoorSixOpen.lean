/- An address of eight pieces that came in. -/
import Derived.Test.YtgkbdcdfpoaifaaDoorSixW
import Derived.OpenShut
import Derived.ShutString
import Derived.ChangeOld
namespace Go.Proofs.YtgkbdcdfpoaifaaDoor
open Go.RowKit Go.ChangeShapes Go.WideShapes
set_option linter.unusedVariables false
set_option linter.unusedSimpArgs false

theorem cellsQ10 : Tryd.prog.cellsOf 22 = 1 := by kernel_rfl
theorem cellsA10 : Tryd.prog.cellsOf 23 = 8 := by kernel_rfl
theorem one_eq10 {α : Type} {a b : α} (h : [a] = [b]) : a = b := (List.cons.inj h).1
section
variable {H : Type} {enc : TypeId × Value → H} {w : World} {base : Nat} {sp : Nat → Bool} {held : Bool}
theorem list8_10 {α : Type} {l : List α} (h : l.length = 8) : ∃ a b c d e f g i, l = [a, b, c, d, e, f, g, i] := by
  match l, h with
  | [a, b, c, d, e, f, g, i], _ => exact ⟨a, b, c, d, e, f, g, i, rfl⟩
theorem trod_six10 {n : Nat} {cs : List Value} {x : DataW H × List MemPlace} (h : DataW.trod enc Tryd.prog w base sp held n 23 cs = some x) : ∃ l, Six l ∧ cs = (sixCells l).toList := by
  obtain ⟨xs, m, rfl, -, hl, hxl, hx⟩ := DataW.trod_array Tryd.underlying23 h
  rw [cellsA10] at hl
  obtain ⟨a0, a1, a2, a3, a4, a5, a6, a7, rfl⟩ := list8_10 hl
  have e0 := hx 0 (by decide)
  rw [List.getElem?_eq_getElem (show 0 < xs.length by omega)] at e0
  simp only [cellsQ10, Nat.reduceMul, List.drop_zero, List.drop_succ_cons, List.take_succ_cons, List.take_zero] at e0
  obtain ⟨n0, q0, -, f0⟩ := DataW.trod_int Tryd.underlying22 e0
  obtain rfl : a0 = .int .u16 n0 := one_eq10 q0
  have b0 := bounds_u16 f0
  have e1 := hx 1 (by decide)
  rw [List.getElem?_eq_getElem (show 1 < xs.length by omega)] at e1
  simp only [cellsQ10, Nat.reduceMul, List.drop_zero, List.drop_succ_cons, List.take_succ_cons, List.take_zero] at e1
  obtain ⟨n1, q1, -, f1⟩ := DataW.trod_int Tryd.underlying22 e1
  obtain rfl : a1 = .int .u16 n1 := one_eq10 q1
  have b1 := bounds_u16 f1
  have e2 := hx 2 (by decide)
  rw [List.getElem?_eq_getElem (show 2 < xs.length by omega)] at e2
  simp only [cellsQ10, Nat.reduceMul, List.drop_zero, List.drop_succ_cons, List.take_succ_cons, List.take_zero] at e2
  obtain ⟨n2, q2, -, f2⟩ := DataW.trod_int Tryd.underlying22 e2
  obtain rfl : a2 = .int .u16 n2 := one_eq10 q2
  have b2 := bounds_u16 f2
  have e3 := hx 3 (by decide)
  rw [List.getElem?_eq_getElem (show 3 < xs.length by omega)] at e3
  simp only [cellsQ10, Nat.reduceMul, List.drop_zero, List.drop_succ_cons, List.take_succ_cons, List.take_zero] at e3
  obtain ⟨n3, q3, -, f3⟩ := DataW.trod_int Tryd.underlying22 e3
  obtain rfl : a3 = .int .u16 n3 := one_eq10 q3
  have b3 := bounds_u16 f3
  have e4 := hx 4 (by decide)
  rw [List.getElem?_eq_getElem (show 4 < xs.length by omega)] at e4
  simp only [cellsQ10, Nat.reduceMul, List.drop_zero, List.drop_succ_cons, List.take_succ_cons, List.take_zero] at e4
  obtain ⟨n4, q4, -, f4⟩ := DataW.trod_int Tryd.underlying22 e4
  obtain rfl : a4 = .int .u16 n4 := one_eq10 q4
  have b4 := bounds_u16 f4
  have e5 := hx 5 (by decide)
  rw [List.getElem?_eq_getElem (show 5 < xs.length by omega)] at e5
  simp only [cellsQ10, Nat.reduceMul, List.drop_zero, List.drop_succ_cons, List.take_succ_cons, List.take_zero] at e5
  obtain ⟨n5, q5, -, f5⟩ := DataW.trod_int Tryd.underlying22 e5
  obtain rfl : a5 = .int .u16 n5 := one_eq10 q5
  have b5 := bounds_u16 f5
  have e6 := hx 6 (by decide)
  rw [List.getElem?_eq_getElem (show 6 < xs.length by omega)] at e6
  simp only [cellsQ10, Nat.reduceMul, List.drop_zero, List.drop_succ_cons, List.take_succ_cons, List.take_zero] at e6
  obtain ⟨n6, q6, -, f6⟩ := DataW.trod_int Tryd.underlying22 e6
  obtain rfl : a6 = .int .u16 n6 := one_eq10 q6
  have b6 := bounds_u16 f6
  have e7 := hx 7 (by decide)
  rw [List.getElem?_eq_getElem (show 7 < xs.length by omega)] at e7
  simp only [cellsQ10, Nat.reduceMul, List.drop_zero, List.drop_succ_cons, List.take_succ_cons, List.take_zero] at e7
  obtain ⟨n7, q7, -, f7⟩ := DataW.trod_int Tryd.underlying22 e7
  obtain rfl : a7 = .int .u16 n7 := one_eq10 q7
  have b7 := bounds_u16 f7
  refine ⟨[n0.toNat, n1.toNat, n2.toNat, n3.toNat, n4.toNat, n5.toNat, n6.toNat, n7.toNat], ⟨rfl, ?_⟩, ?_⟩
  · intro y hy
    simp only [List.mem_cons, List.not_mem_nil, or_false] at hy
    rcases hy with rfl | rfl | rfl | rfl | rfl | rfl | rfl | rfl <;> omega
  · simp only [sixCells, List.map_cons, List.map_nil]
    rw [Int.toNat_of_nonneg b0.1, Int.toNat_of_nonneg b1.1, Int.toNat_of_nonneg b2.1, Int.toNat_of_nonneg b3.1, Int.toNat_of_nonneg b4.1, Int.toNat_of_nonneg b5.1, Int.toNat_of_nonneg b6.1, Int.toNat_of_nonneg b7.1]
theorem open_six {v : Value} {d : DataW H} {ps : List MemPlace} {r : Reach} {b0 : Nat} (hval : Value.okWide Tryd.prog w r b0 23 v) (h : DataW.Trod enc Tryd.prog w base sp held 23 v d ps) :
    ∃ l : List Nat, v = .agg (sixCells l) ∧ Six l := by
  simp only [Value.okWide, Tryd.underlying23] at hval
  obtain ⟨cs, rfl, -, -⟩ := hval
  obtain ⟨fuel, hf⟩ := h
  obtain ⟨l, hl, hc⟩ := trod_six10 hf
  refine ⟨l, ?_, hl⟩
  have : cs.toList = (sixCells l).toList := hc
  rw [Array.toList_inj.1 this]
end
end Go.Proofs.YtgkbdcdfpoaifaaDoor
