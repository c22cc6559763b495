/- A policy that came in. -/
import Derived.Test.YtnalafhepnfggaaDoorUrlOpen
import Derived.Test.YtnalafhepnfggaaDoorPolP
namespace Go.Proofs.YtnalafhepnfggaaDoor
open Go.RowKit Go.ChangeShapes Go.WideShapes
set_option linter.unusedVariables false
set_option linter.unusedSimpArgs false
set_option maxRecDepth 100000

/-- A slice of strings. -/
structure StrsS where
  a : Option Addr
  c : Nat
  l : List ByteArray
def StrsS.v (x : StrsS) : Value := .slice x.a x.l.length x.c
/-- .. that can be read. -/
def StrsIn (w : World) (x : StrsS) : Prop := 0 < x.l.length → ∃ g o, x.a = some ⟨g, o, none⟩ ∧ ∀ i (hi : i < x.l.length), w.cell? ⟨g, o + i, none⟩ = some (.string x.l[i])
theorem StrsIn.below {w w' : World} {K : Nat} {x : StrsS} (h : StrsIn w x) (hb : Below K w w') (hK : w.heap.size ≤ K) : StrsIn w' x := by
  intro h0
  obtain ⟨g, o, e, hc⟩ := h h0
  refine ⟨g, o, e, fun i hi => ?_⟩
  have := World.block_lt_of_cell? w _ (hc i hi)
  rw [hb.cell (by simp at this ⊢; omega)]
  exact hc i hi
theorem StrsIn.read {w : World} {x : StrsS} (h : StrsIn w x) : ReadS w x.v x.l := ⟨x.a, x.c, rfl, h⟩
structure StrsOk (w : World) (x : StrsS) : Prop where
  cells : StrsIn w x
  n : x.l.length ≤ maxLen
  each : ∀ t ∈ x.l, t.size ≤ maxLen
  nilC : x.a = none → x.c = 0
structure PolS where
  schemes : StrsS
  hosts : StrsS
  types : StrsS
  most : Int
def polC (p : PolS) : Array Value := #[p.schemes.v, p.hosts.v, p.types.v, .int .i64 p.most]
structure PolIn (w : World) (p : PolS) : Prop where
  schemes : StrsOk w p.schemes
  hosts : StrsOk w p.hosts
  types : StrsOk w p.types
  most : (Lit.int .i64 p.most).wf = true
theorem cellsPol : Tryd.prog.cellsOf 24 = 4 := by kernel_rfl
section
variable {H : Type} {enc : TypeId × Value → H} {w : World} {base : Nat} {sp : Nat → Bool} {held : Bool}
theorem list4P {α : Type} {l : List α} (h : l.length = 4) : ∃ a b c d, l = [a, b, c, d] := by
  match l, h with
  | [a, b, c, d], _ => exact ⟨a, b, c, d, rfl⟩
theorem trod_strs {n : Nat} {c : Value} {x : DataW H × List MemPlace} (h : DataW.trod enc Tryd.prog w 0 sp held n 22 [c] = some x) : ∃ s : StrsS, c = s.v ∧ StrsOk w s := by
  obtain ⟨a, k, l, rfl, h1, h2, h3, h4⟩ := trod_path h
  exact ⟨⟨a, k, l⟩, rfl, h1, h2, h3, h4⟩
theorem trod_pol {n : Nat} {cs : List Value} {x : DataW H × List MemPlace} (h : DataW.trod enc Tryd.prog w 0 sp held n 24 cs = some x) : ∃ p : PolS, PolIn w p ∧ cs = (polC p).toList := by
  obtain ⟨xs, m, rfl, -, hl, hxl, hx⟩ := DataW.trod_struct Tryd.underlying24 h
  rw [cellsPol] at hl
  have hxl : xs.length = 4 := hxl
  obtain ⟨a0, a1, a2, a3, rfl⟩ := list4P hl
  have e0 := hx 0 _ rfl
  rw [List.getElem?_eq_getElem (show 0 < xs.length by omega)] at e0
  try simp only [cellsP, List.drop_zero, List.drop_succ_cons, List.take_succ_cons, List.take_zero] at e0
  obtain ⟨x0, rfl, o0⟩ := trod_strs e0
  have e1 := hx 1 _ rfl
  rw [List.getElem?_eq_getElem (show 1 < xs.length by omega)] at e1
  try simp only [cellsP, List.drop_zero, List.drop_succ_cons, List.take_succ_cons, List.take_zero] at e1
  obtain ⟨x1, rfl, o1⟩ := trod_strs e1
  have e2 := hx 2 _ rfl
  rw [List.getElem?_eq_getElem (show 2 < xs.length by omega)] at e2
  try simp only [cellsP, List.drop_zero, List.drop_succ_cons, List.take_succ_cons, List.take_zero] at e2
  obtain ⟨x2, rfl, o2⟩ := trod_strs e2
  have e3 := hx 3 _ rfl
  rw [List.getElem?_eq_getElem (show 3 < xs.length by omega)] at e3
  try simp only [cellsI, List.drop_zero, List.drop_succ_cons, List.take_succ_cons, List.take_zero] at e3
  obtain ⟨s3, q3, -, f3⟩ := DataW.trod_int Tryd.underlying3 e3
  obtain rfl : a3 = .int .i64 s3 := one_eq q3
  exact ⟨⟨x0, x1, x2, s3⟩, ⟨o0, o1, o2, f3⟩, rfl⟩
theorem open_pol {v : Value} {d : DataW H} {ps : List MemPlace} {r : Reach} {b0 : Nat} (hval : Value.okWide Tryd.prog w r b0 24 v) (h : DataW.Trod enc Tryd.prog w 0 sp held 24 v d ps) :
    ∃ p : PolS, v = .agg (polC p) ∧ PolIn w p := by
  simp only [Value.okWide, Tryd.underlying24] at hval
  obtain ⟨cs, rfl, -, -⟩ := hval
  obtain ⟨fuel, hf⟩ := h
  obtain ⟨p, hp, hc⟩ := trod_pol hf
  refine ⟨p, ?_, hp⟩
  have : cs.toList = (polC p).toList := hc
  rw [Array.toList_inj.1 this]
theorem open_host {v : Value} {d : DataW H} {ps : List MemPlace} {r : Reach} {b0 : Nat} (hval : Value.okWide Tryd.prog w r b0 29 v) (h : DataW.Trod enc Tryd.prog w 0 sp held 29 v d ps) :
    ∃ u : HostS, v = .agg (hostC u) ∧ HostOk u ∧ (Lit.int .i64 u.kind).wf = true := by
  simp only [Value.okWide, Tryd.underlying29] at hval
  obtain ⟨cs, rfl, -, -⟩ := hval
  obtain ⟨fuel, hf⟩ := h
  obtain ⟨u, hu, hc, hk⟩ := trod_host hf
  refine ⟨u, ?_, hu, hk⟩
  have : cs.toList = (hostC u).toList := hc
  rw [Array.toList_inj.1 this]
end
end Go.Proofs.YtnalafhepnfggaaDoor
