/- An address, and a host, that came in. -/
import Derived.Test.YtnalafhepnfggaaDoorUrl
import Derived.OpenShut
import Derived.ShutString
import Derived.ChangeOld
namespace Go.Proofs.YtnalafhepnfggaaDoor
open Go.RowKit Go.ChangeShapes Go.WideShapes
set_option linter.unusedVariables false
set_option linter.unusedSimpArgs false
set_option maxRecDepth 100000

theorem cellsS : Tryd.prog.cellsOf 9 = 1 := by kernel_rfl
theorem cellsB : Tryd.prog.cellsOf 4 = 1 := by kernel_rfl
theorem cellsI : Tryd.prog.cellsOf 3 = 1 := by kernel_rfl
theorem cellsW : Tryd.prog.cellsOf 25 = 1 := by kernel_rfl
theorem cellsQ : Tryd.prog.cellsOf 26 = 1 := by kernel_rfl
theorem cellsP : Tryd.prog.cellsOf 22 = 1 := by kernel_rfl
theorem cellsA : Tryd.prog.cellsOf 27 = 8 := by kernel_rfl
theorem cellsH : Tryd.prog.cellsOf 29 = 11 := by kernel_rfl
theorem cellsU : Tryd.prog.cellsOf 31 = 23 := by kernel_rfl
theorem list_of {Q : Nat → ByteArray → Prop} {n : Nat} (h : ∀ i, i < n → ∃ s, Q i s) : ∃ l : List ByteArray, l.length = n ∧ ∀ i (hi : i < l.length), Q i l[i] := by
  refine ⟨(List.range n).map fun i => if hi : i < n then Classical.choose (h i hi) else ByteArray.empty, by simp, fun i hi => ?_⟩
  have hi2 : i < n := by simpa using hi
  simp only [List.getElem_map, List.getElem_range, hi2, dif_pos]
  exact Classical.choose_spec (h i hi2)
theorem cells1 {w : World} {a : Addr} {v : Value} (h : w.cells? 0 a 1 = some [v]) : w.cell? a = some v := by
  have e := (World.cells?_some h).2.2 0 (by decide)
  have e0 : a.add 0 = a := by simp [Addr.add]
  rw [e0] at e
  simpa using e
theorem one_eq {α : Type} {a b : α} (h : [a] = [b]) : a = b := (List.cons.inj h).1
theorem cell_spot {w : World} {x : Addr} {v : Value} (h : w.cell? (x.add 0) = some v) : x = ⟨x.block, x.off, none⟩ := by
  have h : w.cell? x = some v := h
  obtain ⟨b, o, s⟩ := x
  cases s with
  | none => rfl
  | some q => exfalso; simp only [World.cell?] at h; split at h
              · simp at h
              · cases h
theorem cons8 {α : Type} {a0 a1 a2 a3 a4 a5 a6 a7 b0 b1 b2 b3 b4 b5 b6 b7 : α} (h : [a0, a1, a2, a3, a4, a5, a6, a7] = [b0, b1, b2, b3, b4, b5, b6, b7]) : a0 = b0 ∧ a1 = b1 ∧ a2 = b2 ∧ a3 = b3 ∧ a4 = b4 ∧ a5 = b5 ∧ a6 = b6 ∧ a7 = b7 := by
  simpa only [List.cons.injEq, and_true] using h
theorem cons11 {α : Type} {a0 a1 a2 a3 a4 a5 a6 a7 a8 a9 a10 b0 b1 b2 b3 b4 b5 b6 b7 b8 b9 b10 : α} (h : [a0, a1, a2, a3, a4, a5, a6, a7, a8, a9, a10] = [b0, b1, b2, b3, b4, b5, b6, b7, b8, b9, b10]) : a0 = b0 ∧ a1 = b1 ∧ a2 = b2 ∧ a3 = b3 ∧ a4 = b4 ∧ a5 = b5 ∧ a6 = b6 ∧ a7 = b7 ∧ a8 = b8 ∧ a9 = b9 ∧ a10 = b10 := by
  simpa only [List.cons.injEq, and_true] using h
section
variable {H : Type} {enc : TypeId × Value → H} {w : World} {base : Nat} {sp : Nat → Bool} {held : Bool}
theorem list8 {α : Type} {l : List α} (h : l.length = 8) : ∃ a b c d e f g i, l = [a, b, c, d, e, f, g, i] := by
  match l, h with
  | [a, b, c, d, e, f, g, i], _ => exact ⟨a, b, c, d, e, f, g, i, rfl⟩
theorem list11 {α : Type} {l : List α} (h : l.length = 11) : ∃ a b c d e f g i j k m, l = [a, b, c, d, e, f, g, i, j, k, m] := by
  match l, h with
  | [a, b, c, d, e, f, g, i, j, k, m], _ => exact ⟨a, b, c, d, e, f, g, i, j, k, m, rfl⟩
/-- Eight pieces, as they are read. -/
theorem trod_six {n : Nat} {cs : List Value} {x : DataW H × List MemPlace} (h : DataW.trod enc Tryd.prog w base sp held n 27 cs = some x) : ∃ l, Six l ∧ cs = (sixCells l).toList := by
  obtain ⟨xs, m, rfl, -, hl, hxl, hx⟩ := DataW.trod_array Tryd.underlying27 h
  rw [cellsA] at hl
  obtain ⟨a0, a1, a2, a3, a4, a5, a6, a7, rfl⟩ := list8 hl
  have e0 := hx 0 (by decide)
  rw [List.getElem?_eq_getElem (show 0 < xs.length by omega)] at e0
  simp only [cellsQ, Nat.reduceMul, List.drop_zero, List.drop_succ_cons, List.take_succ_cons, List.take_zero] at e0
  obtain ⟨n0, q0, -, f0⟩ := DataW.trod_int Tryd.underlying26 e0
  obtain rfl : a0 = .int .u16 n0 := one_eq q0
  have b0 := bounds_u16 f0
  have e1 := hx 1 (by decide)
  rw [List.getElem?_eq_getElem (show 1 < xs.length by omega)] at e1
  simp only [cellsQ, Nat.reduceMul, List.drop_zero, List.drop_succ_cons, List.take_succ_cons, List.take_zero] at e1
  obtain ⟨n1, q1, -, f1⟩ := DataW.trod_int Tryd.underlying26 e1
  obtain rfl : a1 = .int .u16 n1 := one_eq q1
  have b1 := bounds_u16 f1
  have e2 := hx 2 (by decide)
  rw [List.getElem?_eq_getElem (show 2 < xs.length by omega)] at e2
  simp only [cellsQ, Nat.reduceMul, List.drop_zero, List.drop_succ_cons, List.take_succ_cons, List.take_zero] at e2
  obtain ⟨n2, q2, -, f2⟩ := DataW.trod_int Tryd.underlying26 e2
  obtain rfl : a2 = .int .u16 n2 := one_eq q2
  have b2 := bounds_u16 f2
  have e3 := hx 3 (by decide)
  rw [List.getElem?_eq_getElem (show 3 < xs.length by omega)] at e3
  simp only [cellsQ, Nat.reduceMul, List.drop_zero, List.drop_succ_cons, List.take_succ_cons, List.take_zero] at e3
  obtain ⟨n3, q3, -, f3⟩ := DataW.trod_int Tryd.underlying26 e3
  obtain rfl : a3 = .int .u16 n3 := one_eq q3
  have b3 := bounds_u16 f3
  have e4 := hx 4 (by decide)
  rw [List.getElem?_eq_getElem (show 4 < xs.length by omega)] at e4
  simp only [cellsQ, Nat.reduceMul, List.drop_zero, List.drop_succ_cons, List.take_succ_cons, List.take_zero] at e4
  obtain ⟨n4, q4, -, f4⟩ := DataW.trod_int Tryd.underlying26 e4
  obtain rfl : a4 = .int .u16 n4 := one_eq q4
  have b4 := bounds_u16 f4
  have e5 := hx 5 (by decide)
  rw [List.getElem?_eq_getElem (show 5 < xs.length by omega)] at e5
  simp only [cellsQ, Nat.reduceMul, List.drop_zero, List.drop_succ_cons, List.take_succ_cons, List.take_zero] at e5
  obtain ⟨n5, q5, -, f5⟩ := DataW.trod_int Tryd.underlying26 e5
  obtain rfl : a5 = .int .u16 n5 := one_eq q5
  have b5 := bounds_u16 f5
  have e6 := hx 6 (by decide)
  rw [List.getElem?_eq_getElem (show 6 < xs.length by omega)] at e6
  simp only [cellsQ, Nat.reduceMul, List.drop_zero, List.drop_succ_cons, List.take_succ_cons, List.take_zero] at e6
  obtain ⟨n6, q6, -, f6⟩ := DataW.trod_int Tryd.underlying26 e6
  obtain rfl : a6 = .int .u16 n6 := one_eq q6
  have b6 := bounds_u16 f6
  have e7 := hx 7 (by decide)
  rw [List.getElem?_eq_getElem (show 7 < xs.length by omega)] at e7
  simp only [cellsQ, Nat.reduceMul, List.drop_zero, List.drop_succ_cons, List.take_succ_cons, List.take_zero] at e7
  obtain ⟨n7, q7, -, f7⟩ := DataW.trod_int Tryd.underlying26 e7
  obtain rfl : a7 = .int .u16 n7 := one_eq q7
  have b7 := bounds_u16 f7
  refine ⟨[n0.toNat, n1.toNat, n2.toNat, n3.toNat, n4.toNat, n5.toNat, n6.toNat, n7.toNat], ⟨rfl, ?_⟩, ?_⟩
  · intro y hy
    simp only [List.mem_cons, List.not_mem_nil, or_false] at hy
    rcases hy with rfl | rfl | rfl | rfl | rfl | rfl | rfl | rfl <;> omega
  · simp only [sixCells, List.map_cons, List.map_nil]
    rw [Int.toNat_of_nonneg b0.1, Int.toNat_of_nonneg b1.1, Int.toNat_of_nonneg b2.1, Int.toNat_of_nonneg b3.1, Int.toNat_of_nonneg b4.1, Int.toNat_of_nonneg b5.1, Int.toNat_of_nonneg b6.1, Int.toNat_of_nonneg b7.1]
/-- A host, as it is read. -/
theorem trod_host {n : Nat} {cs : List Value} {x : DataW H × List MemPlace} (h : DataW.trod enc Tryd.prog w base sp held n 29 cs = some x) : ∃ u : HostS, HostOk u ∧ cs = (hostC u).toList ∧ (Lit.int .i64 u.kind).wf = true := by
  obtain ⟨xs, m, rfl, -, hl, hxl, hx⟩ := DataW.trod_struct Tryd.underlying29 h
  rw [cellsH] at hl
  have hxl : xs.length = 4 := hxl
  obtain ⟨a0, a1, a2, a3, a4, a5, a6, a7, a8, a9, a10, rfl⟩ := list11 hl
  have e0 := hx 0 _ rfl
  rw [List.getElem?_eq_getElem (show 0 < xs.length by omega)] at e0
  try simp only [cellsI, List.drop_zero, List.drop_succ_cons, List.take_succ_cons, List.take_zero] at e0
  have e1 := hx 1 _ rfl
  rw [List.getElem?_eq_getElem (show 1 < xs.length by omega)] at e1
  try simp only [cellsS, List.drop_zero, List.drop_succ_cons, List.take_succ_cons, List.take_zero] at e1
  have e2 := hx 2 _ rfl
  rw [List.getElem?_eq_getElem (show 2 < xs.length by omega)] at e2
  try simp only [cellsW, List.drop_zero, List.drop_succ_cons, List.take_succ_cons, List.take_zero] at e2
  have e3 := hx 3 _ rfl
  rw [List.getElem?_eq_getElem (show 3 < xs.length by omega)] at e3
  try simp only [cellsA, List.drop_zero, List.drop_succ_cons, List.take_succ_cons, List.take_zero] at e3
  obtain ⟨k0, q0, -, f0⟩ := DataW.trod_int Tryd.underlying3 e0
  obtain ⟨s1, q1, -, f1⟩ := DataW.trod_string Tryd.underlying9 e1
  obtain ⟨n2, q2, -, f2⟩ := DataW.trod_int Tryd.underlying25 e2
  obtain ⟨l, hl6, q3⟩ := trod_six e3
  obtain rfl : a0 = .int .i64 k0 := one_eq q0
  obtain rfl : a1 = .string s1 := one_eq q1
  obtain rfl : a2 = .int .u32 n2 := one_eq q2
  have b2 := bounds_u32 f2
  refine ⟨⟨k0, s1, n2.toNat, l⟩, ⟨by dsimp only; omega, hl6, f1⟩, ?_, f0⟩
  have hv := sixV_eq hl6
  unfold sixV at hv
  have hv2 := congrArg Array.toList (Value.agg.inj hv)
  have hq := q3.trans hv2
  obtain ⟨rfl, rfl, rfl, rfl, rfl, rfl, rfl, rfl⟩ := cons8 hq
  have hn := Int.toNat_of_nonneg b2.1
  show _ = [Value.int .i64 k0, .string s1, .int .u32 (n2.toNat : Int), _, _, _, _, _, _, _, _]
  rw [hn]
/-- The pieces of a path, as they are read. -/
theorem trod_path {n : Nat} {c : Value} {x : DataW H × List MemPlace} (h : DataW.trod enc Tryd.prog w 0 sp held n 22 [c] = some x) :
    ∃ (a : Option Addr) (k : Nat) (l : List ByteArray), c = .slice a l.length k ∧ (0 < l.length → ∃ g o, a = some ⟨g, o, none⟩ ∧ ∀ i (hi : i < l.length), w.cell? ⟨g, o + i, none⟩ = some (.string l[i])) ∧ l.length ≤ maxLen ∧ (∀ t ∈ l, t.size ≤ maxLen) ∧ (a = none → k = 0) := by
  rcases DataW.trod_slice Tryd.underlying22 h with ⟨hc, -⟩ | ⟨a, len, cap, elems, rest, m, rfl, hc, -, hb, hl, hm, hel, hx, -⟩
  · obtain rfl : c = .slice none 0 0 := by simpa using hc
    exact ⟨none, 0, [], rfl, fun h => absurd h (by decide), Nat.zero_le _, fun t ht => absurd ht (by simp), fun _ => rfl⟩
  · obtain rfl : c = .slice (some a) len cap := by simpa using hc
    have key : ∀ i, i < len → ∃ s : ByteArray, w.cell? (a.add i) = some (.string s) ∧ s.size ≤ maxLen := by
      intro i hi
      have e := hx i hi
      rw [List.getElem?_eq_getElem (show i < elems.length by omega)] at e
      simp only [cellsS, Nat.mul_one] at e
      obtain ⟨cs, hcs, ht⟩ := Option.bind_eq_some_iff.1 e
      obtain ⟨s, rfl, -, hs⟩ := DataW.trod_string Tryd.underlying9 ht
      exact ⟨s, cells1 hcs, hs⟩
    obtain ⟨l, hll, hlc⟩ := list_of key
    subst hll
    refine ⟨some a, cap, l, rfl, fun h0 => ?_, by omega, fun t ht => ?_, fun h => by cases h⟩
    · have hp := cell_spot ((hlc 0 h0).1)
      refine ⟨a.block, a.off, by rw [← hp], fun i hi => ?_⟩
      have := (hlc i hi).1
      rw [hp] at this
      have e2 : (⟨a.block, a.off, none⟩ : Addr).add i = ⟨a.block, a.off + i, none⟩ := by cases i <;> simp [Addr.add]
      rwa [e2] at this
    · obtain ⟨i, hi, rfl⟩ := List.getElem_of_mem ht
      exact (hlc i hi).2
theorem list23 {α : Type} {l : List α} (h : l.length = 23) : ∃ a0 a1 a2 a3 a4 a5 a6 a7 a8 a9 a10 a11 a12 a13 a14 a15 a16 a17 a18 a19 a20 a21 a22, l = [a0, a1, a2, a3, a4, a5, a6, a7, a8, a9, a10, a11, a12, a13, a14, a15, a16, a17, a18, a19, a20, a21, a22] := by
  match l, h with
  | [a0, a1, a2, a3, a4, a5, a6, a7, a8, a9, a10, a11, a12, a13, a14, a15, a16, a17, a18, a19, a20, a21, a22], _ => exact ⟨a0, a1, a2, a3, a4, a5, a6, a7, a8, a9, a10, a11, a12, a13, a14, a15, a16, a17, a18, a19, a20, a21, a22, rfl⟩
/-- What is known of an address that came in. -/
structure UrlIn (w : World) (u : UrlS) : Prop where
  path : PathIn w u
  n : u.path.length ≤ maxLen
  each : ∀ t ∈ u.path, t.size ≤ maxLen
  scheme : u.scheme.size ≤ maxLen
  user : u.user.size ≤ maxLen
  pass : u.pass.size ≤ maxLen
  flat : u.flat.size ≤ maxLen
  query : u.query.size ≤ maxLen
  frag : u.frag.size ≤ maxLen
  port : -9223372036854775808 ≤ u.port ∧ u.port ≤ 9223372036854775807
  host : HostOk u.host
  kind : -9223372036854775808 ≤ u.host.kind ∧ u.host.kind ≤ 9223372036854775807
  nilC : u.pathA = none → u.pathC = 0
theorem trod_url {n : Nat} {cs : List Value} {x : DataW H × List MemPlace} (h : DataW.trod enc Tryd.prog w 0 sp held n 31 cs = some x) : ∃ u : UrlS, UrlIn w u ∧ cs = (urlC u).toList := by
  obtain ⟨xs, m, rfl, -, hl, hxl, hx⟩ := DataW.trod_struct Tryd.underlying31 h
  rw [cellsU] at hl
  have hxl : xs.length = 13 := hxl
  obtain ⟨a0, a1, a2, a3, a4, a5, a6, a7, a8, a9, a10, a11, a12, a13, a14, a15, a16, a17, a18, a19, a20, a21, a22, rfl⟩ := list23 hl
  have e0 := hx 0 _ rfl
  rw [List.getElem?_eq_getElem (show 0 < xs.length by omega)] at e0
  try simp only [cellsS, List.drop_zero, List.drop_succ_cons, List.take_succ_cons, List.take_zero] at e0
  obtain ⟨s0, q0, -, f0⟩ := DataW.trod_string Tryd.underlying9 e0
  obtain rfl : a0 = .string s0 := one_eq q0
  have e1 := hx 1 _ rfl
  rw [List.getElem?_eq_getElem (show 1 < xs.length by omega)] at e1
  try simp only [cellsS, List.drop_zero, List.drop_succ_cons, List.take_succ_cons, List.take_zero] at e1
  obtain ⟨s1, q1, -, f1⟩ := DataW.trod_string Tryd.underlying9 e1
  obtain rfl : a1 = .string s1 := one_eq q1
  have e2 := hx 2 _ rfl
  rw [List.getElem?_eq_getElem (show 2 < xs.length by omega)] at e2
  try simp only [cellsS, List.drop_zero, List.drop_succ_cons, List.take_succ_cons, List.take_zero] at e2
  obtain ⟨s2, q2, -, f2⟩ := DataW.trod_string Tryd.underlying9 e2
  obtain rfl : a2 = .string s2 := one_eq q2
  have e3 := hx 3 _ rfl
  rw [List.getElem?_eq_getElem (show 3 < xs.length by omega)] at e3
  try simp only [cellsH, List.drop_zero, List.drop_succ_cons, List.take_succ_cons, List.take_zero] at e3
  obtain ⟨hs, hok, q3, hkd⟩ := trod_host e3
  have e4 := hx 4 _ rfl
  rw [List.getElem?_eq_getElem (show 4 < xs.length by omega)] at e4
  try simp only [cellsB, List.drop_zero, List.drop_succ_cons, List.take_succ_cons, List.take_zero] at e4
  obtain ⟨s4, q4, -⟩ := DataW.trod_bool Tryd.underlying4 e4
  obtain rfl : a14 = .bool s4 := one_eq q4
  have e5 := hx 5 _ rfl
  rw [List.getElem?_eq_getElem (show 5 < xs.length by omega)] at e5
  try simp only [cellsI, List.drop_zero, List.drop_succ_cons, List.take_succ_cons, List.take_zero] at e5
  obtain ⟨s5, q5, -, f5⟩ := DataW.trod_int Tryd.underlying3 e5
  obtain rfl : a15 = .int .i64 s5 := one_eq q5
  have e6 := hx 6 _ rfl
  rw [List.getElem?_eq_getElem (show 6 < xs.length by omega)] at e6
  try simp only [cellsB, List.drop_zero, List.drop_succ_cons, List.take_succ_cons, List.take_zero] at e6
  obtain ⟨s6, q6, -⟩ := DataW.trod_bool Tryd.underlying4 e6
  obtain rfl : a16 = .bool s6 := one_eq q6
  have e7 := hx 7 _ rfl
  rw [List.getElem?_eq_getElem (show 7 < xs.length by omega)] at e7
  try simp only [cellsS, List.drop_zero, List.drop_succ_cons, List.take_succ_cons, List.take_zero] at e7
  obtain ⟨s7, q7, -, f7⟩ := DataW.trod_string Tryd.underlying9 e7
  obtain rfl : a17 = .string s7 := one_eq q7
  have e8 := hx 8 _ rfl
  rw [List.getElem?_eq_getElem (show 8 < xs.length by omega)] at e8
  try simp only [cellsP, List.drop_zero, List.drop_succ_cons, List.take_succ_cons, List.take_zero] at e8
  obtain ⟨pa, pk, pl, rfl, hpi, hpn, hpe, hpk⟩ := trod_path e8
  have e9 := hx 9 _ rfl
  rw [List.getElem?_eq_getElem (show 9 < xs.length by omega)] at e9
  try simp only [cellsB, List.drop_zero, List.drop_succ_cons, List.take_succ_cons, List.take_zero] at e9
  obtain ⟨s9, q9, -⟩ := DataW.trod_bool Tryd.underlying4 e9
  obtain rfl : a19 = .bool s9 := one_eq q9
  have e10 := hx 10 _ rfl
  rw [List.getElem?_eq_getElem (show 10 < xs.length by omega)] at e10
  try simp only [cellsS, List.drop_zero, List.drop_succ_cons, List.take_succ_cons, List.take_zero] at e10
  obtain ⟨s10, q10, -, f10⟩ := DataW.trod_string Tryd.underlying9 e10
  obtain rfl : a20 = .string s10 := one_eq q10
  have e11 := hx 11 _ rfl
  rw [List.getElem?_eq_getElem (show 11 < xs.length by omega)] at e11
  try simp only [cellsB, List.drop_zero, List.drop_succ_cons, List.take_succ_cons, List.take_zero] at e11
  obtain ⟨s11, q11, -⟩ := DataW.trod_bool Tryd.underlying4 e11
  obtain rfl : a21 = .bool s11 := one_eq q11
  have e12 := hx 12 _ rfl
  rw [List.getElem?_eq_getElem (show 12 < xs.length by omega)] at e12
  try simp only [cellsS, List.drop_zero, List.drop_succ_cons, List.take_succ_cons, List.take_zero] at e12
  obtain ⟨s12, q12, -, f12⟩ := DataW.trod_string Tryd.underlying9 e12
  obtain rfl : a22 = .string s12 := one_eq q12
  refine ⟨⟨s0, s1, s2, hs, s4, s5, s6, s7, pa, pk, pl, s9, s10, s11, s12⟩, ⟨hpi, hpn, hpe, f0, f1, f2, f7, f10, f12, bounds_i64 f5, hok, bounds_i64 hkd, hpk⟩, ?_⟩
  have hq : [a3, a4, a5, a6, a7, a8, a9, a10, a11, a12, a13] = [Value.int .i64 hs.kind, .string hs.name, .int .u32 (hs.four : Int), .int .u16 ((pc hs.six 0 : Nat) : Int), .int .u16 ((pc hs.six 1 : Nat) : Int), .int .u16 ((pc hs.six 2 : Nat) : Int), .int .u16 ((pc hs.six 3 : Nat) : Int), .int .u16 ((pc hs.six 4 : Nat) : Int), .int .u16 ((pc hs.six 5 : Nat) : Int), .int .u16 ((pc hs.six 6 : Nat) : Int), .int .u16 ((pc hs.six 7 : Nat) : Int)] := q3
  obtain ⟨rfl, rfl, rfl, rfl, rfl, rfl, rfl, rfl, rfl, rfl, rfl⟩ := cons11 hq
  rfl
theorem open_url {v : Value} {d : DataW H} {ps : List MemPlace} {r : Reach} {b0 : Nat} (hval : Value.okWide Tryd.prog w r b0 31 v) (h : DataW.Trod enc Tryd.prog w 0 sp held 31 v d ps) :
    ∃ u : UrlS, v = .agg (urlC u) ∧ UrlIn w u := by
  simp only [Value.okWide, Tryd.underlying31] at hval
  obtain ⟨cs, rfl, -, -⟩ := hval
  obtain ⟨fuel, hf⟩ := h
  obtain ⟨u, hu, hc⟩ := trod_url hf
  refine ⟨u, ?_, hu⟩
  have : cs.toList = (urlC u).toList := hc
  rw [Array.toList_inj.1 this]
end
end Go.Proofs.YtnalafhepnfggaaDoor
