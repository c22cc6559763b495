/- The small case of the laws of srcset. -/
import Derived.Test.YtbejimncmfeggaaDoorSrcI
namespace Go.Proofs.YtbejimncmfeggaaDoor
open Go.RowKit
set_option linter.unusedVariables false
set_option linter.unusedSimpArgs false

def sT (l : List UInt8) : ByteArray := ⟨l.toArray⟩
theorem sT_list (l : List UInt8) : (sT l).toList = l := toList_mk l
theorem sT_map (ls : List (List UInt8)) : (ls.map sT).map (·.toList) = ls := by
  rw [List.map_map]
  conv => rhs; rw [← List.map_id ls]
  exact List.map_congr_left (fun l _ => sT_list l)
theorem sT_sizes {ls : List (List UInt8)} {n : Nat} (h : ∀ t ∈ ls, t.length ≤ n) : ∀ x ∈ ls.map sT, x.size ≤ n := by
  intro x hx
  obtain ⟨t, ht, rfl⟩ := List.mem_map.1 hx
  rw [← size_toList, sT_list]; exact h t ht
theorem builtAt (w : World) (E : TypeId) (l : List ByteArray) (c g : Nat) (hg : w.heap.size = g) : ReadS (w.alloc (.cells (l.map Value.string).toArray E)) (.slice (some ⟨g, 0, none⟩) l.length c) l := by
  subst hg
  exact ReadS.built _ _ _ _
theorem describe_yes (ls : List (List UInt8)) (n : Nat) (hn : ls.length = n) (st : DSt) (hd : descL ls = some st) (v : Value) (w : World) (hr : ReadS w v (ls.map sT)) (hz : ∀ t ∈ ls, t.length ≤ 1000000) (hl : ls.length ≤ 1000000) :
    Calls Tryd.prog 11 #[v] w fun e w' => ∃ pb cb, e = .returned (.tuple #[.agg (candC e0 (.slice pb n cb) st), .bool true]) ∧ OwnS w' w.heap.size 9 (.slice pb n cb) (ls.map sT) ∧ Below w.heap.size w w' := by
  subst hn
  refine (describe_any v (ls.map sT) w hr (sT_sizes hz) (by simpa using hl)).mono ?_
  rintro e w' (⟨hn, -, -⟩ | ⟨st', wv, h, rfl, ho, hb⟩)
  · have := hn.out
    rw [sT_map, hd] at this; cases this
  · have := h.out
    rw [sT_map, hd] at this
    cases this
    obtain ⟨pb, cb, rfl, -⟩ := ho.read
    rw [List.length_map] at ho ⊢
    exact ⟨pb, cb, rfl, ho, hb⟩
theorem describe_no (ls : List (List UInt8)) (hd : descL ls = none) (v : Value) (w : World) (hr : ReadS w v (ls.map sT)) (hz : ∀ t ∈ ls, t.length ≤ 1000000) (hl : ls.length ≤ 1000000) :
    Calls Tryd.prog 11 #[v] w fun e w' => e = .returned (.tuple #[.agg (candC e0 (.slice none 0 0) d0), .bool false]) ∧ Below w.heap.size w w' := by
  refine (describe_any v (ls.map sT) w hr (sT_sizes hz) (by simpa using hl)).mono ?_
  rintro e w' (⟨hn, rfl, hb⟩ | ⟨st', wv, h, rfl, ho, hb⟩)
  · exact ⟨rfl, hb⟩
  · have := h.out
    rw [sT_map, hd] at this; cases this
def smallT : List UInt8 := [32, 44, 97, 32, 49, 120, 44, 98, 44, 32, 99, 32, 50, 119, 32, 51, 104, 44, 100, 32, 40, 49, 120, 44, 32, 50, 120, 41, 32, 44, 101, 44, 102, 32, 48, 119, 44, 103, 32, 49, 46, 53, 120]
def smallC : List Cand := [⟨[97], [[49, 120]], ⟨false, 0, false, 0, true, 4607182418800017408⟩⟩, ⟨[98], [], d0⟩, ⟨[99], [[50, 119], [51, 104]], ⟨true, 2, true, 3, false, 0⟩⟩, ⟨[103], [[49, 46, 53, 120]], ⟨false, 0, false, 0, true, 4609434218613702656⟩⟩]
theorem smallC_is : splL smallT = smallC := by kernel_rfl
theorem small_d1 : descL [[50, 119], [51, 104]] = some ⟨true, 2, true, 3, false, 0⟩ := by kernel_rfl
theorem small_d2 : descL [[51, 104]] = none := by kernel_rfl
theorem small_d3 : descL [[49, 119], [49, 120]] = none := by kernel_rfl
theorem small_d4 : descL [[45, 49, 120]] = none := by kernel_rfl
theorem ReadC.built (w : World) (l : List HCand) (c : Nat) (h : ∀ d ∈ l, ReadS w d.wv d.ws) : ReadC (w.alloc (.cells (l.flatMap cellsH).toArray 27)) (.slice (some ⟨w.heap.size, 0, none⟩) l.length c) l := by
  refine ⟨_, c, rfl, fun _ => ⟨_, 0, rfl, fun i hi j v hv => ?_⟩, fun d hd => (h d hd).below ((Below.refl w.heap.size w).alloc (Nat.le_refl _) _) (Nat.le_refl _)⟩
  have hj : j < 8 := by
    have := (List.getElem?_eq_some_iff.1 hv).1
    rwa [cellsH_len] at this
  have hc := cell_of_row (w.alloc (.cells (l.flatMap cellsH).toArray 27)) w.heap.size (i * 8 + j) _ _ _ (heap_alloc_new w _)
  rw [Nat.zero_add, hc, List.getElem?_toArray, flat8 l i hi j hj]
  exact hv
theorem ReadC.take {w : World} {pa : Option Addr} {n c c' : Nat} {l : List HCand} (h : ReadC w (.slice pa n c) l) (k : Nat) (hk : k ≤ l.length) : ReadC w (.slice pa k c') (l.take k) := by
  obtain ⟨pa', c2, he, h1, h2⟩ := h
  cases he
  have hl : (l.take k).length = k := by rw [List.length_take]; omega
  refine ⟨pa, c', by rw [hl], fun h0 => ?_, fun d hd => h2 d (List.mem_of_mem_take hd)⟩
  rw [hl] at h0
  obtain ⟨g, o, rfl, hr⟩ := h1 (by omega)
  refine ⟨g, o, rfl, fun i hi => ?_⟩
  rw [hl] at hi
  rw [List.getElem_take]
  exact hr i (by omega)
theorem below_al {B : Nat} {a w : World} (h : Below B a w) (hB : B ≤ a.heap.size) (o : Obj) : Below B a (w.alloc o) := h.alloc (Nat.le_trans hB h.size) o
theorem builtAtC (w : World) (l : List HCand) (c g : Nat) (hg : w.heap.size = g) (h : ∀ d ∈ l, ReadS w d.wv d.ws) : ReadC (w.alloc (.cells (l.flatMap cellsH).toArray 27)) (.slice (some ⟨g, 0, none⟩) l.length c) l := by
  subst hg
  exact ReadC.built w l c h
theorem rows_nan {l : List HCand} {t : List UInt8} (h : l.map candIs = splL t) : ∀ c ∈ l, NoNaN c.st.d := by
  intro c hc
  have hm : candIs c ∈ splL t := by rw [← h]; exact List.mem_map_of_mem hc
  exact descL_nan (splL_good _ _ (Nat.le_refl _) _ hm).ds
theorem order15 : (FloatKind.f64.format.order 4609434218613702656 4609434218613702656 == some .eq) = true := by decide +kernel
theorem small_z1 : ∀ t ∈ ([[50, 119], [51, 104]] : List (List UInt8)), t.length ≤ 1000000 := by decide
theorem small_z2 : ∀ t ∈ ([[51, 104]] : List (List UInt8)), t.length ≤ 1000000 := by decide
theorem small_z3 : ∀ t ∈ ([[49, 119], [49, 120]] : List (List UInt8)), t.length ≤ 1000000 := by decide
theorem small_z4 : ∀ t ∈ ([[45, 49, 120]] : List (List UInt8)), t.length ≤ 1000000 := by decide
theorem wpList_lit3 {ops : Array Oper} {rest : List Oper} {o : Oper} {a : Act} {w : World} {Q : Exit → Act → World → Prop} (hg : o.guard = none) (x y z : Operand) (ho : o.op = .buildSlice 33 3 #[(0, x), (1, y), (2, z)])
    (c1 c2 c3 : HCand) (hx : a.eval x = .agg (candC c1.url c1.wv c1.st)) (hy : a.eval y = .agg (candC c2.url c2.wv c2.st)) (hz : a.eval z = .agg (candC c3.url c3.wv c3.st))
    (h : wpList Tryd.prog ops Q rest (a.put o.dst (.slice (some ⟨w.heap.size, 0, none⟩) 3 3)) (w.alloc (.cells ([c1, c2, c3].flatMap cellsH).toArray 27))) : wpList Tryd.prog ops Q (o :: rest) a w := by
  obtain ⟨i, hi, hzz, hs1, hb1⟩ := candTy
  refine wpList_buildSlice hg 33 27 3 _ ho ([c1, c2, c3].flatMap cellsH).toArray i _ Tryd.underlying33 hi hzz (by rw [hs1]; omega) (by rw [hs1]; omega) ?_ h
  rw [hs1]
  rw [Array.toList_map]
  show Instr.fill _ _ [(0, a.eval x), (1, a.eval y), (2, a.eval z)] = _
  rw [hx, hy, hz]
  kernel_rfl
end Go.Proofs.YtbejimncmfeggaaDoor
