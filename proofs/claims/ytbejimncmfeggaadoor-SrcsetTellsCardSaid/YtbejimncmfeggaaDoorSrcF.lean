/- A row of candidates: what it is, and how one more is put behind it. -/
import Derived.Test.YtbejimncmfeggaaDoorSrcE
namespace Go.Proofs.YtbejimncmfeggaaDoor
open Go.RowKit
set_option linter.unusedVariables false
set_option linter.unusedSimpArgs false

structure HCand where
  url : ByteArray
  wv : Value
  ws : List ByteArray
  st : DSt
def cellsH (c : HCand) : List Value := (candC c.url c.wv c.st).toList
def candIs (c : HCand) : Cand := ⟨c.url.toList, c.ws.map (·.toList), c.st⟩
def OwnC (w : World) (B : Nat) (v : Value) (l : List HCand) : Prop := w.ownsRow B 27 8 v l.length (l.flatMap cellsH) ∧ ∀ c ∈ l, OwnS w B 9 c.wv c.ws
theorem OwnC.nil (w : World) (B : Nat) : OwnC w B (.slice none 0 0) [] := ⟨World.ownsRow_nil _ _ _ _, fun c hc => by cases hc⟩
theorem ownsRow_chg {w w' : World} {B : Nat} {E : TypeId} {s n : Nat} {v : Value} {xs : List Value} (h : w.ownsRow B E s v n xs) (hc : ∀ k, B ≤ k → k < w.heap.size → w'.heap[k]? = w.heap[k]?) : w'.ownsRow B E s v n xs := by
  refine ⟨h.1, ?_⟩
  rcases h.2 with hn | ⟨k, cap, cur, rfl, hk, hh, rest⟩
  · exact .inl hn
  · exact .inr ⟨k, cap, cur, rfl, hk, (hc k hk (Array.getElem?_eq_some_iff.1 hh).1).trans hh, rest⟩
theorem ownsRow_low {w : World} {B B' : Nat} {E : TypeId} {s n : Nat} {v : Value} {xs : List Value} (h : w.ownsRow B' E s v n xs) (hB : B ≤ B') : w.ownsRow B E s v n xs := by
  refine ⟨h.1, ?_⟩
  rcases h.2 with hn | ⟨k, cap, cur, rfl, hk, rest⟩
  · exact .inl hn
  · exact .inr ⟨k, cap, cur, rfl, Nat.le_trans hB hk, rest⟩
theorem OwnC.chg {w w' : World} {B : Nat} {v : Value} {l : List HCand} (h : OwnC w B v l) (hc : ∀ k, B ≤ k → k < w.heap.size → w'.heap[k]? = w.heap[k]?) : OwnC w' B v l :=
  ⟨ownsRow_chg h.1 hc, fun c hm => (h.2 c hm).chg hc⟩
theorem OwnC.low {w : World} {B B' : Nat} {v : Value} {l : List HCand} (h : OwnC w B' v l) (hB : B ≤ B') : OwnC w B v l := ⟨ownsRow_low h.1 hB, fun c hm => (h.2 c hm).low hB⟩
theorem OwnC.below {w w' : World} {B : Nat} {v : Value} {l : List HCand} (h : OwnC w B v l) (hb : Below w.heap.size w w') : OwnC w' B v l := h.chg fun k _ hk => hb.block k hk
theorem candTy : ∃ i, Tryd.prog.info? 27 = some i ∧ i.zero = some (.agg (candC e0 nilV d0)) ∧ i.size = 8 ∧ i.bytes = 88 := info_parts (by kernel_rfl)
/-- The words' row is none of candidates. -/
theorem OwnS.off {w w' : World} {B B' : Nat} {v u : Value} {l : List ByteArray} {n : Nat} {xs : List Value} (h : OwnS w B 9 v l) (hr : w.ownsRow B' 27 8 u n xs) (hg : w.grownBy w' u.ownBlock) : OwnS w' B 9 v l := by
  refine ⟨h.1, ?_⟩
  rcases h.2 with hn | ⟨k, cap, cur, rfl, hk, hh, rest⟩
  · exact .inl hn
  · refine .inr ⟨k, cap, cur, rfl, hk, (hg.block k (Array.getElem?_eq_some_iff.1 hh).1 ?_).trans hh, rest⟩
    rcases hr.2 with ⟨rfl, _⟩ | ⟨g, cap2, cur2, rfl, _, hh2, _⟩
    · exact fun e => by cases e
    · intro e
      obtain rfl : k = g := by simpa [Value.ownBlock] using e
      rw [hh] at hh2
      simp at hh2
theorem OwnS.one {w : World} {B : Nat} {E : TypeId} {v : Value} {l : List ByteArray} (h : OwnS w B E v l) : v.oneCell' = true := by
  rcases h.2 with ⟨rfl, _⟩ | ⟨k, cap, cur, rfl, _⟩ <;> rfl
theorem wpList_pushC {ops : Array Oper} {rest : List Oper} {o : Oper} {a : Act} {Q : Exit → Act → World → Prop}
    (hgd : o.guard = none) (s x : Operand) (ho : o.op = .call { callee := .builtin .append, args := #[s, x], argTypes := #[33, 33] })
    {W0 w0 : World} {B : Nat} {v : Value} {l : List HCand} (c : HCand) (hs : a.eval s = v) (hx : a.eval x = .slice (some ⟨w0.heap.size, 0, none⟩) 1 1)
    (hown : OwnC w0 B v l) (hnew : OwnS w0 B 9 c.wv c.ws) (hbel : Below B W0 w0) (hB : B ≤ w0.heap.size) (hl : l.length ≤ 1000000)
    (h : ∀ v' w', OwnC w' B v' (l ++ [c]) → Below B W0 w' → wpList Tryd.prog ops Q rest (a.put o.dst v') w') :
    wpList Tryd.prog ops Q (o :: rest) a (w0.alloc (.cells (candC c.url c.wv c.st) 27)) := by
  obtain ⟨i, hi, hz, hs1, hb1⟩ := candTy
  have hgr : w0.grownBy (w0.alloc (.cells (candC c.url c.wv c.st) 27)) none := World.grownBy_alloc _ _ _
  have hr := hown.1.alloc (.cells (candC c.url c.wv c.st) 27)
  have hws : ∀ d ∈ l ++ [c], OwnS (w0.alloc (.cells (candC c.url c.wv c.st) 27)) B 9 d.wv d.ws := by
    intro d hd
    rcases List.mem_append.1 hd with hd | hd
    · exact (hown.2 d hd).alloc _
    · rw [List.mem_singleton.1 hd]; exact hnew.alloc _
  refine wpList_append_own _ hgd s x 33 ho B 27 i _ 8 88 Tryd.underlying33 hi hz hs1 hb1 rfl (by decide) v l.length _ hs hr ⟨w0.heap.size, 0, none⟩ 1 1 (cellsH c) hx rfl ?_ ?_ (by unfold maxLen; omega) (by omega) (by simp; omega) ?_
  · intro j u hj
    have hc := cell_of_row (w0.alloc (.cells (candC c.url c.wv c.st) 27)) w0.heap.size j _ _ _ (heap_alloc_new w0 _)
    have e : (⟨w0.heap.size, 0, none⟩ : Addr).add j = ⟨w0.heap.size, j, none⟩ := by cases j <;> simp [Addr.add]
    rw [e, hc]
    unfold cellsH at hj
    simpa using hj
  · intro u hu
    simp only [cellsH, candC, List.mem_cons, List.not_mem_nil, or_false] at hu
    rcases hu with rfl | rfl | rfl | rfl | rfl | rfl | rfl | rfl
    · rfl
    · exact hnew.one
    all_goals rfl
  · intro v' w' hown' hgrow hnil
    refine h v' w' ⟨?_, ?_⟩ ((hbel.alloc hB _).grown hgrow (by simp; omega) (fun k hk => (World.ownsRow.lt hr k hk).1))
    · rw [List.length_append, List.flatMap_append]
      simpa using hown'
    · exact fun d hd => (hws d hd).off hr hgrow
/-- A literal of one candidate. -/
theorem wpList_lit1 {ops : Array Oper} {rest : List Oper} {o : Oper} {a : Act} {w : World} {Q : Exit → Act → World → Prop} (hg : o.guard = none) (x : Operand) (ho : o.op = .buildSlice 33 1 #[(0, x)])
    (u : ByteArray) (wv : Value) (st : DSt) (hx : a.eval x = .agg (candC u wv st))
    (h : wpList Tryd.prog ops Q rest (a.put o.dst (.slice (some ⟨w.heap.size, 0, none⟩) 1 1)) (w.alloc (.cells (candC u wv st) 27))) : wpList Tryd.prog ops Q (o :: rest) a w := by
  obtain ⟨i, hi, hz, hs1, hb1⟩ := candTy
  refine wpList_buildSlice hg 33 27 1 _ ho (candC u wv st) i _ Tryd.underlying33 hi hz (by rw [hs1]; omega) (by rw [hs1]; omega) ?_ h
  rw [hs1]
  rw [Array.toList_map]
  show Instr.fill _ _ [(0, a.eval x)] = _
  rw [hx]
  kernel_rfl
end Go.Proofs.YtbejimncmfeggaaDoor
