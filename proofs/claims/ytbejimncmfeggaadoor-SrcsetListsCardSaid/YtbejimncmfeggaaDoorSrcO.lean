/- Rows of candidates, one behind the other. -/
import Derived.Test.YtbejimncmfeggaaDoorSrcL
import Derived.Test.YtbejimncmfeggaaDoorWords
import Derived.Test.YtbejimncmfeggaaDoorTrim
namespace Go.Proofs.YtbejimncmfeggaaDoor
open Go.RowKit
set_option linter.unusedVariables false
set_option linter.unusedSimpArgs false

theorem split_own (s : ByteArray) (w : World) (hz : s.size ≤ 900000) :
    Calls Tryd.prog 16 #[.string s] w fun e w' => ∃ pa n c l, e = .returned (.slice pa n c) ∧ SplitAt w' pa n c l (splL s.toList) ∧ Hid (pa = none → c = 0) ∧ n ≤ s.size ∧ Below w.heap.size w w' := by
  refine (splitC_any s w hz).mono ?_
  rintro e w' ⟨v, l, rfl, hl, hlz, hsz, ho, hb⟩
  have hr := ho.read
  have hv : ∃ pa c, v = .slice pa l.length c ∧ (pa = none → c = 0) := by
    rcases ho.1.2 with ⟨rfl, h0⟩ | ⟨g, cap, cur, rfl, -⟩
    · exact ⟨none, 0, by rw [h0], fun _ => rfl⟩
    · exact ⟨_, _, rfl, fun h => by cases h⟩
  obtain ⟨pa, c, rfl, h2⟩ := hv
  exact ⟨pa, l.length, c, l, rfl, ⟨hr, rfl, hl.out, rows_nan hl.out, fun c hc => (hsz c hc).2.2, by omega, fun c hc => (hsz c hc).2.1, fun c hc => by have := (hsz c hc).1; omega⟩, Lib.hid h2, hlz, hb⟩
theorem flat_len (l : List HCand) : (l.flatMap cellsH).length = l.length * 8 := by
  induction l with
  | nil => rfl
  | cons c r ih => rw [List.flatMap_cons, List.length_append, ih, cellsH_len, List.length_cons]; omega
theorem ReadS.one {w : World} {v : Value} {l : List ByteArray} (h : ReadS w v l) : v.oneCell' = true := by
  obtain ⟨a, c, rfl, -⟩ := h; rfl
theorem flat_one {w : World} {l : List HCand} (h : ∀ c ∈ l, ReadS w c.wv c.ws) : ∀ u ∈ l.flatMap cellsH, u.oneCell' = true := by
  intro u hu
  obtain ⟨c, hc, hu⟩ := List.mem_flatMap.1 hu
  simp only [cellsH, candC, List.mem_cons, List.not_mem_nil, or_false] at hu
  rcases hu with rfl | rfl | rfl | rfl | rfl | rfl | rfl | rfl
  · rfl
  · exact (h c hc).one
  all_goals rfl
theorem addr_at (g o j : Nat) : (⟨g, o, none⟩ : Addr).add j = ⟨g, o + j, none⟩ := by unfold Addr.add; split <;> simp_all
theorem flat_cells {w : World} {g o : Nat} {l : List HCand} (h : ∀ i (h : i < l.length), w.rangeAt g (o + i * 8) (cellsH l[i])) : ∀ j u, (l.flatMap cellsH)[j]? = some u → w.cell? ((⟨g, o, none⟩ : Addr).add j) = some u := by
  intro j u hj
  have hl := (List.getElem?_eq_some_iff.1 hj).1
  rw [flat_len] at hl
  have hi : j / 8 < l.length := by omega
  have e : j = j / 8 * 8 + j % 8 := by omega
  rw [e, flat8 l _ hi _ (by omega)] at hj
  have := h (j / 8) hi (j % 8) u hj
  rw [addr_at]
  rw [← this]
  congr 2
  omega
/-- Candidates put behind a row that is the call's own. -/
theorem wpList_addC {ops : Array Oper} {rest : List Oper} {o : Oper} {a : Act} {Q : Exit → Act → World → Prop}
    (hgd : o.guard = none) (s x : Operand) (ho : o.op = .call { callee := .builtin .append, args := #[s, x], argTypes := #[33, 33] })
    {W w : World} {v : Value} {n : Nat} {xs : List Value} (hs : a.eval s = v) (hown : w.ownsRow W.heap.size 27 8 v n xs) (hbel : Below W.heap.size W w)
    {pa : Option Addr} {m c : Nat} {l : List HCand} {L : List Cand} (hx : a.eval x = .slice pa m c) (hr : SplitAt W pa m c l L) (hnil : pa = none → c = 0) (hn : n ≤ 1000000)
    (h : ∀ v' w', w'.ownsRow W.heap.size 27 8 v' (n + m) (xs ++ l.flatMap cellsH) → Below W.heap.size W w' → wpList Tryd.prog ops Q rest (a.put o.dst v') w') :
    wpList Tryd.prog ops Q (o :: rest) a w := by
  obtain ⟨i, hi, hz, hs1, hb1⟩ := candTy
  have hm := hr.small
  have hlen := hr.len
  have hw := hr.read.below hbel (Nat.le_refl _)
  obtain ⟨pa', c', he, hc, hws⟩ := hw
  obtain ⟨rfl, rfl, rfl⟩ : pa = pa' ∧ m = l.length ∧ c = c' := by simpa using he
  cases pa with
  | none =>
    obtain rfl := hnil rfl
    have h0 : l = [] := by
      cases l with
      | nil => rfl
      | cons a r => obtain ⟨g, o, e, _⟩ := hc (by simp); cases e
    subst h0
    refine wpList_plain hgd fun _ hK => ?_
    have hrun := run_append_owned_none (P := Tryd.prog) (w := w) W.heap.size 33 o.type 27 i 8 Tryd.underlying33 hi v n xs hown
    unfold Oper.wp execOp
    simp only [ho, resolve, invoke, builtin, Sem.run_bind, Sem.run_pure, Result.andThen_ok, List.map_toArray, List.map_cons, List.map_nil, hs, hx]
    rw [show ([] : List HCand).length = 0 from rfl, hrun]
    exact hK _ _ (h v w (by simpa using hown) hbel)
  | some ad =>
    refine wpList_append_own _ hgd s x 33 ho W.heap.size 27 i _ 8 88 Tryd.underlying33 hi hz hs1 hb1 rfl (by decide) v n xs hs hown ad l.length c (l.flatMap cellsH) hx (flat_len l) ?_ (flat_one hws) (by unfold maxLen; omega) (by omega) hbel.size ?_
    · intro j u hj
      have hl := (List.getElem?_eq_some_iff.1 hj).1
      rw [flat_len] at hl
      obtain ⟨g, o, e, hcell⟩ := hc (by omega)
      cases e
      exact flat_cells hcell j u hj
    · intro v' w' hown' hgrow _
      refine h v' w' hown' (hbel.grown hgrow hbel.size ?_)
      intro k hk
      exact (World.ownsRow.lt hown k hk).1
theorem rows_read {W w : World} {v : Value} {n : Nat} {l : List HCand} (hown : w.ownsRow W.heap.size 27 8 v n (l.flatMap cellsH)) (hws : ∀ c ∈ l, ReadS w c.wv c.ws) : ∃ pa c, v = .slice pa n c ∧ ReadC w (.slice pa n c) l := by
  have hl : n = l.length := by
    have := hown.1
    rw [flat_len] at this; omega
  subst hl
  have hr2 := hown
  rcases hown.2 with ⟨rfl, h0⟩ | ⟨g, cap, cur, rfl, -⟩
  · refine ⟨none, 0, by rw [h0], none, 0, rfl, fun h => by omega, hws⟩
  · refine ⟨_, _, rfl, _, _, rfl, fun _ => ⟨g, 0, rfl, fun i hi j v hv => ?_⟩, hws⟩
    have hj : j < 8 := by
      have := (List.getElem?_eq_some_iff.1 hv).1
      rwa [cellsH_len] at this
    rw [Nat.zero_add]
    have := World.ownsRow.cellAt hr2 (i * 8 + j) (by omega)
    rw [this, ← hv, ← flat8 l i hi j hj]
/-- Two rows, one behind the other. -/
theorem SplitAt.both {W w : World} {pa pb : Option Addr} {n m c d : Nat} {l k : List HCand} {L K : List Cand} (h1 : SplitAt W pa n c l L) (h2 : SplitAt W pb m d k K) (hb : Below W.heap.size W w) {v : Value}
    (hown : w.ownsRow W.heap.size 27 8 v (n + m) (l.flatMap cellsH ++ k.flatMap cellsH)) (hz : n + m ≤ 1000000) : ∃ pc e, v = .slice pc (n + m) e ∧ SplitAt w pc (n + m) e (l ++ k) (L ++ K) := by
  rw [← List.flatMap_append] at hown
  obtain ⟨_, _, _, _, w1⟩ := h1.read
  obtain ⟨_, _, _, _, w2⟩ := h2.read
  have both : ∀ {P : HCand → Prop}, (∀ c ∈ l, P c) → (∀ c ∈ k, P c) → ∀ c ∈ l ++ k, P c := fun p q c hc => (List.mem_append.1 hc).elim (p c) (q c)
  obtain ⟨pc, e, rfl, hr⟩ := rows_read hown (both (fun c hc => (w1 c hc).below hb (Nat.le_refl _)) (fun c hc => (w2 c hc).below hb (Nat.le_refl _)))
  exact ⟨pc, e, rfl, hr, by rw [List.length_append, h1.len, h2.len], by rw [List.map_append, h1.list, h2.list], both h1.nan h2.nan, both h1.ws h2.ws, hz, both h1.sz h2.sz, both h1.uz h2.uz⟩
end Go.Proofs.YtbejimncmfeggaaDoor
