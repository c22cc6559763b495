/- 'out = append(out, more...)' over strings. -/
import Derived.Test.YtbejimncmfeggaaDoorBase
import Derived.Laws.AppendOwnNone
namespace Go.Proofs.YtbejimncmfeggaaDoor
open Go.RowKit
set_option linter.unusedVariables false

theorem tyStr : ElemTy Tryd.prog 22 9 (.string ByteArray.empty) 16 := .mk' Tryd.underlying22 (by kernel_rfl) rfl
theorem wpList_moreS {P : Program} {T E : TypeId} {z : Value} {b : Nat} (ty : ElemTy P T E z b) {ops : Array Oper} {rest : List Oper} {o : Oper} {a : Act} {Q : Exit → Act → World → Prop}
    (hgd : o.guard = none) (s x : Operand) (ho : o.op = .call { callee := .builtin .append, args := #[s, x], argTypes := #[T, T] })
    {W0 w0 : World} {B : Nat} {v : Value} {l : List ByteArray} (m : List ByteArray) (pa : Option Addr) (pc : Nat) (hs : a.eval s = v) (hx : a.eval x = .slice pa m.length pc)
    (hnil : pa = none → pc = 0 ∧ m = []) (hcell : 0 < m.length → ∃ g o, pa = some ⟨g, o, none⟩ ∧ ∀ i (h : i < m.length), w0.cell? ⟨g, o + i, none⟩ = some (.string m[i]))
    (hown : OwnS w0 B E v l) (hbel : Below B W0 w0) (hB : B ≤ w0.heap.size) (h63 : l.length + m.length ≤ maxLen) (hsz : (l.length + m.length) * b ≤ 140737488355328)
    (h : ∀ v' w', OwnS w' B E v' (l ++ m) → Below B W0 w' → wpList P ops Q rest (a.put o.dst v') w') :
    wpList P ops Q (o :: rest) a w0 := by
  obtain ⟨i, hi, hz, hs1, hb1⟩ := ty.i
  cases hpa : pa with
  | none =>
    obtain ⟨rfl, rfl⟩ := hnil hpa
    subst hpa
    refine wpList_append_own_none hgd s x T ho B E i 1 ty.u hi v l.length _ hs hown hx ?_
    have := h v w0 (by simpa using hown) hbel
    exact this
  | some ad =>
    subst hpa
    have hn : ∀ j u, (m.map Value.string)[j]? = some u → w0.cell? (ad.add j) = some u := by
      intro j u hj
      have hjl : j < m.length := by
        have := List.getElem?_eq_some_iff.1 hj
        simpa using this.1
      obtain ⟨g, o, e, hc⟩ := hcell (by omega)
      obtain rfl := Option.some.inj e
      rw [List.getElem?_map, List.getElem?_eq_getElem hjl] at hj
      have := hc j hjl
      have e2 : (⟨g, o, none⟩ : Addr).add j = ⟨g, o + j, none⟩ := by cases j <;> simp [Addr.add]
      rw [e2, this]; exact hj
    refine wpList_append_own w0 hgd s x T ho B E i z 1 b ty.u hi hz hs1 hb1 ty.z (by decide) v l.length _ hs hown ad m.length pc (m.map Value.string) hx (by simp) hn (by intro y hy; simp at hy; obtain ⟨t, _, rfl⟩ := hy; rfl) h63 hsz hB ?_
    intro v' w' hown' hgrow hnil
    refine h v' w' ?_ (hbel.grown hgrow hB (fun k hk => (World.ownsRow.lt hown k hk).1))
    unfold OwnS
    rw [List.length_append, List.map_append]
    exact hown'
/-- 'append([]string{}, ..)': the empty literal is the call's own. -/
theorem OwnS.empty {w : World} {B : Nat} {E : TypeId} (hB : B ≤ w.heap.size) : OwnS (w.alloc (.cells #[] E)) B E (.slice (some ⟨w.heap.size, 0, none⟩) 0 0) [] := by
  refine ⟨rfl, .inr ⟨w.heap.size, 0, #[], rfl, hB, ?_, Nat.le_refl _, Nat.zero_le _, rfl, rfl⟩⟩
  show (w.heap.push _)[w.heap.size]? = _
  simp
end Go.Proofs.YtbejimncmfeggaaDoor
