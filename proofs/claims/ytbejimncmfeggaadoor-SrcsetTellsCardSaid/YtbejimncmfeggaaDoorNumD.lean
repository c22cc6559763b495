/- The law's own digits (layer 4): bytes that are laid ahead. -/
import Derived.Test.YtbejimncmfeggaaDoorNumS
import Derived.Test.YtbejimncmfeggaaDoorFourR
namespace Go.Proofs.YtbejimncmfeggaaDoor
open Go.RowKit
set_option linter.unusedVariables false

/-- 's = append(s, x...)', s and x the call's own bytes. -/
theorem wpList_extendB {P : Program} {T E : TypeId} {z : Value} {b : Nat} (ty : ElemTy P T E z b) {ops : Array Oper} {rest : List Oper} {o : Oper} {a : Act} {Q : Exit → Act → World → Prop}
    (hgd : o.guard = none) (s x : Operand) (ho : o.op = .call { callee := .builtin .append, args := #[s, x], argTypes := #[T, T] })
    {W0 w0 : World} {B B2 : Nat} {v u : Value} {l m : List UInt8} (hs : a.eval s = v) (hx : a.eval x = u)
    (hown : OwnB w0 B E v l) (hsrc : OwnB w0 B2 E u m) (hbel : Below B W0 w0) (hB : B ≤ w0.heap.size) (h63 : l.length + m.length ≤ maxLen) (hsz : (l.length + m.length) * b ≤ 140737488355328)
    (h : ∀ v' w', OwnB w' B E v' (l ++ m) → Below B W0 w' → wpList P ops Q rest (a.put o.dst v') w') : wpList P ops Q (o :: rest) a w0 := by
  obtain ⟨i, hi, hz, hs1, hb1⟩ := ty.i
  rcases hsrc.2 with ⟨hu, hn⟩ | ⟨g, cap, cur, hu, hg, hh, hcap, hml, hcs, hcur⟩
  · have hm : m = [] := List.eq_nil_of_length_eq_zero hn
    refine wpList_append_own_none hgd s x T ho B E i 1 ty.u hi v l.length _ hs hown (hx.trans hu) ?_
    refine h v w0 ?_ hbel
    rw [hm, List.append_nil]; exact hown
  · refine wpList_append_own w0 hgd s x T ho B E i z 1 b ty.u hi hz hs1 hb1 ty.z (by decide) v l.length _ hs hown ⟨g, 0, none⟩ m.length cap (m.map byteV) (hx.trans hu) (by simp)
      (fun j y hj => World.ownsRow.cells hsrc (by rw [hu]; rfl) j y hj) (by intro y hy; obtain ⟨t, _, rfl⟩ := List.mem_map.1 hy; rfl) h63 hsz hB ?_
    intro v' w' hown' hgrow _
    refine h v' w' ?_ (hbel.grown hgrow hB (fun k hk => (hown.lt k hk).1))
    simpa [OwnB] using hown'
theorem OwnB.one {w : World} {B : Nat} {E : TypeId} {n : Int} (c : UInt8) (hn : n = (c.toNat : Int)) (hB : B ≤ w.heap.size) : OwnB (w.alloc (.cells #[.int .u8 n] E)) B E (.slice (some ⟨w.heap.size, 0, none⟩) 1 1) [c] := by
  subst hn
  exact ⟨rfl, .inr ⟨w.heap.size, 1, #[.int .u8 (c.toNat : Int)], rfl, hB, heap_alloc_new w _, Nat.le_refl _, by unfold maxLen; omega, rfl, rfl⟩⟩
theorem OwnB.form {w : World} {B : Nat} {E : TypeId} {v : Value} {l : List UInt8} (h : OwnB w B E v l) : ∃ a c, v = .slice a l.length c := by
  rcases h.2 with ⟨rfl, hn⟩ | ⟨g, cap, cur, rfl, _⟩
  · exact ⟨none, 0, by rw [hn]⟩
  · exact ⟨_, cap, rfl⟩
def lenOf : Value → Nat
  | .slice _ l _ => l
  | _ => 0
theorem OwnB.alloc {w : World} {B : Nat} {E : TypeId} {v : Value} {l : List UInt8} (h : OwnB w B E v l) (o : Obj) : OwnB (w.alloc o) B E v l := World.ownsRow.alloc h o
theorem ty8n : ElemTy Tryd.prog 42 5 (.int .u8 0) 1 := .mk' Tryd.underlying42 (by kernel_rfl) rfl
theorem hexC_toNat {d : Nat} (h : d < 10) : ((hexC d).toNat : Int) = 48 + (d : Int) := by
  have : ∀ d : Fin 10, ((hexC d.val).toNat : Int) = 48 + (d.val : Int) := by decide +kernel
  exact this ⟨d, h⟩
theorem digL_step10 (m : Nat) : digL 10 m = (if m / 10 = 0 then [] else digL 10 (m / 10)) ++ [hexC (m % 10)] := by
  by_cases h : m < 10
  · rw [digL_small h, if_pos (Nat.div_eq_of_lt h), Nat.mod_eq_of_lt h]; rfl
  · rw [digL_big h (by decide), if_neg (by omega)]
/-- How the digits stand in the middle of the loop. -/
def DigN (n m : Nat) (t : List UInt8) : Prop := (t = [] ∧ m = n) ∨ (t ≠ [] ∧ (if m = 0 then [] else digL 10 m) ++ t = digL 10 n)
theorem DigN.step {n m : Nat} {t : List UInt8} (h : DigN n m t) (hm : 0 < m ∨ t = []) : DigN n (m / 10) (hexC (m % 10) :: t) := by
  refine .inr ⟨by simp, ?_⟩
  rcases h with ⟨rfl, rfl⟩ | ⟨h1, h2⟩
  · exact (digL_step10 m).symm
  · have h0 : m ≠ 0 := by rcases hm with hm | hm; omega; exact absurd hm h1
    rw [if_neg h0, digL_step10 m] at h2
    rw [← h2]; simp
end Go.Proofs.YtbejimncmfeggaaDoor
