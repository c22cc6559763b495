/- The contracts of six.longestRun and six.Write. -/
import Derived.Test.YtceedfhealbdkaaDoorUint
import Derived.Deep.Cut
import Derived.Deep.CutRange
import Derived.Lib.AppendStr
namespace Go.Proofs.YtceedfhealbdkaaDoor
open Go.RowKit
set_option linter.unusedVariables false

theorem ty8s : ElemTy Tryd.prog 37 5 (.int .u8 0) 1 := .mk' Tryd.underlying37 (by kernel_rfl) rfl
/-- Eight pieces as a value. -/
def sixCells (l : List Nat) : Array Value := (l.map fun n : Nat => Value.int .u16 (n : Int)).toArray
def sixV (l : List Nat) : Value := .agg (sixCells l)
/-- The pieces of an address. -/
structure Six (l : List Nat) : Prop where
  len : l.length = 8
  lt : ∀ x ∈ l, x < 65536
/-- Piece i. -/
def pc (l : List Nat) (i : Nat) : Nat := l.getD i 0
theorem Six.at {l : List Nat} (h : Six l) (i : Nat) (hi : i < 8) : pc l i < 65536 ∧ (sixCells l)[i]? = some (.int .u16 ((pc l i : Nat) : Int)) := by
  unfold pc
  have hi2 : i < l.length := by rw [h.len]; exact hi
  have e : l.getD i 0 = l[i] := by simp [List.getD, hi2]
  rw [e]
  exact ⟨h.lt _ (List.getElem_mem hi2), by simp [sixCells, hi2]⟩
/-- How many noughts stand first. -/
def zrun : List Nat → Nat
  | [] => 0
  | x :: r => if x = 0 then zrun r + 1 else 0
theorem zrun_le (l : List Nat) : zrun l ≤ l.length := by
  induction l with
  | nil => exact Nat.le_refl _
  | cons x r ih => unfold zrun; split <;> simp <;> omega
theorem drop_getD {l : List Nat} (i : Nat) (hi : i < l.length) : l.drop i = pc l i :: l.drop (i + 1) := by
  unfold pc; rw [List.drop_eq_getElem_cons hi]; simp [List.getD, hi]
/-- The longest run of two noughts or more, from place i on: the code's own way. -/
def runGo : Nat → List Nat → Nat → Nat → Nat → Nat × Nat
  | 0, _, _, b, e => (b, e)
  | f + 1, l, i, b, e =>
    if i < 8 then (if 2 ≤ zrun (l.drop i) ∧ e - b < zrun (l.drop i) then runGo f l (i + zrun (l.drop i) + 1) i (i + zrun (l.drop i)) else runGo f l (i + zrun (l.drop i) + 1) b e) else (b, e)
def runL (l : List Nat) : Nat × Nat := runGo 8 l 0 0 0
theorem runGo_end (f : Nat) (l : List Nat) (i b e : Nat) (h : 8 ≤ i) : runGo f l i b e = (b, e) := by
  cases f with
  | zero => rfl
  | succ f => rw [runGo, if_neg (by omega)]

/-- 's = append(s, text...)', s the call's own bytes. -/
theorem wpList_pushStr {ops : Array Oper} {rest : List Oper} {o : Oper} {a : Act} {Q : Exit → Act → World → Prop}
    (hgd : o.guard = none) (s x : Operand) (ho : o.op = .call { callee := .builtin .append, args := #[s, x], argTypes := #[37, 9] })
    {W0 w0 : World} {B : Nat} {v : Value} {l : List UInt8} (t : ByteArray) (hs : a.eval s = v) (hx : a.eval x = .string t)
    (hown : OwnB w0 B 5 v l) (hbel : Below B W0 w0) (hB : B ≤ w0.heap.size) (hsz : l.length + t.size ≤ 1099511627776)
    (h : ∀ v' w', OwnB w' B 5 v' (l ++ t.toList) → Below B W0 w' → wpList Tryd.prog ops Q rest (a.put o.dst v') w') : wpList Tryd.prog ops Q (o :: rest) a w0 := by
  obtain ⟨i0, hi, hz0, hz1, hz2⟩ := info_parts uintInfo
  refine Lib.wpList_append_own_string _ hgd s x 37 9 ho B 5 i0 Tryd.underlying37 Tryd.underlying9 hi hz0 hz1 hz2 v l.length _ hs (ownB_cells.1 hown) t hx (by unfold maxLen; omega) (by omega) hB ?_
  intro v' w' hown' hgrow _
  refine h v' w' (ownB_cells.2 ?_) (hbel.grown hgrow hB (fun k hk => (World.ownsRow.lt hown k hk).1))
  rw [List.length_append, size_toList]
  have e : Lib.byteCells (l ++ t.toList) = Lib.byteCells l ++ Lib.strCells t := by simp [Lib.byteCells, Lib.strCells, ByteArray.toList_eq]
  rw [e]; exact hown'
theorem sixV_eq {l : List Nat} (h : Six l) : sixV l = .agg #[.int .u16 ((pc l 0 : Nat) : Int), .int .u16 ((pc l 1 : Nat) : Int), .int .u16 ((pc l 2 : Nat) : Int), .int .u16 ((pc l 3 : Nat) : Int), .int .u16 ((pc l 4 : Nat) : Int), .int .u16 ((pc l 5 : Nat) : Int), .int .u16 ((pc l 6 : Nat) : Int), .int .u16 ((pc l 7 : Nat) : Int)] := by
  have hl := h.len
  match l, hl with
  | [a, b, c, d, e, f, g, h], _ => rfl
/-- An address as it is written, from place i on. -/
def sixGo : Nat → List Nat → Nat → Nat → Nat → List UInt8
  | 0, _, _, _, _ => []
  | f + 1, l, b, e, i =>
    if i < 8 then (if i = b ∧ b < e then [58, 58] ++ sixGo f l b e e else (if 0 < i ∧ (i ≠ e ∨ e = b) then [58] else []) ++ hexL (pc l i) ++ sixGo f l b e (i + 1)) else []
def sixL (l : List Nat) : List UInt8 := sixGo 8 l (runL l).1 (runL l).2 0
theorem sixGo_end (f : Nat) (l : List Nat) (b e i : Nat) (h : 8 ≤ i) : sixGo f l b e i = [] := by
  cases f with
  | zero => rfl
  | succ f => rw [sixGo, if_neg (by omega)]
theorem hexF_len : ∀ f n, (hexF f n).length ≤ f
  | 0, _ => Nat.le_refl _
  | f + 1, n => by
    have := hexF_len f (n / 16)
    unfold hexF; split <;> simp <;> omega
theorem hexL_len (n : Nat) : (hexL n).length ≤ 4 := hexF_len 4 n

end Go.Proofs.YtceedfhealbdkaaDoor
