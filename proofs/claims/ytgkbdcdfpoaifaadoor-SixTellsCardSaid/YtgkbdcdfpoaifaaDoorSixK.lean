/- The contract of the reference of layer 10: Parse. -/
import Derived.Test.YtgkbdcdfpoaifaaDoorSixJ
import Derived.Laws.ResultCell
namespace Go.Proofs.YtgkbdcdfpoaifaaDoor
open Go.RowKit
set_option linter.unusedVariables false
set_option linter.unusedSimpArgs false

theorem digs_lt : ∀ (l : List UInt8) (acc v : Nat), digsGo 16 acc l = some v → v < (acc + 1) * 16 ^ l.length
  | [], acc, v, h => by cases h; simp
  | c :: r, acc, v, h => by
    rw [digsGo] at h
    split at h
    · cases h
    · rename_i hd
      have h15 : digitZ (c.toNat : Int) ((16 : Nat) : Int) ≤ 15 := by unfold digitZ; omega
      have := digs_lt r _ v h
      rw [List.length_cons, Nat.pow_succ]
      have e : (acc + 1) * (16 ^ r.length * 16) = ((acc + 1) * 16) * 16 ^ r.length := by rw [Nat.mul_comm (16 ^ r.length) 16, Nat.mul_assoc]
      rw [e]
      refine Nat.lt_of_lt_of_le this (Nat.mul_le_mul_right _ ?_)
      omega
theorem pieceV_lt {t : List UInt8} {v : Nat} (h : pieceV t = some v) : v < 65536 := by
  unfold pieceV digs1 at h
  split at h
  · cases h
  · split at h
    · cases h
    · have h1 := digs_lt t 0 v h
      have h2 : 16 ^ t.length ≤ 16 ^ 4 := Nat.pow_le_pow_right (by decide) (by omega)
      omega
theorem pieceL_lt {last nb : Bool} {t : List UInt8} {x : List Nat} (h : pieceL last nb t = some x) : ∀ v ∈ x, v < 65536 := by
  rw [pieceL_eq] at h
  cases hp : pieceV t with
  | some n =>
    rw [hp] at h; cases h
    intro v hv
    simp at hv; subst hv
    exact pieceV_lt hp
  | none =>
    rw [hp] at h
    dsimp only at h
    split at h
    · unfold numbersV at h
      split at h
      · rename_i a b c d ha
        cases h
        have hle := allB_le ha
        have h1 := hle a (by simp)
        have h2 := hle b (by simp)
        have h3 := hle c (by simp)
        have h4 := hle d (by simp)
        intro v hv
        simp at hv
        rcases hv with rfl | rfl <;> omega
      · cases h
    · cases h
theorem rowS_lt (nb : Bool) : ∀ {ts : List (List UInt8)} {x : List Nat}, rowS nb ts = some x → ∀ v ∈ x, v < 65536
  | [], x, h => by cases h; intro v hv; cases hv
  | [t], x, h => pieceL_lt h
  | t :: u :: r, x, h => by
    rw [rowS] at h
    cases hp : pieceL false nb t with
    | none => rw [hp] at h; cases h
    | some y =>
      rw [hp] at h
      dsimp only at h
      cases hr : rowS nb (u :: r) with
      | none => rw [hr] at h; cases h
      | some z =>
        rw [hr] at h; cases h
        intro v hv
        rcases List.mem_append.1 hv with hv | hv
        · exact pieceL_lt hp v hv
        · exact rowS_lt nb hr v hv
theorem rowV_lt {nb : Bool} {l : List UInt8} {x : List Nat} (h : rowV nb l = some x) : ∀ v ∈ x, v < 65536 := by
  rw [rowV_split] at h
  split at h
  · cases h; intro v hv; cases hv
  · exact rowS_lt nb h
theorem pieceL_two {last nb : Bool} {t : List UInt8} {x : List Nat} (h : pieceL last nb t = some x) : x.length ≤ 2 := by
  unfold pieceL at h
  split at h
  · cases h2 : fourV t with
    | none => rw [h2] at h; cases h
    | some v => rw [h2] at h; cases h; simp
  · cases h2 : pieceV t with
    | none => rw [h2] at h; cases h
    | some v => rw [h2] at h; cases h; simp
theorem rowS_le (nb : Bool) : ∀ {ts : List (List UInt8)} {x : List Nat}, rowS nb ts = some x → x.length ≤ 2 * ts.length
  | [], x, h => by cases h; simp
  | [t], x, h => by have := pieceL_two h; simp; omega
  | t :: u :: r, x, h => by
    rw [rowS] at h
    cases hp : pieceL false nb t with
    | none => rw [hp] at h; cases h
    | some y =>
      rw [hp] at h
      dsimp only at h
      cases hr : rowS nb (u :: r) with
      | none => rw [hr] at h; cases h
      | some z =>
        rw [hr] at h; cases h
        have h1 := pieceL_two hp
        have h2 := rowS_le nb hr
        simp only [List.length_append, List.length_cons] at h2 ⊢
        omega
theorem rowV_len {nb : Bool} {l : List UInt8} {x : List Nat} (h : rowV nb l = some x) : x.length ≤ 2 * (l.length + 1) := by
  rw [rowV_split] at h
  split at h
  · cases h; simp
  · have h1 := rowS_le nb h
    have h2 := splitC_len 58 l
    omega
/-- What stands at a row's places, i of x laid from off on. -/
def layN (Z : List Nat) (off : Nat) (x : List Nat) (i : Nat) : List Nat := Z.take off ++ (x.take i ++ Z.drop (off + i))
theorem layN_zero (Z : List Nat) (off : Nat) (x : List Nat) : layN Z off x 0 = Z := by simp [layN]
theorem layN_len {Z : List Nat} {off : Nat} {x : List Nat} {i : Nat} (hi : i ≤ x.length) (h : off + i ≤ Z.length) : (layN Z off x i).length = Z.length := by simp [layN]; omega
theorem layN_set {Z : List Nat} {off : Nat} {x : List Nat} {i : Nat} (hi : i < x.length) (h : off + i < Z.length) : (layN Z off x i).set (off + i) x[i] = layN Z off x (i + 1) := by
  unfold layN
  have h1 : (Z.take off).length = off := by rw [List.length_take]; omega
  have h2 : (x.take i).length = i := by rw [List.length_take]; omega
  rw [List.set_append_right _ _ (by omega), h1, show off + i - off = i by omega, List.set_append_right _ _ (by omega), h2, Nat.sub_self, List.drop_eq_getElem_cons h, List.set_cons_zero, List.take_succ_eq_append_getElem hi, ← Nat.add_assoc, List.append_assoc]
  rfl
theorem sixCells_put (l : List Nat) (i n : Nat) : (sixCells l).setIfInBounds i (.int .u16 (n : Int)) = sixCells (l.set i n) := by
  apply Array.ext'
  simp [sixCells, List.map_set]
theorem OwnI.blk {w : World} {B : Nat} {v : Value} {l : List Nat} (h : OwnI w B v l) (hn : 0 < l.length) :
    ∃ g cp o, v = .slice (some ⟨g, 0, none⟩) l.length cp ∧ l.length ≤ cp ∧ B ≤ g ∧ w.heap[g]? = some o ∧ ∀ w' : World, w'.heap[g]? = some o → ∀ i (h : i < l.length), w'.cell? ⟨g, i, none⟩ = some (.int .i64 ((l[i] : Nat) : Int)) := by
  rcases h.2 with ⟨hv, h0⟩ | ⟨g, cap, cur, rfl, hg, hh, hcap, hml, hcs, hcur⟩
  · omega
  · refine ⟨g, cap, _, rfl, hcap, hg, hh, fun w' hw' i hi => ?_⟩
    rw [cell_of_row _ _ i _ _ _ hw', ← Array.getElem?_toList]
    have h1 : (cur.toList.take (l.length * 1))[i]? = (l.map intV)[i]? := by rw [hcur]
    rw [List.getElem?_take, if_pos (by omega)] at h1
    rw [h1]; simp [hi, intV]
theorem OwnI.blk2 {w : World} {B : Nat} {a : Option Addr} {n c : Nat} {l : List Nat} (h : OwnI w B (.slice a n c) l) (hn : 0 < l.length) :
    ∃ g o, a = some ⟨g, 0, none⟩ ∧ l.length ≤ c ∧ B ≤ g ∧ w.heap[g]? = some o ∧ ∀ w' : World, w'.heap[g]? = some o → ∀ i (h : i < l.length), w'.cell? ⟨g, i, none⟩ = some (.int .i64 ((l[i] : Nat) : Int)) := by
  obtain ⟨g, cp, o, hv, h1, h2, h3, h4⟩ := h.blk hn
  obtain ⟨rfl, rfl, rfl⟩ := Value.slice.inj hv
  exact ⟨g, o, rfl, h1, h2, h3, h4⟩
theorem lay_two {x y : List Nat} {k : Nat} (hk : y.length + k = 8) (hx : x.length ≤ k) : layN (layN six0 0 x x.length) k y y.length = x ++ (List.replicate (8 - x.length - y.length) 0 ++ y) := by
  have e1 : layN six0 0 x x.length = x ++ List.replicate (8 - x.length) 0 := by
    unfold layN
    rw [List.take_zero, List.nil_append, List.take_of_length_le (Nat.le_refl _), Nat.zero_add, show six0 = List.replicate 8 0 from rfl, List.drop_replicate]
  rw [e1]
  unfold layN
  rw [List.take_of_length_le (show y.length ≤ y.length from Nat.le_refl _), List.drop_of_length_le (show (x ++ List.replicate (8 - x.length) 0).length ≤ k + y.length by simp; omega), List.append_nil, List.take_append, List.take_of_length_le hx, List.take_replicate, List.append_assoc, show min (k - x.length) (8 - x.length) = 8 - x.length - y.length by omega]
/-- The result's row and the row that is filled, the call running. -/
structure RefW (w wx : World) (c2 : Array Value) (l : List Nat) : Prop where
  below : Below w.heap.size w wx
  size : w.heap.size + 2 ≤ wx.heap.size
  a : wx.heap[w.heap.size]? = some (.cells c2 23)
  b : wx.heap[w.heap.size + 1]? = some (.cells (sixCells l) 23)
theorem RefW.next {w wx wy : World} {c : Array Value} {l : List Nat} (h : RefW w wx c l) (hb : Below wx.heap.size wx wy) : RefW w wy c l :=
  ⟨h.below.next hb, by have := hb.size; have := h.size; omega, row_keep h.a hb, row_keep h.b hb⟩
theorem RefW.start (w : World) : RefW w ((w.alloc (.cells zero8 23)).alloc (.cells zero8 23)) zero8 six0 :=
  ⟨((Below.refl _ _).alloc (Nat.le_refl _) _).alloc (by simp) _, by simp, row_old (heap_alloc_new _ _), heap_alloc2_new w _ _⟩
theorem RefW.put {w wx : World} {c : Array Value} {l : List Nat} (h : RefW w wx c l) (i n : Nat) : RefW w (wx.setCell ⟨w.heap.size + 1, i, none⟩ (.int .u16 (n : Int))) c (l.set i n) :=
  ⟨h.below.setCell (p := ⟨w.heap.size + 1, i, none⟩) (by simp) _, by simpa using h.size, (set_other (by omega) _ _).trans h.a, by rw [set_at h.b i (.int .u16 (n : Int)), sixCells_put]⟩
theorem RefW.cell {w wx : World} {c : Array Value} {l : List Nat} (h : RefW w wx c l) {i : Nat} (hi : i < l.length) : (∃ v, wx.cell? ⟨w.heap.size + 1, i, none⟩ = some v) ∧ wx.frozen? ⟨w.heap.size + 1, i, none⟩ = false := by
  constructor
  · rw [cell_of_row _ _ i _ _ _ h.b]
    exact ⟨_, Array.getElem?_eq_getElem (by simpa [sixCells] using hi)⟩
  · simp [World.frozen?, h.b]
theorem parse_ret10 {R : Ending → World → Prop} {a : Act} {w : World} {g : Nat} {l : List Nat} {b : Bool} (h2 : a.tmps.getD 2 undef = .pointer (some ⟨g, 0, none⟩)) (h3 : a.tmps.getD 3 undef = .bool b) (hd : a.defers = []) (hl : l.length = 8)
    (hg : w.heap[g]? = some (.cells (sixCells l) 23)) (hR : R (.returned (.tuple #[.agg (sixCells l), .bool b])) w) :
    bodyPost Tryd.prog Tryd.f11 R .ret a w := by
  refine bodyPost_ret (v := .tuple #[.agg (sixCells l), .bool b]) ?_ hd hR
  have ha := run_loadVar_row (P := Tryd.prog) w g 23 23 (sixCells l) _ _ hg Tryd.underlying23 rfl (by rw [show (sixCells l).size = 8 by simp [sixCells, hl]]; kernel_rfl)
  rw [results_cell_tmp rfl, h2, h3]
  simp only [asAddr, Sem.run_pure, Result.andThen, ha]
theorem RefW.done {w wx : World} {c : Array Value} {l : List Nat} {b : Bool} {o : Option (List Nat)} {a : Act} (h : RefW w wx c l) (hl : l.length = 8) (h2 : a.tmps.getD 2 undef = .pointer (some ⟨w.heap.size, 0, none⟩)) (h3 : a.tmps.getD 3 undef = .bool b) (hd : a.defers = [])
    (ho : o.getD six0 = l) (hb : o.isSome = b) :
    bodyPost Tryd.prog Tryd.f11 (RetSix w o) .ret a (wx.setRow w.heap.size (sixCells l)) := by
  refine parse_ret10 h2 h3 hd hl (setRow_heap _ _ _ _ _ _ h.a) ?_
  subst ho hb
  exact ⟨rfl, below_setRow h.below (Nat.le_refl _) _⟩
/-- A whole row into another. -/
theorem wpList_store_whole {ops : Array Oper} {rest : List Oper} {o : Oper} {a : Act} {w : World} {Q : Exit → Act → World → Prop} (hgd : o.guard = none) (x y : Operand) (ho : o.op = .store 23 x y)
    {g : Nat} {l : List Nat} {old : Array Value} (hl : l.length = 8) (hold : old.size = 8) (hg : w.heap[g]? = some (.cells old 23)) (hx : a.eval x = .pointer (some ⟨g, 0, none⟩)) (hy : a.eval y = .agg (sixCells l))
    (h : wpList Tryd.prog ops Q rest (a.put o.dst undef) (w.setRow g (sixCells l))) : wpList Tryd.prog ops Q (o :: rest) a w := by
  have hs : (sixCells l).size = 8 := by simp [sixCells, hl]
  exact wpList_store_row hgd 23 x y ho g (sixCells l) hx hy 23 old hg (by rw [hs]; kernel_rfl) (by rw [hold, hs]) (by simp [sixCells, Value.oneCell']) h
theorem cutD_drop {l : List UInt8} {i : Nat} (h : i + 1 < l.length) : cutD (l.drop i) = if l[i] = 58 ∧ l[i + 1] = 58 then ([], l.drop (i + 2), true) else (l[i] :: (cutD (l.drop (i + 1))).1, (cutD (l.drop (i + 1))).2.1, (cutD (l.drop (i + 1))).2.2) := by
  rw [List.drop_eq_getElem_cons (show i < l.length by omega), cutD_cons]
  have e : (l.drop (i + 1)).head? = some l[i + 1] := by rw [List.drop_eq_getElem_cons h]; rfl
  have e2 : (l.drop (i + 1)).tail = l.drop (i + 2) := by rw [List.drop_eq_getElem_cons h]; rfl
  rw [e, e2]
  simp only [Option.some.injEq]
theorem rowC_of {nb : Bool} {l : List UInt8} : rowC nb l = match rowV nb l with | none => none | some x => if x.length ≤ 8 then some x else none := rfl
theorem sixP_one {l : List UInt8} (h : (cutD l).2.2 = false) : sixP l = match rowV true l with | none => none | some x => if x.length = 8 then some x else none := by
  unfold sixP
  rw [if_neg (by rw [h]; decide), rowC_of]
  cases rowV true l with
  | none => rfl
  | some x =>
    dsimp only
    by_cases h8 : x.length ≤ 8
    · rw [if_pos h8]
    · rw [if_neg h8, if_neg (by omega)]
theorem sixP_dd {l X Y : List UInt8} (h : cutD l = (X, Y, true)) : sixP l = match rowV false X with
    | none => none
    | some x => match rowV true Y with
      | none => none
      | some y => if x.length + y.length ≤ 7 then some (x ++ (List.replicate (8 - x.length - y.length) 0 ++ y)) else none := by
  unfold sixP
  rw [h, if_pos rfl]
  dsimp only
  rw [rowC_of, rowC_of]
  cases rowV false X with
  | none => rfl
  | some x =>
    dsimp only
    cases rowV true Y with
    | none => by_cases h8 : x.length ≤ 8 <;> simp [h8]
    | some y =>
      dsimp only
      by_cases h7 : x.length + y.length ≤ 7
      · rw [if_pos (by omega), if_pos h7]; dsimp only; rw [if_pos (by omega)]; dsimp only; rw [if_pos (by omega)]
      · rw [if_neg h7]
        by_cases h8 : x.length ≤ 8
        · rw [if_pos h8]; dsimp only
          by_cases h9 : y.length ≤ 8
          · rw [if_pos h9]; dsimp only; rw [if_neg (by omega)]
          · rw [if_neg h9]
        · rw [if_neg h8]
end Go.Proofs.YtgkbdcdfpoaifaaDoor
