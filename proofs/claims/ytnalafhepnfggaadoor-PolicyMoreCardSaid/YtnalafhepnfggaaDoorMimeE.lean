/- What the laws of layer 18 share: an address of data, the small case. -/
import Derived.Test.YtnalafhepnfggaaDoorMimeD
import Derived.Deep.WholeRow
import Derived.Great.BuildSlice
namespace Go.Proofs.YtnalafhepnfggaaDoor
open Go.RowKit
set_option linter.unusedVariables false
set_option linter.unusedSimpArgs false

/-- A row that was just made is filled. -/
theorem wpList_store_newM {P : Program} {ops : Array Oper} {rest : List Oper} {o : Oper} {a : Act} {w : World} {Q : Exit → Act → World → Prop} (hgd : o.guard = none) (ty : TypeId) (x y : Operand) (ho : o.op = .store ty x y) (hd : o.dst = none)
    (cells : Array Value) (t : TypeId) (old : Array Value) (g : Nat) (hx : a.eval x = .pointer (some ⟨g, 0, none⟩)) (hgw : g = w.heap.size) (hy : a.eval y = .agg cells) (hi : (P.info? ty).map (·.size) = some cells.size)
    (hold : old.size = cells.size) (h1 : cells.all (·.oneCell') = true)
    (h : wpList P ops Q rest a (w.alloc (.cells cells t))) : wpList P ops Q (o :: rest) a (w.alloc (.cells old t)) := by
  subst hgw
  refine wpList_store_row hgd ty x y ho w.heap.size cells hx hy t old (by show (w.heap.push _)[w.heap.size]? = _; simp) hi hold h1 ?_
  rw [World.setRow_alloc_new, hd]
  exact h
theorem urlC_cellsM (u : UrlS) : (urlC u).all (·.oneCell') = true := by kernel_rfl
/-- An address of data. -/
def ofU (s : ByteArray) : UrlS := ⟨⟨#[100, 97, 116, 97]⟩, ⟨#[]⟩, ⟨#[]⟩, ⟨0, ⟨#[]⟩, 0, [0, 0, 0, 0, 0, 0, 0, 0]⟩, false, 0, true, s, none, 0, [], false, ⟨#[]⟩, false, ⟨#[]⟩⟩
theorem ofU_fit (s : ByteArray) (h : s.size ≤ 1000000) : UrlFit (ofU s) :=
  ⟨by dsimp only [ofU]; decide, by dsimp only [ofU]; decide, by dsimp only [ofU]; decide, by dsimp only [ofU]; decide, by dsimp only [ofU]; omega, by dsimp only [ofU]; decide, by dsimp only [ofU]; decide, by simp [ofU, pathT], by dsimp only [ofU]; decide, by dsimp only [ofU]; decide, ⟨by dsimp only [ofU]; decide, ⟨rfl, by dsimp only [ofU]; decide⟩, by dsimp only [ofU]; decide⟩⟩
theorem ofU_path (w : World) (s : ByteArray) : PathIn w (ofU s) := fun h => absurd h (by simp [ofU])
theorem ofU_text (s : ByteArray) : writeX (ofU s) false = [100, 97, 116, 97, 58] ++ s.toList := by
  have e : (ByteArray.mk #[100, 97, 116, 97]).toList = [100, 97, 116, 97] := toList_mk _
  simp [writeX, aheadX, ofU, dotB, optB, pathX, e]
theorem ofU_data (s : ByteArray) : dataU (ofU s) = if (cutC 44 s.toList).2.2 = true then some (typeL (cutC 44 s.toList).1) else none := by
  have e : (ofU s).scheme.toList = dataW := toList_mk _
  unfold dataU
  rw [if_pos e, ofU_text]
  rfl
/-- The type of the data of such an address. -/
theorem dataOf_any (s : ByteArray) (w : World) (hs : s.size ≤ 800000) (ht : Tabs w) (hm : ML w) :
    Calls Tryd.prog 14 #[.agg (urlC (ofU s))] w (RetE w (if (cutC 44 s.toList).2.2 = true then some (typeL (cutC 44 s.toList).1) else none)) :=
  ofU_data s ▸ data_any (ofU s) w (ofU_path w s) (ofU_fit s (by omega)) (by rw [ofU_text, List.length_append, size_toList]; show 5 + s.size ≤ _; omega) ht hm
theorem ess_at {s : ByteArray} {o : Option (List UInt8)} (w : World) (hm : ML w) (hs : s.size ≤ 1000000) (h : essL s.toList = o) : Calls Tryd.prog 26 #[.string s] w (RetE w o) := h ▸ essence_any s w hm hs
theorem dataOf_at {s : ByteArray} {o : Option (List UInt8)} (w : World) (hs : s.size ≤ 800000) (ht : Tabs w) (hm : ML w) (h : (if (cutC 44 s.toList).2.2 = true then some (typeL (cutC 44 s.toList).1) else none) = o) :
    Calls Tryd.prog 14 #[.agg (urlC (ofU s))] w (RetE w o) := h ▸ dataOf_any s w hs ht hm
end Go.Proofs.YtnalafhepnfggaaDoor
