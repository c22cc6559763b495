/- The small case of layer 13 comes out right. -/
import Derived.Test.YtnalafhepnfggaaDoorSerialW
import Derived.Great.BuildSlice
import Derived.Deep.WholeRow
namespace Go.Proofs.YtnalafhepnfggaaDoor
open Go.RowKit
set_option linter.unusedVariables false
set_option linter.unusedSimpArgs false

theorem wp_gen13 {P : Program} {s : Code} {Q : Exit → Act → World → Prop} {a : Act} {w : World} {R : World → Prop} (h : R w) (k : ∀ w', R w' → s.wp P Q a w') : s.wp P Q a w := k w h
/-- A row that was just made is filled. -/
theorem wpList_store_new {P : Program} {ops : Array Oper} {rest : List Oper} {o : Oper} {a : Act} {w : World} {Q : Exit → Act → World → Prop} (hgd : o.guard = none) (ty : TypeId) (x y : Operand) (ho : o.op = .store ty x y) (hd : o.dst = none)
    (cells : Array Value) (t : TypeId) (old : Array Value) (g : Nat) (hx : a.eval x = .pointer (some ⟨g, 0, none⟩)) (hgw : g = w.heap.size) (hy : a.eval y = .agg cells) (hi : (P.info? ty).map (·.size) = some cells.size)
    (hold : old.size = cells.size) (h1 : cells.all (·.oneCell') = true)
    (h : wpList P ops Q rest a (w.alloc (.cells cells t))) : wpList P ops Q (o :: rest) a (w.alloc (.cells old t)) := by
  subst hgw
  refine wpList_store_row hgd ty x y ho w.heap.size cells hx hy t old (by show (w.heap.push _)[w.heap.size]? = _; simp) hi hold h1 ?_
  rw [World.setRow_alloc_new, hd]
  exact h
def ba0 : ByteArray := ⟨#[]⟩
def six0 : List Nat := [0, 0, 0, 0, 0, 0, 0, 0]
def su1 (a : Nat) : UrlS := ⟨⟨#[97]⟩, ⟨#[]⟩, ⟨#[]⟩, ⟨0, ⟨#[]⟩, 0, [0, 0, 0, 0, 0, 0, 0, 0]⟩, false, 0, false, ⟨#[]⟩, some ⟨a, 0, none⟩, 2, [⟨#[]⟩, ⟨#[98]⟩], false, ⟨#[]⟩, false, ⟨#[]⟩⟩
def su2 (a : Nat) : UrlS := ⟨⟨#[104, 116, 116, 112]⟩, ⟨#[117]⟩, ⟨#[112]⟩, ⟨2, ⟨#[104]⟩, 0, [0, 0, 0, 0, 0, 0, 0, 0]⟩, true, 81, false, ⟨#[]⟩, some ⟨a, 0, none⟩, 2, [⟨#[120]⟩, ⟨#[]⟩], true, ⟨#[]⟩, true, ⟨#[102]⟩⟩
def su3 (a : Nat) : UrlS := ⟨⟨#[100, 97, 116, 97]⟩, ⟨#[]⟩, ⟨#[]⟩, ⟨0, ⟨#[]⟩, 0, [0, 0, 0, 0, 0, 0, 0, 0]⟩, false, 0, true, ⟨#[47, 47, 120]⟩, some ⟨a, 0, none⟩, 1, [⟨#[121]⟩], false, ⟨#[]⟩, false, ⟨#[]⟩⟩
def su4 (a : Nat) : UrlS := ⟨⟨#[102, 105, 108, 101]⟩, ⟨#[]⟩, ⟨#[]⟩, ⟨1, ⟨#[]⟩, 0, [0, 0, 0, 0, 0, 0, 0, 0]⟩, false, 0, false, ⟨#[]⟩, some ⟨a, 0, none⟩, 1, [⟨#[]⟩], false, ⟨#[]⟩, false, ⟨#[]⟩⟩
def su5 : UrlS := ⟨⟨#[97]⟩, ⟨#[]⟩, ⟨#[112]⟩, ⟨4, ⟨#[]⟩, 0, [0, 0, 0, 0, 0, 0, 0, 0]⟩, false, 0, false, ⟨#[]⟩, none, 0, [], false, ⟨#[]⟩, false, ⟨#[]⟩⟩
theorem build_su1 (a : Nat) : Tryd.prog.built 31 [(0, .string ⟨#[97]⟩), (8, .slice (some ⟨a, 0, none⟩) 2 2)] = some (urlC (su1 a)) := by kernel_rfl
theorem build_su2 (a : Nat) : Tryd.prog.built 31 [(0, .string ⟨#[104, 116, 116, 112]⟩), (1, .string ⟨#[117]⟩), (2, .string ⟨#[112]⟩), (3, .agg (hostC (su2 0).host)), (4, .bool true), (5, .int .i64 81), (8, .slice (some ⟨a, 0, none⟩) 2 2), (9, .bool true), (11, .bool true), (12, .string ⟨#[102]⟩)] = some (urlC (su2 a)) := by kernel_rfl
theorem build_su3 (a : Nat) : Tryd.prog.built 31 [(0, .string ⟨#[100, 97, 116, 97]⟩), (6, .bool true), (7, .string ⟨#[47, 47, 120]⟩), (8, .slice (some ⟨a, 0, none⟩) 1 1)] = some (urlC (su3 a)) := by kernel_rfl
theorem build_su4 (a : Nat) : Tryd.prog.built 31 [(0, .string ⟨#[102, 105, 108, 101]⟩), (3, .agg (hostC (su4 0).host)), (8, .slice (some ⟨a, 0, none⟩) 1 1)] = some (urlC (su4 a)) := by kernel_rfl
theorem build_su5 : Tryd.prog.built 31 [(0, .string ⟨#[97]⟩), (2, .string ⟨#[112]⟩), (3, .agg (hostC su5.host))] = some (urlC su5) := by kernel_rfl
theorem build_sh2 : Tryd.prog.built 29 [(0, .int .i64 2), (1, .string ⟨#[104]⟩)] = some (hostC (su2 0).host) := by kernel_rfl
theorem build_sh4 : Tryd.prog.built 29 [(0, .int .i64 1)] = some (hostC (su4 0).host) := by kernel_rfl
theorem build_sh5 : Tryd.prog.built 29 [(0, .int .i64 4)] = some (hostC su5.host) := by kernel_rfl
theorem urlC_cells (u : UrlS) : (urlC u).all (·.oneCell') = true := by kernel_rfl
theorem sixL0 : sixL [0, 0, 0, 0, 0, 0, 0, 0] = [58, 58] := by decide
theorem itoa81 : Lib.itoa 81 = [56, 49] := by unfold Lib.itoa; rw [if_neg (by decide), show (81 : Int).toNat = 81 from rfl, Lib.decDigits_two (by decide) (by decide)]; decide
theorem bytes_eq {t : ByteArray} {l : List UInt8} (h : t.toList = l) : t = ⟨l.toArray⟩ := by
  obtain ⟨⟨m⟩⟩ := t
  have : m = l := (toList_mk m).symm.trans h
  rw [this]
theorem text1 (a : Nat) : writeX (su1 a) true = [97, 58, 47, 46, 47, 47, 98] := by simp [writeX, aheadX, su1, dotB, firstE, optB, pathX, pathT]
theorem text2 (a : Nat) : writeX (su2 a) true = [104, 116, 116, 112, 58, 47, 47, 117, 58, 112, 64, 104, 58, 56, 49, 47, 120, 47, 63, 35, 102] := by simp [writeX, aheadX, su2, whoL, hostL, portL, optB, pathX, pathT, toList_mk, itoa81]
theorem text2n (a : Nat) : writeX (su2 a) false = [104, 116, 116, 112, 58, 47, 47, 117, 58, 112, 64, 104, 58, 56, 49, 47, 120, 47, 63] := by simp [writeX, aheadX, su2, whoL, hostL, portL, optB, pathX, pathT, toList_mk, itoa81]
theorem text3 (a : Nat) : writeX (su3 a) true = [100, 97, 116, 97, 58, 47, 47, 120] := by simp [writeX, aheadX, su3, dotB, optB, pathX]
theorem text4 (a : Nat) : writeX (su4 a) true = [102, 105, 108, 101, 58, 47, 47, 47] := by simp [writeX, aheadX, su4, whoL, hostL, portL, optB, pathX, pathT]
theorem text5 : writeX su5 true = [97, 58, 47, 47, 58, 112, 64, 91, 58, 58, 93] := by simp [writeX, aheadX, su5, whoL, hostL, portL, optB, pathX, pathT, toList_mk, sixL0]
theorem path2 (a : Nat) : pathX (su2 a) = [47, 120, 47] := by simp [pathX, su2, pathT]
theorem path5 : pathX su5 = [] := by simp [pathX, su5, pathT]
theorem six_ok : Six [0, 0, 0, 0, 0, 0, 0, 0] := ⟨rfl, by decide⟩
theorem fit1 (a : Nat) : UrlFit (su1 a) := ⟨by dsimp only [su1]; decide, by dsimp only [su1]; decide, by dsimp only [su1]; decide, by dsimp only [su1]; decide, by dsimp only [su1]; decide, by dsimp only [su1]; decide, by dsimp only [su1]; decide, by simp [su1, pathT], by dsimp only [su1]; decide, by dsimp only [su1]; decide, ⟨by dsimp only [su1]; decide, six_ok, by dsimp only [su1]; decide⟩⟩
theorem fit2 (a : Nat) : UrlFit (su2 a) := ⟨by dsimp only [su2]; decide, by dsimp only [su2]; decide, by dsimp only [su2]; decide, by dsimp only [su2]; decide, by dsimp only [su2]; decide, by dsimp only [su2]; decide, by dsimp only [su2]; decide, by simp [su2, pathT], by dsimp only [su2]; decide, by dsimp only [su2]; decide, ⟨by dsimp only [su2]; decide, six_ok, by dsimp only [su2]; decide⟩⟩
theorem fit3 (a : Nat) : UrlFit (su3 a) := ⟨by dsimp only [su3]; decide, by dsimp only [su3]; decide, by dsimp only [su3]; decide, by dsimp only [su3]; decide, by dsimp only [su3]; decide, by dsimp only [su3]; decide, by dsimp only [su3]; decide, by simp [su3, pathT], by dsimp only [su3]; decide, by dsimp only [su3]; decide, ⟨by dsimp only [su3]; decide, six_ok, by dsimp only [su3]; decide⟩⟩
theorem fit4 (a : Nat) : UrlFit (su4 a) := ⟨by dsimp only [su4]; decide, by dsimp only [su4]; decide, by dsimp only [su4]; decide, by dsimp only [su4]; decide, by dsimp only [su4]; decide, by dsimp only [su4]; decide, by dsimp only [su4]; decide, by simp [su4, pathT], by dsimp only [su4]; decide, by dsimp only [su4]; decide, ⟨by dsimp only [su4]; decide, six_ok, by dsimp only [su4]; decide⟩⟩
theorem fit5 : UrlFit su5 := ⟨by decide, by decide, by decide, by decide, by decide, by decide, by decide, by simp [su5, pathT], by decide, by decide, ⟨by decide, six_ok, by decide⟩⟩
theorem heap_new {w : World} {o : Obj} {i : Nat} (h : i = w.heap.size) : (w.alloc o).heap[i]? = some o := by subst h; exact heap_alloc_new w o
theorem heap_old {w : World} {o p : Obj} {i : Nat} (hi : i < w.heap.size) (h : w.heap[i]? = some p) : (w.alloc o).heap[i]? = some p := by
  have : (w.heap.push o)[i]? = some p := by rw [Array.getElem?_push_lt hi]; rw [← h]; simp [hi]
  exact this
/-- The world behind the five literals. -/
structure Sm (w wx : World) : Prop where
  below : Below w.heap.size w wx
  size : w.heap.size + 9 ≤ wx.heap.size
  b1 : wx.heap[w.heap.size + 1]? = some (.cells (urlC (su1 w.heap.size)) 31 (0, 0))
  b2 : wx.heap[w.heap.size + 1 + 1 + 1]? = some (.cells (urlC (su2 (w.heap.size + 1 + 1))) 31 (0, 0))
  b3 : wx.heap[w.heap.size + 1 + 1 + 1 + 1 + 1]? = some (.cells (urlC (su3 (w.heap.size + 1 + 1 + 1 + 1))) 31 (0, 0))
  b4 : wx.heap[w.heap.size + 1 + 1 + 1 + 1 + 1 + 1 + 1]? = some (.cells (urlC (su4 (w.heap.size + 1 + 1 + 1 + 1 + 1 + 1))) 31 (0, 0))
  b5 : wx.heap[w.heap.size + 1 + 1 + 1 + 1 + 1 + 1 + 1 + 1]? = some (.cells (urlC su5) 31 (0, 0))
  p1 : PathIn wx (su1 w.heap.size)
  p2 : PathIn wx (su2 (w.heap.size + 1 + 1))
  p3 : PathIn wx (su3 (w.heap.size + 1 + 1 + 1 + 1))
  p4 : PathIn wx (su4 (w.heap.size + 1 + 1 + 1 + 1 + 1 + 1))
theorem Sm.keep {w wx w' : World} (h : Sm w wx) (hb : Below wx.heap.size wx w') : Sm w w' := by
  have hz := h.size
  exact ⟨h.below.next hb, by have := hb.size; omega, (hb.block _ (by omega)).trans h.b1, (hb.block _ (by omega)).trans h.b2, (hb.block _ (by omega)).trans h.b3, (hb.block _ (by omega)).trans h.b4, (hb.block _ (by omega)).trans h.b5,
    h.p1.below hb (Nat.le_refl _), h.p2.below hb (Nat.le_refl _), h.p3.below hb (Nat.le_refl _), h.p4.below hb (Nat.le_refl _)⟩
theorem path5in (w : World) : PathIn w su5 := fun h => absurd h (by decide)
theorem pathIn2 {w : World} {u : UrlS} {g : Nat} {s t : ByteArray} (hp : u.path = [s, t]) (ha : u.pathA = some ⟨g, 0, none⟩) (h0 : w.cell? ⟨g, 0, none⟩ = some (.string s)) (h1 : w.cell? ⟨g, 1, none⟩ = some (.string t)) : PathIn w u := by
  obtain ⟨_, _, _, _, _, _, _, _, _, _, path, _, _, _, _⟩ := u
  dsimp only at hp ha
  subst hp ha
  refine fun _ => ⟨g, 0, rfl, fun i hi => ?_⟩
  match i, hi with
  | 0, _ => exact h0
  | 1, _ => exact h1
  | i + 2, hi => exact absurd hi (by simp)
theorem pathIn1 {w : World} {u : UrlS} {g : Nat} {s : ByteArray} (hp : u.path = [s]) (ha : u.pathA = some ⟨g, 0, none⟩) (h0 : w.cell? ⟨g, 0, none⟩ = some (.string s)) : PathIn w u := by
  obtain ⟨_, _, _, _, _, _, _, _, _, _, path, _, _, _, _⟩ := u
  dsimp only at hp ha
  subst hp ha
  refine fun _ => ⟨g, 0, rfl, fun i hi => ?_⟩
  match i, hi with
  | 0, _ => exact h0
  | i + 1, hi => exact absurd hi (by simp)
end Go.Proofs.YtnalafhepnfggaaDoor
