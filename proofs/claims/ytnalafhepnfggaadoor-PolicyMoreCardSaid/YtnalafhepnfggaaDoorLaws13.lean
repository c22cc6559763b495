/- What the laws of layer 13 share. -/
import Derived.Test.YtnalafhepnfggaaDoorSmall13
import Derived.Test.YtnalafhepnfggaaDoorFew
import Derived.Test.YtnalafhepnfggaaDoorUrlOpen
namespace Go.Proofs.YtnalafhepnfggaaDoor
open Go.RowKit
set_option linter.unusedVariables false

/-- The address in its box, at the law's first block. -/
structure UIn (w wx : World) (u : UrlS) : Prop where
  below : Below w.heap.size w wx
  blk : wx.heap[w.heap.size]? = some (.cells (urlC u) 31 (0, 0))
  size : w.heap.size + 1 ≤ wx.heap.size
theorem UIn.start (w : World) (u : UrlS) : UIn w (w.alloc (.cells (urlC u) 31)) u := ⟨(Below.refl _ _).alloc (Nat.le_refl _) _, heap_new rfl, by simp⟩
theorem UIn.keep {w wx w' : World} {u : UrlS} (h : UIn w wx u) (hb : Below wx.heap.size wx w') : UIn w w' u :=
  ⟨h.below.next hb, (hb.block _ h.size).trans h.blk, by have := hb.size; have := h.size; omega⟩
theorem UIn.alloc {w wx : World} {u : UrlS} (h : UIn w wx u) (o : Obj) : UIn w (wx.alloc o) u := h.keep ((Below.refl _ _).alloc (Nat.le_refl _) o)
theorem UIn.box {w wx : World} {u : UrlS} (h : UIn w wx u) (i : Nat) : wx.cell? ⟨w.heap.size, i, none⟩ = (urlC u)[i]? := cell_of_row _ _ _ _ _ _ h.blk
theorem few_in (u : UrlS) (w wx : World) (hu : UrlIn w u) (hI : UIn w wx u) : Calls Tryd.prog 7 #[.agg (urlC u)] wx (RetFew wx u) :=
  few_any u wx (hu.path.below hI.below (Nat.le_refl _)) hu.n hu.scheme hu.user hu.pass hu.flat hu.query hu.frag hu.host.name hu.each
theorem fit_of {w : World} {u : UrlS} (hu : UrlIn w u) (hf : FewP u) : UrlFit u :=
  ⟨Nat.le_trans hf.scheme (by decide), Nat.le_trans hf.user (by decide), Nat.le_trans hf.pass (by decide), Nat.le_trans hf.name (by decide), Nat.le_trans hf.flat (by decide), Nat.le_trans hf.query (by decide), Nat.le_trans hf.frag (by decide), Nat.le_trans hf.path (by decide), hu.n, hu.port, hu.host⟩
theorem write_in (u : UrlS) (f : Bool) (w wx : World) (hu : UrlIn w u) (hf : FewP u) (ht : Tabs w) (hI : UIn w wx u) : Calls Tryd.prog 22 #[.agg (urlC u), .bool f] wx (RetS wx (writeX u f)) :=
  write_any u f wx (hu.path.below hI.below (Nat.le_refl _)) (fit_of hu hf) (ht.next hI.below)
theorem path_in (u : UrlS) (w wx : World) (hu : UrlIn w u) (hf : FewP u) (hI : UIn w wx u) : Calls Tryd.prog 37 #[.agg (urlC u)] wx (RetS wx (pathX u)) :=
  path_any u wx (hu.path.below hI.below (Nat.le_refl _)) (Nat.le_trans hf.path (by decide)) hu.n
theorem UrlIn.noQuery {w : World} {u : UrlS} (h : UrlIn w u) : UrlIn w { u with hasQuery := false } := ⟨h.path, h.n, h.each, h.scheme, h.user, h.pass, h.flat, h.query, h.frag, h.port, h.host, h.kind, h.nilC⟩
theorem toList_inj {s t : ByteArray} (h : s.toList = t.toList) : s = t := (bytes_eq h).trans (bytes_eq rfl).symm
theorem first_byte (t : ByteArray) (h : 0 < t.size) : t.toList = t[0] :: t.toList.drop 1 := by
  have := drop_cons t 0 h
  rwa [List.drop_zero] at this
end Go.Proofs.YtnalafhepnfggaaDoor
