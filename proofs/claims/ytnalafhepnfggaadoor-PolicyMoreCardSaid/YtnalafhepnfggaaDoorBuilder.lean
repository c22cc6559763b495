/- The contracts of strings.Builder: a builder that the call has made itself. -/
import Derived.Test.YtnalafhepnfggaaDoorBase
import Derived.Test.YtnalafhepnfggaaDoorShelf
import Derived.Lib.Builder
import Derived.Lib.AppendStr
import Derived.Laws.Externs
namespace Go.Proofs.YtnalafhepnfggaaDoor
open Go.RowKit
set_option linter.unusedVariables false

/-- Block b is a builder of the call's own that holds these bytes. -/
def Bld (w : World) (B b : Nat) (l : List UInt8) : Prop := Lib.IsBuilder 64 5 B b (Lib.byteCells l) w
theorem bldSize : (Tryd.prog.info? 64).map (·.size) = some 2 := by kernel_rfl
theorem bldLies : liesAt Tryd.prog Tryd.prog.depth 64 (2 / Tryd.prog.cellsOf 64) 0 64 1 = true := by kernel_rfl

set_option maxHeartbeats 400000 in
theorem copyCheck_any (B b : Nat) (l : List UInt8) (w : World) (h : Bld w B b l) :
    Calls Tryd.prog 49 #[.pointer (some ⟨b, 0, none⟩)] w fun e w' => e = .returned (.tuple #[]) ∧ (Lib.BuilderAt 64 5 B b (.pointer (some ⟨b, 0, none⟩)) (Lib.byteCells l) w' ∧ Below B w w') := by
  obtain ⟨j, hj, hjs⟩ := Option.map_eq_some_iff.1 bldSize
  rcases h with h | h
  · have c0 := h.cell0
    have sh := h.shape
    have fz := h.frozen0
    have k1 := Lib.run_to_unsafe (P := Tryd.prog) w ⟨b, 0, none⟩ Tryd.underlying62 Tryd.underlying95 hj (by rw [hjs]; decide) sh (Nat.zero_lt_succ 1)
    have k2 := fun w => run_callFunc_extern (P := Tryd.prog) (w := w) (args := #[.pointer (some ⟨b, 0, none⟩)]) Tryd.func70 (by kernel_rfl) (by kernel_rfl) (by kernel_rfl) (e := Extern.AbiNoEscape.same) (by kernel_rfl)
    have k3 := Lib.run_from_unsafe (P := Tryd.prog) w ⟨b, 0, none⟩ Tryd.underlying95 Tryd.underlying62 hj sh bldLies
    have k4 := Lib.run_noEscape (P := Tryd.prog) w (.pointer (some ⟨b, 0, none⟩))
    go_enter Tryd.func49, Tryd.ntmps49
    go_wp2
    go_end0
    exact ⟨rfl, h.used _, (Below.refl B w).setCell (p := ⟨b, 0, none⟩) h.1 _⟩
  · have c0 := h.cell0
    have k1 := Lib.run_neq_ptr_same (P := Tryd.prog) w ⟨b, 0, none⟩ Tryd.underlying62 hj
    go_enter Tryd.func49, Tryd.ntmps49
    go_wp2
    go_end0
    exact ⟨rfl, h, Below.refl B _⟩
theorem bldInfo : (Tryd.prog.info? 5).map (fun i => (i.zero, i.size, i.bytes)) = some (some (.int .u8 0), 1, 1) := by kernel_rfl
theorem owned_slice {w : World} {B : Nat} {e : TypeId} {v : Value} {n : Nat} {xs : List Value} (h : w.ownsRow B e 1 v n xs) : ∃ a k c, v = .slice a k c := by
  rcases h.2 with ⟨hv, _⟩ | ⟨g, cap, cur, hv, _⟩
  · exact ⟨_, _, _, hv⟩
  · exact ⟨_, _, _, hv⟩
theorem bld_facts {w : World} {b : Nat} {p v : Value} {T : TypeId} (h : w.heap[b]? = some (.cells #[p, v] T (0, 0))) : w.cell? ⟨b, 1, none⟩ = some v ∧ w.frozen? ⟨b, 1, none⟩ = false :=
  ⟨by rw [Lib.cell_of_heap h]; rfl, Lib.frozen_of_heap h 1⟩
theorem bldNe : (64 : TypeId) ≠ 5 := by decide
theorem heap_lt {w : World} {b : Nat} {o : Obj} (h : w.heap[b]? = some o) : b < w.heap.size := (Array.getElem?_eq_some_iff.1 h).1
theorem byteCells_append (l m : List UInt8) : Lib.byteCells (l ++ m) = Lib.byteCells l ++ Lib.byteCells m := by simp [Lib.byteCells]
theorem strCells_eq (s : ByteArray) : Lib.strCells s = Lib.byteCells s.toList := by simp [Lib.strCells, Lib.byteCells, ByteArray.toList_eq]

set_option maxHeartbeats 400000 in
theorem writeByte_any (B b : Nat) (l : List UInt8) (c : UInt8) (ci : Int) (hci : ci = (c.toNat : Int)) (w : World) (h : Bld w B b l) (hl : l.length ≤ 1099511627776) (hB : B ≤ w.heap.size) :
    Calls Tryd.prog 34 #[.pointer (some ⟨b, 0, none⟩), .int .u8 ci] w fun e w' => e = .returned .nilIface ∧ Bld w' B b (l ++ [c]) ∧ Below B w w' := by
  subst hci
  obtain ⟨i0, hi, hz0, hz1, hz2⟩ := info_parts bldInfo
  go_enter Tryd.func34, Tryd.ntmps34
  go_wp2_with fail
  refine (copyCheck_any B b l _ h).mono ?_
  rintro e w1 ⟨rfl, ⟨hBb, v, hblk, hown, hne⟩, hb⟩
  have hs := hb.size
  have hlt := heap_lt hblk
  have c1 : w1.cell? ⟨b, 1, none⟩ = some v := by rw [Lib.cell_of_heap hblk]; rfl
  rw [Lib.byteCells_length] at hown
  go_wp2_with (at_builtin; refine wpList_append_own _ rfl _ _ 56 rfl B 5 i0 (.int .u8 0) 1 1 Tryd.underlying56 hi hz0 hz1 hz2 rfl (by decide) _ _ _ rfl (hown.alloc _) ⟨w1.heap.size, 0, none⟩ 1 1 [.int .u8 (c.toNat : Int)] rfl rfl (cell_box w1 _ _) (by intro u hu; simp at hu; subst hu; rfl) (by unfold maxLen; omega) (by omega) (by simp; omega) ?_; intro v' w2 hown' hgrow _; obtain ⟨a2, k2, c2, rfl⟩ := owned_slice hown'; have hblk2 := (hgrow.block b (by simp; omega) (fun e => hne e.symm)).trans ((Lib.alloc_old w1 _ b hlt).trans hblk); obtain ⟨d1, f1⟩ := bld_facts hblk2)
  go_wp2_with fail
  go_ret
  refine ⟨rfl, Or.inr ?_, ?_⟩
  · exact Lib.BuilderAt.put hBb hblk2 (by rw [byteCells_append, List.length_append, Lib.byteCells_length]; exact hown') bldNe
  · exact ((hb.alloc (by omega) _).grown hgrow (by simp; omega) (fun k hk => (hown.lt k hk).1)).setCell (p := ⟨b, 1, none⟩) hBb _

set_option maxHeartbeats 400000 in
theorem writeString_any (B b : Nat) (l : List UInt8) (s : ByteArray) (w : World) (h : Bld w B b l) (hl : l.length ≤ 1099511627776) (hsz : s.size ≤ 1099511627776) (hB : B ≤ w.heap.size) :
    Calls Tryd.prog 33 #[.pointer (some ⟨b, 0, none⟩), .string s] w fun e w' => e = .returned (.tuple #[.int .i64 s.size, .nilIface]) ∧ Bld w' B b (l ++ s.toList) ∧ Below B w w' := by
  obtain ⟨i0, hi, hz0, hz1, hz2⟩ := info_parts bldInfo
  go_enter Tryd.func33, Tryd.ntmps33
  go_wp2_with fail
  refine (copyCheck_any B b l _ h).mono ?_
  rintro e w1 ⟨rfl, ⟨hBb, v, hblk, hown, hne⟩, hb⟩
  have hs := hb.size
  have hlt := heap_lt hblk
  have c1 : w1.cell? ⟨b, 1, none⟩ = some v := by rw [Lib.cell_of_heap hblk]; rfl
  rw [Lib.byteCells_length] at hown
  go_wp2_with (at_builtin; refine Lib.wpList_append_own_string _ rfl _ _ 56 9 rfl B 5 i0 Tryd.underlying56 Tryd.underlying9 hi hz0 hz1 hz2 _ _ _ rfl hown s rfl (by unfold maxLen; omega) (by omega) (by omega) ?_; intro v' w2 hown' hgrow _; obtain ⟨a2, k2, c2, rfl⟩ := owned_slice hown'; have hblk2 := (hgrow.block b hlt (fun e => hne e.symm)).trans hblk; obtain ⟨d1, f1⟩ := bld_facts hblk2)
  go_wp2_with fail
  go_ret2
  refine ⟨rfl, Or.inr ?_, ?_⟩
  · exact Lib.BuilderAt.put hBb hblk2 (by rw [byteCells_append, List.length_append, Lib.byteCells_length, Lib.byteCells_length, ← strCells_eq, size_toList]; exact hown') bldNe
  · exact (hb.grown hgrow (by omega) (fun k hk => (hown.lt k hk).1)).setCell (p := ⟨b, 1, none⟩) hBb _

theorem builderString_any (B b : Nat) (l : List UInt8) (w : World) (h : Bld w B b l) (hB : B ≤ w.heap.size) :
    Calls Tryd.prog 38 #[.pointer (some ⟨b, 0, none⟩)] w fun e w' => ∃ t : ByteArray, e = .returned (.string t) ∧ Hid (t.toList = l) ∧ Below B w w' :=
  (Tryd.Builder_String_any B b l w h hB).mono fun e w' ⟨he, hb⟩ => ⟨_, he, toList_mk l, hb⟩
theorem Bld.fresh (w : World) : Bld (w.alloc (.cells #[.pointer none, .slice none 0 0] 64)) w.heap.size w.heap.size [] := Lib.fresh_isBuilder _ _ w
end Go.Proofs.YtnalafhepnfggaaDoor
