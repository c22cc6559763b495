/- What the laws of layer 10 share: equality of addresses, rows that are stored and read again, the small case. -/
import Derived.Test.YtgkbdcdfpoaifaaDoorSixE
import Derived.Laws.StructEq
import Derived.Laws.Tables
import Derived.Deep.WholeRow
namespace Go.Proofs.YtgkbdcdfpoaifaaDoor
open Go.RowKit
set_option linter.unusedVariables false
set_option linter.unusedSimpArgs false

theorem all_range_nat : ∀ (xs ys : List Nat), xs.length = ys.length → ((List.range xs.length).all fun i => decide (xs.getD i 0 = ys.getD i 0)) = decide (xs = ys)
  | [], [], _ => rfl
  | x :: xs, y :: ys, h => by
    have ih := all_range_nat xs ys (by simpa using h)
    rw [List.length_cons, List.range_succ_eq_map, List.all_cons, List.all_map]
    simp only [List.getD_cons_zero, Function.comp_def, List.getD_cons_succ, ih]
    rw [Bool.eq_iff_iff]; simp
  | [], _ :: _, h => by simp at h
  | _ :: _, [], h => by simp at h
theorem run_equalIn_six (w : World) (xs ys : List Nat) (hx : xs.length = 8) (hy : ys.length = 8) :
    (Op.equalIn 10000 23 (.agg (sixCells xs)) (.agg (sixCells ys))).run Tryd.prog w = .ok (decide (xs = ys)) w := by
  have he := Tryd.underlying22
  have hsz : ∀ w, (sizeOf 22).run Tryd.prog w = .ok 1 w := fun w => by simp [Tryd.sizeOf22]
  rw [← all_range_nat xs ys (hx.trans hy.symm), hx, List.range_eq_range', show (10000 : Nat) = 9998 + 2 from rfl, Op.equalIn]
  simp only [Sem.run_bind, run_underlying Tryd.underlying23, Result.andThen_ok, hsz, Std.Legacy.Range.forIn_eq_forIn_range', Std.Legacy.Range.size, Nat.sub_zero, Nat.add_sub_cancel, Nat.div_one]
  have hl : ∀ i ∈ List.range' 0 8 1, i < 8 := fun i hi => by simpa using (List.mem_range'_1.1 hi).2
  generalize List.range' 0 8 1 = l at hl ⊢
  induction l with
  | nil => simp
  | cons i l ih =>
    have hi : i < 8 := hl i (by simp)
    have px : (part 22 (sixCells xs) (i * 1)).run Tryd.prog w = .ok (.int .u16 (xs.getD i 0 : Nat)) w := by
      simp [part, isAgg, run_underlying he, sixCells, List.getD, List.getElem?_eq_getElem (show i < xs.length by omega)]
    have py : (part 22 (sixCells ys) (i * 1)).run Tryd.prog w = .ok (.int .u16 (ys.getD i 0 : Nat)) w := by
      simp [part, isAgg, run_underlying he, sixCells, List.getD, List.getElem?_eq_getElem (show i < ys.length by omega)]
    have pe : (Op.equalIn (9998 + 1) 22 (.int .u16 (xs.getD i 0 : Nat)) (.int .u16 (ys.getD i 0 : Nat))).run Tryd.prog w = .ok (decide (xs.getD i 0 = ys.getD i 0)) w := by
      rw [run_equalIn_int w 9998 22 .u16 .u16 _ _ he]
      congr 1
      rw [Bool.eq_iff_iff]
      simp
      omega
    simp only [List.forIn_cons, Sem.run_bind, px, py, pe, Result.andThen_ok, List.all_cons]
    cases hb : decide (xs.getD i 0 = ys.getD i 0)
    · simp
    · simp only [Bool.not_true, Bool.false_eq_true, if_false, Sem.run_pure, Result.andThen_ok, Bool.true_and]
      exact ih fun j hj => hl j (by simp [hj])
theorem eqGuard_six : Tryd.prog.eqGuardType Tryd.prog.depth 23 = false := by kernel_rfl
/-- A row of pieces that was just made is filled. -/
theorem wpList_store_six {ops : Array Oper} {rest : List Oper} {o : Oper} {a : Act} {w : World} {Q : Exit → Act → World → Prop} (hgd : o.guard = none) (x y : Operand) (ho : o.op = .store 23 x y) (hd : o.dst = none)
    (l : List Nat) (hl : l.length = 8) (old : Array Value) (hold : old.size = 8) (hx : a.eval x = .pointer (some ⟨w.heap.size, 0, none⟩)) (hy : a.eval y = .agg (sixCells l))
    (h : wpList Tryd.prog ops Q rest a (w.alloc (.cells (sixCells l) 23))) : wpList Tryd.prog ops Q (o :: rest) a (w.alloc (.cells old 23)) := by
  have hs : (sixCells l).size = 8 := by simp [sixCells, hl]
  refine wpList_store_row hgd 23 x y ho w.heap.size (sixCells l) hx hy 23 old (heap_alloc_new w _) (by rw [hs]; kernel_rfl) (by rw [hold, hs]) (by simp [sixCells, Value.oneCell']) ?_
  rw [World.setRow_alloc_new, hd]
  exact h
/-- A row of pieces is read. -/
theorem wpList_load_six {ops : Array Oper} {rest : List Oper} {o : Oper} {a : Act} {w : World} {Q : Exit → Act → World → Prop} (hgd : o.guard = none) (x : Operand) (ho : o.op = .load 23 x)
    {g : Nat} {l : List Nat} (hl : l.length = 8) (hg : w.heap[g]? = some (.cells (sixCells l) 23)) (hx : a.eval x = .pointer (some ⟨g, 0, none⟩))
    (h : wpList Tryd.prog ops Q rest (a.put o.dst (.agg (sixCells l))) w) : wpList Tryd.prog ops Q (o :: rest) a w :=
  wpList_load_row hgd 23 x ho g hx 23 (sixCells l) _ _ hg Tryd.underlying23 rfl (by rw [show (sixCells l).size = 8 by simp [sixCells, hl]]; kernel_rfl) h
theorem row_keep {w w' : World} {g : Nat} {o : Obj} (h : w.heap[g]? = some o) (hb : Below w.heap.size w w') : w'.heap[g]? = some o := (hb.block g (Array.getElem?_eq_some_iff.1 h).1).trans h
theorem row_old {w : World} {g : Nat} {o p : Obj} (h : w.heap[g]? = some o) : (w.alloc p).heap[g]? = some o := row_keep h ((Below.refl _ _).alloc (Nat.le_refl _) _)
def six0 : List Nat := [0, 0, 0, 0, 0, 0, 0, 0]
theorem six0_len : six0.length = 8 := rfl
theorem sixP_len {l : List UInt8} {x : List Nat} (h : sixP l = some x) : x.length = 8 := by
  unfold sixP at h
  split at h
  · split at h
    · cases h
    · split at h
      · cases h
      · split at h
        · cases h; simp; omega
        · cases h
  · split at h
    · cases h
    · split at h
      · cases h; assumption
      · cases h
/-- Parse's answer, in the spelling of the laws' walks. -/
theorem parse10 {s : ByteArray} {o : Option (List Nat)} {l : List Nat} {b : Bool} (w : World) (hm : ML w) (hs : s.size ≤ 1000000) (h : sixP s.toList = o) (hl : o.getD six0 = l) (hb : o.isSome = b) :
    Calls Tryd.prog 10 #[.string s] w fun e w' => e = .returned (.tuple #[.agg (sixCells l), .bool b]) ∧ Below w.heap.size w w' := by
  subst h hl hb; exact sixParse_any s w hm hs
theorem parse10_no {s : ByteArray} (w : World) (hm : ML w) (hs : s.size ≤ 1000000) (h : sixP s.toList = none) :
    Calls Tryd.prog 10 #[.string s] w fun e w' => e = .returned (.tuple #[.agg (sixCells six0), .bool false]) ∧ Below w.heap.size w w' := parse10 w hm hs h rfl rfl
theorem parse10_yes {s : ByteArray} {l : List Nat} (w : World) (hm : ML w) (hs : s.size ≤ 1000000) (h : sixP s.toList = some l) :
    Calls Tryd.prog 10 #[.string s] w fun e w' => e = .returned (.tuple #[.agg (sixCells l), .bool true]) ∧ Below w.heap.size w w' := parse10 w hm hs h rfl rfl
theorem bytes_eq10 {t : ByteArray} {l : List UInt8} (h : t.toList = l) : t = ⟨l.toArray⟩ := eq_of_toList (h.trans (toList_mk l).symm)
theorem sp10_0 : sixP [58, 58, 49, 46, 50, 46, 51, 46, 52] = some [0, 0, 0, 0, 0, 0, 258, 772] := by decide +kernel
theorem sp10_1 : sixP [49, 58, 50, 58, 51, 58, 52, 58, 53, 58, 54, 58, 55, 58, 58] = some [1, 2, 3, 4, 5, 6, 7, 0] := by decide +kernel
theorem sp10_2 : sixP [49, 58, 58, 50, 58, 51, 58, 52, 58, 53, 58, 54, 58, 55, 58, 56] = none := by decide +kernel
theorem sp10_3 : sixP [49, 58, 50, 58, 51, 58, 52, 58, 53, 58, 54, 58, 55, 58] = none := by decide +kernel
theorem sp10_4 : sixP [58, 58, 49, 46, 50, 46, 51, 46, 48, 52] = none := by decide +kernel
theorem sp10_5 : sixP [58, 58, 58, 49] = none := by decide +kernel
theorem sp10_6 : sixP [58, 58] = some [0, 0, 0, 0, 0, 0, 0, 0] := by decide +kernel
theorem sp10_7 : sixP [49, 50, 51, 52, 53, 58, 58] = none := by decide +kernel
theorem sp10_8 : sixP [49, 46, 50, 46, 51, 46, 52, 58, 58] = none := by decide +kernel
theorem sp10_9 : sixP [] = none := by decide +kernel
theorem sw10_0 : sixL [1, 0, 0, 2, 0, 0, 0, 3] = [49, 58, 48, 58, 48, 58, 50, 58, 58, 51] := by decide +kernel
theorem so10_0 : Six [1, 0, 0, 2, 0, 0, 0, 3] := ⟨rfl, by decide⟩
theorem sw10_1 : sixL [0, 0, 0, 0, 0, 0, 0, 0] = [58, 58] := by decide +kernel
theorem so10_1 : Six [0, 0, 0, 0, 0, 0, 0, 0] := ⟨rfl, by decide⟩
theorem sw10_2 : sixL [1, 0, 2, 3, 4, 5, 6, 171] = [49, 58, 48, 58, 50, 58, 51, 58, 52, 58, 53, 58, 54, 58, 97, 98] := by decide +kernel
theorem so10_2 : Six [1, 0, 2, 3, 4, 5, 6, 171] := ⟨rfl, by decide⟩
theorem sv10_0 : sixCells [0, 0, 0, 0, 0, 0, 258, 772] = #[.int .u16 0, .int .u16 0, .int .u16 0, .int .u16 0, .int .u16 0, .int .u16 0, .int .u16 258, .int .u16 772] := rfl
theorem sv10_1 : sixCells [1, 2, 3, 4, 5, 6, 7, 0] = #[.int .u16 1, .int .u16 2, .int .u16 3, .int .u16 4, .int .u16 5, .int .u16 6, .int .u16 7, .int .u16 0] := rfl
theorem sv10_6 : sixCells [0, 0, 0, 0, 0, 0, 0, 0] = #[.int .u16 0, .int .u16 0, .int .u16 0, .int .u16 0, .int .u16 0, .int .u16 0, .int .u16 0, .int .u16 0] := rfl
theorem sv10_z : sixCells six0 = #[.int .u16 0, .int .u16 0, .int .u16 0, .int .u16 0, .int .u16 0, .int .u16 0, .int .u16 0, .int .u16 0] := rfl
theorem sx10_0 : sixCells [1, 0, 0, 2, 0, 0, 0, 3] = #[.int .u16 1, .int .u16 0, .int .u16 0, .int .u16 2, .int .u16 0, .int .u16 0, .int .u16 0, .int .u16 3] := rfl
theorem sx10_1 : sixCells [0, 0, 0, 0, 0, 0, 0, 0] = #[.int .u16 0, .int .u16 0, .int .u16 0, .int .u16 0, .int .u16 0, .int .u16 0, .int .u16 0, .int .u16 0] := rfl
theorem sx10_2 : sixCells [1, 0, 2, 3, 4, 5, 6, 171] = #[.int .u16 1, .int .u16 0, .int .u16 2, .int .u16 3, .int .u16 4, .int .u16 5, .int .u16 6, .int .u16 171] := rfl
theorem swrite10 {l : List Nat} {t : ByteArray} (h : Six l) (ht : t.toList = sixL l) (w : World) (htab : Tabs w) :
    Calls Tryd.prog 12 #[.agg (sixCells l)] w fun e w' => e = .returned (.string t) ∧ Below w.heap.size w w' :=
  (sixWrite_any l h w htab).mono (by rintro e w' ⟨x, rfl, hx, hb⟩; exact ⟨by rw [eq_of_toList (hx.out.trans ht.symm)], hb⟩)
set_option maxRecDepth 100000 in
set_option maxHeartbeats 4000000 in
theorem small10_any (w : World) (hm : ML w) (ht : Tabs w) : Calls Tryd.prog 9 #[] w (RetB w true) := by
  have hB : Below w.heap.size w w := Below.refl _ _
  have hgd := eqGuard_six
  have q0 : ∀ w, (Op.equalIn 10000 23 (.agg (sixCells [0, 0, 0, 0, 0, 0, 258, 772])) (.agg #[.int .u16 0, .int .u16 0, .int .u16 0, .int .u16 0, .int .u16 0, .int .u16 0, .int .u16 258, .int .u16 772])).run Tryd.prog w = .ok true w := fun w => run_equalIn_six w [0, 0, 0, 0, 0, 0, 258, 772] [0, 0, 0, 0, 0, 0, 258, 772] rfl rfl
  have q1 : ∀ w, (Op.equalIn 10000 23 (.agg (sixCells [1, 2, 3, 4, 5, 6, 7, 0])) (.agg #[.int .u16 1, .int .u16 2, .int .u16 3, .int .u16 4, .int .u16 5, .int .u16 6, .int .u16 7, .int .u16 0])).run Tryd.prog w = .ok true w := fun w => run_equalIn_six w [1, 2, 3, 4, 5, 6, 7, 0] [1, 2, 3, 4, 5, 6, 7, 0] rfl rfl
  have q6 : ∀ w, (Op.equalIn 10000 23 (.agg (sixCells [0, 0, 0, 0, 0, 0, 0, 0])) (.agg #[.int .u16 0, .int .u16 0, .int .u16 0, .int .u16 0, .int .u16 0, .int .u16 0, .int .u16 0, .int .u16 0])).run Tryd.prog w = .ok true w := fun w => run_equalIn_six w [0, 0, 0, 0, 0, 0, 0, 0] [0, 0, 0, 0, 0, 0, 0, 0] rfl rfl
  have c0 := Lib.hid (fun w (h : Tabs w) => swrite10 (l := [1, 0, 0, 2, 0, 0, 0, 3]) (t := ⟨#[49, 58, 48, 58, 48, 58, 50, 58, 58, 51]⟩) so10_0 (((toList_mk _).trans sw10_0.symm)) w h)
  rw [sx10_0] at c0
  have c1 := Lib.hid (fun w (h : Tabs w) => swrite10 (l := [0, 0, 0, 0, 0, 0, 0, 0]) (t := ⟨#[58, 58]⟩) so10_1 (((toList_mk _).trans sw10_1.symm)) w h)
  rw [sx10_1] at c1
  have c2 := Lib.hid (fun w (h : Tabs w) => swrite10 (l := [1, 0, 2, 3, 4, 5, 6, 171]) (t := ⟨#[49, 58, 48, 58, 50, 58, 51, 58, 52, 58, 53, 58, 54, 58, 97, 98]⟩) so10_2 (((toList_mk _).trans sw10_2.symm)) w h)
  rw [sx10_2] at c2
  go_enter Tryd.func9, Tryd.ntmps9
  go_wp2_with fail
  refine (parse10_yes (s := ⟨#[58, 58, 49, 46, 50, 46, 51, 46, 52]⟩) _ (hm.next hB) (by decide) ((congrArg sixP (toList_mk _)).trans sp10_0)).mono ?_
  rintro e w0 ⟨rfl, hb⟩
  replace hB := hB.next hb
  clear hb
  go_wp2_with (refine wpList_store_six rfl _ _ rfl rfl [0, 0, 0, 0, 0, 0, 258, 772] rfl _ rfl rfl rfl ?_)
  have hBa : Below w.heap.size w (w0.alloc (.cells (sixCells [0, 0, 0, 0, 0, 0, 258, 772]) 23)) := hB.alloc (by exact hB.size) _
  have k0 := Lib.hid (heap_alloc_new w0 (.cells (sixCells [0, 0, 0, 0, 0, 0, 258, 772]) 23))
  replace hB := hBa
  clear hBa
  refine (parse10_yes (s := ⟨#[49, 58, 50, 58, 51, 58, 52, 58, 53, 58, 54, 58, 55, 58, 58]⟩) _ (hm.next hB) (by decide) ((congrArg sixP (toList_mk _)).trans sp10_1)).mono ?_
  rintro e w1 ⟨rfl, hb⟩
  replace hB := hB.next hb
  replace k0 := Lib.hid (row_keep k0.out hb)
  clear hb
  go_wp2_with (refine wpList_store_six rfl _ _ rfl rfl [1, 2, 3, 4, 5, 6, 7, 0] rfl _ rfl rfl rfl ?_)
  have hBa : Below w.heap.size w (w1.alloc (.cells (sixCells [1, 2, 3, 4, 5, 6, 7, 0]) 23)) := hB.alloc (by exact hB.size) _
  replace k0 := Lib.hid (row_old (p := .cells (sixCells [1, 2, 3, 4, 5, 6, 7, 0]) 23) k0.out)
  have k1 := Lib.hid (heap_alloc_new w1 (.cells (sixCells [1, 2, 3, 4, 5, 6, 7, 0]) 23))
  replace hB := hBa
  clear hBa
  refine (parse10_no (s := ⟨#[49, 58, 58, 50, 58, 51, 58, 52, 58, 53, 58, 54, 58, 55, 58, 56]⟩) _ (hm.next hB) (by decide) ((congrArg sixP (toList_mk _)).trans sp10_2)).mono ?_
  rintro e w2 ⟨rfl, hb⟩
  replace hB := hB.next hb
  replace k0 := Lib.hid (row_keep k0.out hb)
  replace k1 := Lib.hid (row_keep k1.out hb)
  clear hb
  go_wp2_with (refine wpList_store_six rfl _ _ rfl rfl six0 rfl _ rfl rfl rfl ?_)
  have hBa : Below w.heap.size w (w2.alloc (.cells (sixCells six0) 23)) := hB.alloc (by exact hB.size) _
  replace k0 := Lib.hid (row_old (p := .cells (sixCells six0) 23) k0.out)
  replace k1 := Lib.hid (row_old (p := .cells (sixCells six0) 23) k1.out)
  replace hB := hBa
  clear hBa
  refine (parse10_no (s := ⟨#[49, 58, 50, 58, 51, 58, 52, 58, 53, 58, 54, 58, 55, 58]⟩) _ (hm.next hB) (by decide) ((congrArg sixP (toList_mk _)).trans sp10_3)).mono ?_
  rintro e w3 ⟨rfl, hb⟩
  replace hB := hB.next hb
  replace k0 := Lib.hid (row_keep k0.out hb)
  replace k1 := Lib.hid (row_keep k1.out hb)
  clear hb
  go_wp2_with (refine wpList_store_six rfl _ _ rfl rfl six0 rfl _ rfl rfl rfl ?_)
  have hBa : Below w.heap.size w (w3.alloc (.cells (sixCells six0) 23)) := hB.alloc (by exact hB.size) _
  replace k0 := Lib.hid (row_old (p := .cells (sixCells six0) 23) k0.out)
  replace k1 := Lib.hid (row_old (p := .cells (sixCells six0) 23) k1.out)
  replace hB := hBa
  clear hBa
  refine (parse10_no (s := ⟨#[58, 58, 49, 46, 50, 46, 51, 46, 48, 52]⟩) _ (hm.next hB) (by decide) ((congrArg sixP (toList_mk _)).trans sp10_4)).mono ?_
  rintro e w4 ⟨rfl, hb⟩
  replace hB := hB.next hb
  replace k0 := Lib.hid (row_keep k0.out hb)
  replace k1 := Lib.hid (row_keep k1.out hb)
  clear hb
  go_wp2_with (refine wpList_store_six rfl _ _ rfl rfl six0 rfl _ rfl rfl rfl ?_)
  have hBa : Below w.heap.size w (w4.alloc (.cells (sixCells six0) 23)) := hB.alloc (by exact hB.size) _
  replace k0 := Lib.hid (row_old (p := .cells (sixCells six0) 23) k0.out)
  replace k1 := Lib.hid (row_old (p := .cells (sixCells six0) 23) k1.out)
  replace hB := hBa
  clear hBa
  refine (parse10_no (s := ⟨#[58, 58, 58, 49]⟩) _ (hm.next hB) (by decide) ((congrArg sixP (toList_mk _)).trans sp10_5)).mono ?_
  rintro e w5 ⟨rfl, hb⟩
  replace hB := hB.next hb
  replace k0 := Lib.hid (row_keep k0.out hb)
  replace k1 := Lib.hid (row_keep k1.out hb)
  clear hb
  go_wp2_with (refine wpList_store_six rfl _ _ rfl rfl six0 rfl _ rfl rfl rfl ?_)
  have hBa : Below w.heap.size w (w5.alloc (.cells (sixCells six0) 23)) := hB.alloc (by exact hB.size) _
  replace k0 := Lib.hid (row_old (p := .cells (sixCells six0) 23) k0.out)
  replace k1 := Lib.hid (row_old (p := .cells (sixCells six0) 23) k1.out)
  replace hB := hBa
  clear hBa
  refine (parse10_yes (s := ⟨#[58, 58]⟩) _ (hm.next hB) (by decide) ((congrArg sixP (toList_mk _)).trans sp10_6)).mono ?_
  rintro e w6 ⟨rfl, hb⟩
  replace hB := hB.next hb
  replace k0 := Lib.hid (row_keep k0.out hb)
  replace k1 := Lib.hid (row_keep k1.out hb)
  clear hb
  go_wp2_with (refine wpList_store_six rfl _ _ rfl rfl [0, 0, 0, 0, 0, 0, 0, 0] rfl _ rfl rfl rfl ?_)
  have hBa : Below w.heap.size w (w6.alloc (.cells (sixCells [0, 0, 0, 0, 0, 0, 0, 0]) 23)) := hB.alloc (by exact hB.size) _
  replace k0 := Lib.hid (row_old (p := .cells (sixCells [0, 0, 0, 0, 0, 0, 0, 0]) 23) k0.out)
  replace k1 := Lib.hid (row_old (p := .cells (sixCells [0, 0, 0, 0, 0, 0, 0, 0]) 23) k1.out)
  have k6 := Lib.hid (heap_alloc_new w6 (.cells (sixCells [0, 0, 0, 0, 0, 0, 0, 0]) 23))
  replace hB := hBa
  clear hBa
  refine (parse10_no (s := ⟨#[49, 50, 51, 52, 53, 58, 58]⟩) _ (hm.next hB) (by decide) ((congrArg sixP (toList_mk _)).trans sp10_7)).mono ?_
  rintro e w7 ⟨rfl, hb⟩
  replace hB := hB.next hb
  replace k0 := Lib.hid (row_keep k0.out hb)
  replace k1 := Lib.hid (row_keep k1.out hb)
  replace k6 := Lib.hid (row_keep k6.out hb)
  clear hb
  go_wp2_with (refine wpList_store_six rfl _ _ rfl rfl six0 rfl _ rfl rfl rfl ?_)
  have hBa : Below w.heap.size w (w7.alloc (.cells (sixCells six0) 23)) := hB.alloc (by exact hB.size) _
  replace k0 := Lib.hid (row_old (p := .cells (sixCells six0) 23) k0.out)
  replace k1 := Lib.hid (row_old (p := .cells (sixCells six0) 23) k1.out)
  replace k6 := Lib.hid (row_old (p := .cells (sixCells six0) 23) k6.out)
  replace hB := hBa
  clear hBa
  refine (parse10_no (s := ⟨#[49, 46, 50, 46, 51, 46, 52, 58, 58]⟩) _ (hm.next hB) (by decide) ((congrArg sixP (toList_mk _)).trans sp10_8)).mono ?_
  rintro e w8 ⟨rfl, hb⟩
  replace hB := hB.next hb
  replace k0 := Lib.hid (row_keep k0.out hb)
  replace k1 := Lib.hid (row_keep k1.out hb)
  replace k6 := Lib.hid (row_keep k6.out hb)
  clear hb
  go_wp2_with (refine wpList_store_six rfl _ _ rfl rfl six0 rfl _ rfl rfl rfl ?_)
  have hBa : Below w.heap.size w (w8.alloc (.cells (sixCells six0) 23)) := hB.alloc (by exact hB.size) _
  replace k0 := Lib.hid (row_old (p := .cells (sixCells six0) 23) k0.out)
  replace k1 := Lib.hid (row_old (p := .cells (sixCells six0) 23) k1.out)
  replace k6 := Lib.hid (row_old (p := .cells (sixCells six0) 23) k6.out)
  replace hB := hBa
  clear hBa
  refine (parse10_no (s := ⟨#[]⟩) _ (hm.next hB) (by decide) ((congrArg sixP (toList_mk _)).trans sp10_9)).mono ?_
  rintro e w9 ⟨rfl, hb⟩
  replace hB := hB.next hb
  replace k0 := Lib.hid (row_keep k0.out hb)
  replace k1 := Lib.hid (row_keep k1.out hb)
  replace k6 := Lib.hid (row_keep k6.out hb)
  clear hb
  have hBa : Below w.heap.size w (w9.alloc (.cells (sixCells six0) 23)) := hB.alloc (by exact hB.size) _
  replace k0 := Lib.hid (row_old (p := .cells (sixCells six0) 23) k0.out)
  replace k1 := Lib.hid (row_old (p := .cells (sixCells six0) 23) k1.out)
  replace k6 := Lib.hid (row_old (p := .cells (sixCells six0) 23) k6.out)
  go_upto_region 11 with (refine wpList_store_six rfl _ _ rfl rfl six0 rfl _ rfl rfl rfl ?_)
  refine wp_region_lit ?_
  simp only [List.append]
  go_wp2_with (first
    | (refine wpList_load_six rfl _ rfl (l := [0, 0, 0, 0, 0, 0, 258, 772]) rfl k0.out rfl ?_)
    | (refine wpList_unguard (by rfl) ?_; refine wpList_load_six rfl _ rfl (l := [0, 0, 0, 0, 0, 0, 258, 772]) rfl k0.out rfl ?_)
    | (refine wpList_load_six rfl _ rfl (l := [1, 2, 3, 4, 5, 6, 7, 0]) rfl k1.out rfl ?_)
    | (refine wpList_unguard (by rfl) ?_; refine wpList_load_six rfl _ rfl (l := [1, 2, 3, 4, 5, 6, 7, 0]) rfl k1.out rfl ?_)
    | (refine wpList_load_six rfl _ rfl (l := [0, 0, 0, 0, 0, 0, 0, 0]) rfl k6.out rfl ?_)
    | (refine wpList_unguard (by rfl) ?_; refine wpList_load_six rfl _ rfl (l := [0, 0, 0, 0, 0, 0, 0, 0]) rfl k6.out rfl ?_))
  replace hB := hBa
  clear hBa
  refine (c0.out _ (ht.next hB)).mono ?_
  rintro e v0 ⟨rfl, hb⟩
  replace hB := hB.next hb
  clear hb
  go_wp2_with fail
  refine (c1.out _ (ht.next hB)).mono ?_
  rintro e v1 ⟨rfl, hb⟩
  replace hB := hB.next hb
  clear hb
  go_wp2_with fail
  refine (c2.out _ (ht.next hB)).mono ?_
  rintro e v2 ⟨rfl, hb⟩
  replace hB := hB.next hb
  clear hb
  go_wp2_with fail
  go_ret
  exact ⟨rfl, hB⟩
end Go.Proofs.YtgkbdcdfpoaifaaDoor
