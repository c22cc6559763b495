/- The walk of SixMore. -/
import Derived.Test.YtgkbdcdfpoaifaaDoorSixMoreP
import Derived.Test.YtgkbdcdfpoaifaaDoorSixOpen
namespace Go.Proofs.YtgkbdcdfpoaifaaDoor
open Go.RowKit
set_option linter.unusedVariables false
set_option linter.unusedSimpArgs false

set_option maxRecDepth 100000 in
set_option maxHeartbeats 4000000 in
theorem sixMore_walk (a : List Nat) (n : Int) (w : World) (ha : Six a) (wn : (Lit.int .u8 n).wf = true) (ht : Tabs w) (hm : ML w) : Calls Tryd.prog 5 #[.agg (sixCells a), .int .u8 n] w (RetB w true) := by
  obtain ⟨c, rfl⟩ : ∃ c : UInt8, n = (c.toNat : Int) := ⟨UInt8.ofNat n.toNat, by have := bounds_u8 wn; simp; omega⟩
  obtain ⟨ch, hch, hchz, hcv⟩ := conv_one (P := Tryd.prog) (S := 9) Tryd.underlying30 Tryd.underlying5 Tryd.underlying9 c
  have hcv2 : ∀ (v : World) (o : Obj), (convert 30 9 (.slice (some ⟨v.heap.size + 1, 0, none⟩) 1 1)).run Tryd.prog ((v.alloc o).alloc (.cells #[.int .u8 (c.toNat : Int)] 5)) = .ok (.string ch) ((v.alloc o).alloc (.cells #[.int .u8 (c.toNat : Int)] 5)) := fun v o => by
    have := hcv (v.alloc o)
    rw [show (v.alloc o).heap.size = v.heap.size + 1 by simp] at this
    exact this
  have hB : Below w.heap.size w (w.alloc (.cells (sixCells a) 23)) := (Below.refl _ _).alloc (Nat.le_refl _) _
  have k0 := Lib.hid (heap_alloc_new w (.cells (sixCells a) 23))
  have ha8 := Lib.hid ha.len
  have b58 : (ByteArray.mk #[58]).toList = [58] := toList_mk _
  have b5858 : (ByteArray.mk #[58, 58]).toList = [58, 58] := toList_mk _
  have b5849 : (ByteArray.mk #[58, 49]).toList = [58, 49] := toList_mk _
  have bm : (ByteArray.mk #[58, 58, 49, 58, 58]).toList = [58, 58, 49, 58, 58] := toList_mk _
  have hP : ∀ s : ByteArray, Hid (s.toList = wholeL a) →
      Hid (sixP (s ++ ⟨#[58]⟩ : ByteArray).toList = none) ∧ Hid ((s ++ ⟨#[58]⟩ : ByteArray).size ≤ 1000000) ∧
      Hid (sixP (⟨#[58]⟩ ++ s : ByteArray).toList = none) ∧ Hid ((⟨#[58]⟩ ++ s : ByteArray).size ≤ 1000000) ∧
      Hid (sixP (s ++ ch : ByteArray).toList = none) ∧ Hid ((s ++ ch : ByteArray).size ≤ 1000000) ∧
      Hid (sixP (⟨#[58, 58]⟩ ++ s : ByteArray).toList = none) ∧ Hid ((⟨#[58, 58]⟩ ++ s : ByteArray).size ≤ 1000000) ∧
      Hid (sixP (s ++ ⟨#[58, 58]⟩ : ByteArray).toList = none) ∧ Hid ((s ++ ⟨#[58, 58]⟩ : ByteArray).size ≤ 1000000) ∧
      Hid (sixP (s ++ ⟨#[58, 49]⟩ : ByteArray).toList = none) ∧ Hid ((s ++ ⟨#[58, 49]⟩ : ByteArray).size ≤ 1000000) ∧
      Hid (sixP (s.extract 0 34 ++ ⟨#[58, 58, 49, 58, 58]⟩ : ByteArray).toList = none) ∧ Hid ((s.extract 0 34 ++ ⟨#[58, 58, 49, 58, 58]⟩ : ByteArray).size ≤ 1000000) ∧
      Hid (sixP (s.extract 0 34 : ByteArray).toList = none) ∧ Hid ((s.extract 0 34 : ByteArray).size ≤ 1000000) := fun s hs => by
    have hz : s.size = 39 := by
      have := whole_len a (six_ne ha)
      rw [ha.len] at this
      rw [← size_toList, hs.out]; omega
    have hx : (s.extract 0 34).size ≤ 39 := by rw [← size_toList, toList_extract, List.drop_zero, List.length_take, size_toList]; omega
    refine ⟨Lib.hid (by rw [toList_append, hs.out, b58]; exact more_e ha), Lib.hid ?_, Lib.hid (by rw [toList_append, hs.out, b58]; exact more_f ha), Lib.hid ?_, Lib.hid (by rw [toList_append, hs.out, hch.out]; exact more_g ha c), Lib.hid ?_, Lib.hid (by rw [toList_append, hs.out, b5858]; exact more_h ha), Lib.hid ?_, Lib.hid (by rw [toList_append, hs.out, b5858]; exact more_i ha), Lib.hid ?_, Lib.hid (by rw [toList_append, hs.out, b5849]; exact more_k ha), Lib.hid ?_, Lib.hid (by rw [toList_append, toList_extract, List.drop_zero, hs.out, bm]; exact more_m ha), Lib.hid ?_, Lib.hid (by rw [toList_extract, List.drop_zero, hs.out]; exact more_n ha), Lib.hid ?_⟩
    all_goals first
      | omega
      | (rw [ByteArray.size_append, hz]; first | omega | (have q1 : (ByteArray.mk #[58]).size = 1 := rfl; omega) | (have q2 : (ByteArray.mk #[58, 58]).size = 2 := rfl; omega) | (have q3 : (ByteArray.mk #[58, 49]).size = 2 := rfl; omega))
      | (rw [ByteArray.size_append]; have q5 : (ByteArray.mk #[58, 58, 49, 58, 58]).size = 5 := rfl; omega)
  have hlen : Hid (∀ s : ByteArray, Hid (s.toList = wholeL a) → s.size = 39) := Lib.hid (fun s hs => by
    have := whole_len a (six_ne ha)
    rw [ha.len] at this
    rw [← size_toList, hs.out]; omega)
  replace hP := Lib.hid hP
  replace b58 := Lib.hid b58
  replace b5858 := Lib.hid b5858
  replace b5849 := Lib.hid b5849
  replace bm := Lib.hid bm
  go_enter Tryd.func5, Tryd.ntmps5
  go_wp2_with fail
  refine (small10_any _ (hm.next hB) (ht.next hB)).mono ?_
  rintro e w1 ⟨rfl, hb⟩
  replace hB := hB.next hb
  replace k0 := Lib.hid (row_keep k0.out hb)
  clear hb
  go_wp2_with (refine wpList_load_six rfl _ rfl (l := a) ha8.out k0.out rfl ?_)
  refine (whole_any a _ ha).mono ?_
  rintro e w2 ⟨s, rfl, hs, hb⟩
  replace hB := hB.next hb
  clear hb k0
  have hz := hlen.out s hs
  have hzI : (34 : Int) ≤ (s.size : Int) := by omega
  have hzJ : (s.size : Int) ≤ 39 := by omega
  have hzN : s.size ≤ 39 := by omega
  obtain ⟨p0, z0, p1, z1, p2, z2, p3, z3, p4, z4, p5, z5, p6, z6, p7, z7⟩ := hP.out s hs
  replace hz := Lib.hid hz
  clear hP hlen
  go_wp2_with fail
  refine (parse10_no _ (hm.next hB) z0.out p0.out).mono ?_
  rintro e v0 ⟨rfl, hb⟩
  replace hB : Below w.heap.size w (v0.alloc (.cells (sixCells six0) 23)) := (hB.next hb).alloc ((hB.next hb).size) _
  clear hb
  go_wp2_with (refine wpList_store_six rfl _ _ rfl rfl six0 rfl _ rfl rfl rfl ?_)
  refine (parse10_no _ (hm.next hB) z1.out p1.out).mono ?_
  rintro e v1 ⟨rfl, hb⟩
  replace hB : Below w.heap.size w (v1.alloc (.cells (sixCells six0) 23)) := (hB.next hb).alloc ((hB.next hb).size) _
  clear hb
  go_wp2_with (refine wpList_store_six rfl _ _ rfl rfl six0 rfl _ rfl rfl rfl ?_)
  replace hB : Below w.heap.size w ((v1.alloc (.cells (sixCells six0) 23)).alloc (.cells #[.int .u8 (c.toNat : Int)] 5)) := hB.alloc hB.size _
  refine (parse10_no _ (hm.next hB) z2.out p2.out).mono ?_
  rintro e v2 ⟨rfl, hb⟩
  replace hB : Below w.heap.size w (v2.alloc (.cells (sixCells six0) 23)) := (hB.next hb).alloc ((hB.next hb).size) _
  clear hb
  go_wp2_with (refine wpList_store_six rfl _ _ rfl rfl six0 rfl _ rfl rfl rfl ?_)
  refine (parse10_no _ (hm.next hB) z3.out p3.out).mono ?_
  rintro e v3 ⟨rfl, hb⟩
  replace hB : Below w.heap.size w (v3.alloc (.cells (sixCells six0) 23)) := (hB.next hb).alloc ((hB.next hb).size) _
  clear hb
  go_wp2_with (refine wpList_store_six rfl _ _ rfl rfl six0 rfl _ rfl rfl rfl ?_)
  refine (parse10_no _ (hm.next hB) z4.out p4.out).mono ?_
  rintro e v4 ⟨rfl, hb⟩
  replace hB : Below w.heap.size w (v4.alloc (.cells (sixCells six0) 23)) := (hB.next hb).alloc ((hB.next hb).size) _
  clear hb
  go_wp2_with (refine wpList_store_six rfl _ _ rfl rfl six0 rfl _ rfl rfl rfl ?_)
  refine (parse10_no _ (hm.next hB) z5.out p5.out).mono ?_
  rintro e v5 ⟨rfl, hb⟩
  replace hB : Below w.heap.size w (v5.alloc (.cells (sixCells six0) 23)) := (hB.next hb).alloc ((hB.next hb).size) _
  clear hb
  go_wp2_with (refine wpList_store_six rfl _ _ rfl rfl six0 rfl _ rfl rfl rfl ?_)
  refine (parse10_no _ (hm.next hB) z6.out p6.out).mono ?_
  rintro e v6 ⟨rfl, hb⟩
  replace hB : Below w.heap.size w (v6.alloc (.cells (sixCells six0) 23)) := (hB.next hb).alloc ((hB.next hb).size) _
  clear hb
  go_wp2_with (refine wpList_store_six rfl _ _ rfl rfl six0 rfl _ rfl rfl rfl ?_)
  refine (parse10_no _ (hm.next hB) z7.out p7.out).mono ?_
  rintro e v7 ⟨rfl, hb⟩
  replace hB : Below w.heap.size w (v7.alloc (.cells (sixCells six0) 23)) := (hB.next hb).alloc ((hB.next hb).size) _
  clear hb
  go_wp2_with (refine wpList_store_six rfl _ _ rfl rfl six0 rfl _ rfl rfl rfl ?_)
  go_ret
  exact ⟨rfl, hB⟩
end Go.Proofs.YtgkbdcdfpoaifaaDoor
