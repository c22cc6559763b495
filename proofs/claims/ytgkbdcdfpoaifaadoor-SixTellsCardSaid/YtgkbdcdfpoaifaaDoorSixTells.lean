/- The walk of SixTells. -/
import Derived.Test.YtgkbdcdfpoaifaaDoorSixR
import Derived.Test.YtgkbdcdfpoaifaaDoorRefW
import Derived.Test.YtgkbdcdfpoaifaaDoorSixOpen
import Derived.Deep.RegionHeld3
namespace Go.Proofs.YtgkbdcdfpoaifaaDoor
open Go.RowKit
set_option linter.unusedVariables false
set_option linter.unusedSimpArgs false

/-- The three rows that the law's last statement reads. -/
structure T10 (w wx : World) (a x : List Nat) (gx gy : Nat) : Prop where
  below : Below w.heap.size w wx
  ra : wx.heap[w.heap.size]? = some (.cells (sixCells a) 23)
  rx : wx.heap[gx]? = some (.cells (sixCells x) 23)
  ry : wx.heap[gy]? = some (.cells (sixCells x) 23)
theorem T10.keep {w wx w' : World} {a x : List Nat} {gx gy : Nat} (h : T10 w wx a x gx gy) (hb : Below wx.heap.size wx w') : T10 w w' a x gx gy := ⟨h.below.next hb, row_keep h.ra hb, row_keep h.rx hb, row_keep h.ry hb⟩
theorem T10.drew {w wx : World} {a x : List Nat} {gx gy : Nat} (h : T10 w wx a x gx gy) : T10 w wx.drew a x gx gy := h.keep (Below.refl _ _).drew
theorem rowRange {wx : World} {g : Nat} {l : List Nat} (h : wx.heap[g]? = some (.cells (sixCells l) 23)) : wx.rangeAt g 0 (sixCells l).toList := fun j x hx => by
  rw [Nat.zero_add]
  exact (cell_of_row _ _ _ _ _ _ h).trans (by rw [← Array.getElem?_toList]; exact hx)
theorem sixInfo {l : List Nat} (h : l.length = 8) : (Tryd.prog.info? 23).map (·.size) = some (sixCells l).toList.length := by
  rw [show (sixCells l).toList.length = 8 by simp [sixCells, h]]; kernel_rfl
set_option maxRecDepth 100000 in
set_option maxHeartbeats 4000000 in
theorem sixTells_walk (s : ByteArray) (a : List Nat) (w : World) (ws : s.size ≤ 9223372036854775807) (ha : Six a) (ht : Tabs w) (hm : ML w) : Calls Tryd.prog 3 #[.string s, .agg (sixCells a)] w (RetB w true) := by
  have hgd := eqGuard_six
  have hB : Below w.heap.size w (w.alloc (.cells (sixCells a) 23)) := (Below.refl _ _).alloc (Nat.le_refl _) _
  have k0 := Lib.hid (heap_alloc_new w (.cells (sixCells a) 23))
  go_enter Tryd.func3, Tryd.ntmps3
  go_wp2_with fail
  refine (small10_any _ (hm.next hB) (ht.next hB)).mono ?_
  rintro e w1 ⟨rfl, hb⟩
  replace hB := hB.next hb
  replace k0 := Lib.hid (row_keep k0.out hb)
  clear hb
  by_cases h200 : 200 < s.size
  · have h200I : (200 : Int) < (s.size : Int) := by omega
    go_wp2_with fail
    go_ret
    exact ⟨rfl, hB⟩
  have h200I : (s.size : Int) ≤ 200 := by omega
  obtain ⟨x, bx, hx⟩ : ∃ x bx, Hid ((sixP s.toList).getD six0 = x ∧ (sixP s.toList).isSome = bx) := ⟨_, _, Lib.hid ⟨rfl, rfl⟩⟩
  have hx8 : x.length = 8 := by
    rw [← hx.out.1]
    cases h : sixP s.toList with
    | none => rfl
    | some y => exact sixP_len h
  replace hx8 := Lib.hid hx8
  have href : Hid (∀ w, Calls Tryd.prog 11 #[.string s] w fun e w' => e = .returned (.tuple #[.agg (sixCells x), .bool bx]) ∧ Below w.heap.size w w') := Lib.hid (fun w => by
    have h := parseR10_any s w (by omega)
    obtain ⟨h1, h2⟩ := hx.out
    have e1 : sixV ((sixP s.toList).getD [0, 0, 0, 0, 0, 0, 0, 0]) = .agg (sixCells x) := by rw [← h1]; rfl
    unfold RetSix at h
    rw [e1, h2] at h
    exact h)
  go_wp2_with fail
  refine (parse10 (s := s) _ (hm.next hB) (by omega) rfl hx.out.1 hx.out.2).mono ?_
  rintro e w2 ⟨rfl, hb⟩
  replace hB : Below w.heap.size w (w2.alloc (.cells (sixCells x) 23)) := (hB.next hb).alloc ((hB.next hb).size) _
  replace k0 := Lib.hid (row_old (p := .cells (sixCells x) 23) (row_keep k0.out hb))
  have k1 := Lib.hid (heap_alloc_new w2 (.cells (sixCells x) 23))
  clear hb
  go_wp2_with (refine wpList_store_six rfl _ _ rfl rfl x hx8.out _ rfl rfl rfl ?_)
  refine (href.out _).mono ?_
  rintro e w3 ⟨rfl, hb⟩
  replace hB : Below w.heap.size w (w3.alloc (.cells (sixCells x) 23)) := (hB.next hb).alloc ((hB.next hb).size) _
  replace k0 := Lib.hid (row_old (p := .cells (sixCells x) 23) (row_keep k0.out hb))
  replace k1 := Lib.hid (row_old (p := .cells (sixCells x) 23) (row_keep k1.out hb))
  have k2 := Lib.hid (heap_alloc_new w3 (.cells (sixCells x) 23))
  clear hb href
  have hT : T10 w (w3.alloc (.cells (sixCells x) 23)) a x w2.heap.size w3.heap.size := ⟨hB, k0.out, k1.out, k2.out⟩
  have hq : ∀ w, (Op.equalIn 10000 23 (.agg (sixCells x)) (.agg (sixCells x))).run Tryd.prog w = .ok true w := fun w => by
    rw [run_equalIn_six w x x hx8.out hx8.out, decide_eq_true rfl]
  have ha8 := ha.len
  clear k0 k1 k2 hB
  go_upto_region 6 with (refine wpList_store_six rfl _ _ rfl rfl x hx8.out _ rfl rfl rfl ?_)
  replace hx8 := hx8.out
  refine wp_region_noPanic ?_
  refine wp_region_held_drew (S := fun w' => T10 w w' a x w2.heap.size w3.heap.size) (by kernel_rfl) (hT.drew) (fun hHeld => ?_)
  refine wpAnyH_take (i := 0) (oi := ⟨some 25, _, _, _, _, _⟩) (v := ?_) rfl (by kernel_rfl) (by kernel_rfl) (by kernel_rfl) (fun _ _ _ h => h) (Or.inl ⟨by rfl, ?_⟩) hHeld ?_
  rotate_left
  · first | (intro w hSw; (try dsimp only at hSw); go_simp; done) | (intro w hSw; (try dsimp only at hSw); go_simp; with_reducible rfl)
  try simp only [Act.put, List.setIfInBounds_toArray, List.set_cons_zero, List.set_cons_succ]
  refine wpAnyH_take (i := 1) (oi := ⟨some 26, _, _, _, _, _⟩) (v := ?_) rfl (by kernel_rfl) (by kernel_rfl) (by kernel_rfl) (fun _ _ _ h => h) (Or.inl ⟨by rfl, ?_⟩) hHeld ?_
  rotate_left
  · first | (intro w hSw; (try dsimp only at hSw); go_simp; done) | (intro w hSw; (try dsimp only at hSw); go_simp; with_reducible rfl)
  try simp only [Act.put, List.setIfInBounds_toArray, List.set_cons_zero, List.set_cons_succ]
  refine wpAnyH_take (i := 2) (oi := ⟨some 27, _, _, _, _, _⟩) (v := .agg (sixCells x).toList.toArray) rfl (by kernel_rfl) (by kernel_rfl) (by kernel_rfl) (fun _ _ _ h => h) (yieldsIf_load_mid (by rfl) 23 _ rfl w2.heap.size 0 rfl (sixCells x).toList _ (fun _ h => rowRange h.rx) Tryd.underlying23 rfl (sixInfo hx8)) hHeld ?_
  try simp only [Act.put, List.setIfInBounds_toArray, List.set_cons_zero, List.set_cons_succ]
  refine wpAnyH_take (i := 3) (oi := ⟨some 28, _, _, _, _, _⟩) (v := .agg (sixCells x).toList.toArray) rfl (by kernel_rfl) (by kernel_rfl) (by kernel_rfl) (fun _ _ _ h => h) (yieldsIf_load_mid (by rfl) 23 _ rfl w3.heap.size 0 rfl (sixCells x).toList _ (fun _ h => rowRange h.ry) Tryd.underlying23 rfl (sixInfo hx8)) hHeld ?_
  try simp only [Act.put, List.setIfInBounds_toArray, List.set_cons_zero, List.set_cons_succ]
  refine wpAnyH_take (i := 4) (oi := ⟨some 29, _, _, _, _, _⟩) (v := ?_) rfl (by kernel_rfl) (by kernel_rfl) (by kernel_rfl) (fun _ _ _ h => h) (Or.inl ⟨by rfl, ?_⟩) hHeld ?_
  rotate_left
  · first | (intro w hSw; (try dsimp only at hSw); go_simp; done) | (intro w hSw; (try dsimp only at hSw); go_simp; with_reducible rfl)
  try simp only [Act.put, List.setIfInBounds_toArray, List.set_cons_zero, List.set_cons_succ]
  refine wpAnyH_take (i := 5) (oi := ⟨some 30, _, _, _, _, _⟩) (v := ?_) rfl (by kernel_rfl) (by kernel_rfl) (by kernel_rfl) (fun _ _ _ h => h) (Or.inl ⟨by rfl, ?_⟩) hHeld ?_
  rotate_left
  · first | (intro w hSw; (try dsimp only at hSw); go_simp; done) | (intro w hSw; (try dsimp only at hSw); go_simp; with_reducible rfl)
  try simp only [Act.put, List.setIfInBounds_toArray, List.set_cons_zero, List.set_cons_succ]
  refine wpAnyH_take (i := 6) (oi := ⟨some 31, _, _, _, _, _⟩) (v := ?_) rfl (by kernel_rfl) (by kernel_rfl) (by kernel_rfl) (fun _ _ _ h => h) (Or.inl ⟨by rfl, ?_⟩) hHeld ?_
  rotate_left
  · first | (intro w hSw; (try dsimp only at hSw); go_simp; done) | (intro w hSw; (try dsimp only at hSw); go_simp; with_reducible rfl)
  try simp only [Act.put, List.setIfInBounds_toArray, List.set_cons_zero, List.set_cons_succ]
  refine wpAnyH_take (i := 7) (oi := ⟨some 32, _, _, _, _, _⟩) (v := ?_) rfl (by kernel_rfl) (by kernel_rfl) (by kernel_rfl) (fun _ _ _ h => h) (Or.inl ⟨by rfl, ?_⟩) hHeld ?_
  rotate_left
  · first | (intro w hSw; (try dsimp only at hSw); go_simp; done) | (intro w hSw; (try dsimp only at hSw); go_simp; with_reducible rfl)
  try simp only [Act.put, List.setIfInBounds_toArray, List.set_cons_zero, List.set_cons_succ]
  refine wpAnyH_take (i := 8) (oi := ⟨some 33, _, _, _, _, _⟩) (v := ?_) rfl (by kernel_rfl) (by kernel_rfl) (by kernel_rfl) (fun _ _ _ h => h) (Or.inl ⟨by rfl, ?_⟩) hHeld ?_
  rotate_left
  · first | (intro w hSw; (try dsimp only at hSw); go_simp; done) | (intro w hSw; (try dsimp only at hSw); go_simp; with_reducible rfl)
  try simp only [Act.put, List.setIfInBounds_toArray, List.set_cons_zero, List.set_cons_succ]
  refine wpAnyH_take (i := 9) (oi := ⟨some 34, _, _, _, _, _⟩) (v := ?_) rfl (by kernel_rfl) (by kernel_rfl) (by kernel_rfl) (fun _ _ _ h => h) (Or.inl ⟨by rfl, ?_⟩) hHeld ?_
  rotate_left
  · first | (intro w hSw; (try dsimp only at hSw); go_simp; done) | (intro w hSw; (try dsimp only at hSw); go_simp; with_reducible rfl)
  try simp only [Act.put, List.setIfInBounds_toArray, List.set_cons_zero, List.set_cons_succ]
  refine wpAnyH_take (i := 10) (oi := ⟨some 35, _, _, _, _, _⟩) (v := ?_) rfl (by kernel_rfl) (by kernel_rfl) (by kernel_rfl) (fun _ _ _ h => h) (Or.inl ⟨by rfl, ?_⟩) hHeld ?_
  rotate_left
  · first | (intro w hSw; (try dsimp only at hSw); go_simp; done) | (intro w hSw; (try dsimp only at hSw); go_simp; with_reducible rfl)
  try simp only [Act.put, List.setIfInBounds_toArray, List.set_cons_zero, List.set_cons_succ]
  refine wpAnyH_take (i := 11) (oi := ⟨some 36, _, _, _, _, _⟩) (v := ?_) rfl (by kernel_rfl) (by kernel_rfl) (by kernel_rfl) (fun _ _ _ h => h) (Or.inl ⟨by rfl, ?_⟩) hHeld ?_
  rotate_left
  · first | (intro w hSw; (try dsimp only at hSw); go_simp; done) | (intro w hSw; (try dsimp only at hSw); go_simp; with_reducible rfl)
  try simp only [Act.put, List.setIfInBounds_toArray, List.set_cons_zero, List.set_cons_succ]
  refine wpAnyH_take (i := 12) (oi := ⟨some 37, _, _, _, _, _⟩) (v := .agg (sixCells a).toList.toArray) rfl (by kernel_rfl) (by kernel_rfl) (by kernel_rfl) (fun _ _ _ h => h) (yieldsIf_load_mid (by rfl) 23 _ rfl w.heap.size 0 rfl (sixCells a).toList _ (fun _ h => rowRange h.ra) Tryd.underlying23 rfl (sixInfo ha8)) hHeld ?_
  try simp only [Act.put, List.setIfInBounds_toArray, List.set_cons_zero, List.set_cons_succ]
  refine wpAnyH_take (i := 14) (oi := ⟨some 39, _, _, _, _, _⟩) (v := .agg (sixCells a).toList.toArray) rfl (by kernel_rfl) (by kernel_rfl) (by kernel_rfl) (fun _ _ _ h => h) (yieldsIf_load_mid (by rfl) 23 _ rfl w.heap.size 0 rfl (sixCells a).toList _ (fun _ h => rowRange h.ra) Tryd.underlying23 rfl (sixInfo ha8)) hHeld ?_
  try simp only [Act.put, List.setIfInBounds_toArray, List.set_cons_zero, List.set_cons_succ]
  refine wpAnyH_ready (rs := [13]) (by kernel_rfl) (by simp) ?_
  refine AllReadyH.cons rfl (fun K hK => ?_) AllReadyH.nil
  go_simp
  refine (sixWrite_any a ha _ (ht.next hHeld.below)).mono ?_
  rintro e w7 ⟨t1, rfl, ht1, hb⟩
  have hT1 := hHeld.keep hb
  clear hb hHeld
  go_wp2_with fail
  refine hK.out _ _ (hT1) (fun hHeld => ?_)
  clear hK K
  try simp only [Act.put, List.setIfInBounds_toArray, List.set_cons_zero, List.set_cons_succ]
  refine wpAnyH_ready (rs := [15]) (by kernel_rfl) (by simp) ?_
  refine AllReadyH.cons rfl (fun K hK => ?_) AllReadyH.nil
  go_simp
  refine (sixR_any a ha _).mono ?_
  rintro e w8 ⟨t2, rfl, ht2, hb⟩
  have hT2 := hHeld.keep hb
  obtain rfl : t2 = t1 := eq_of_toList (ht2.out.trans ht1.out.symm)
  clear hb hHeld
  go_wp2_with fail
  refine hK.out _ _ (hT2) (fun hHeld => ?_)
  clear hK K
  try simp only [Act.put, List.setIfInBounds_toArray, List.set_cons_zero, List.set_cons_succ]
  refine wpAnyH_take (i := 16) (oi := ⟨some 41, _, _, _, _, _⟩) (v := ?_) rfl (by kernel_rfl) (by kernel_rfl) (by kernel_rfl) (fun _ _ _ h => h) (Or.inl ⟨by rfl, ?_⟩) hHeld ?_
  rotate_left
  · first | (intro w hSw; (try dsimp only at hSw); go_simp; done) | (intro w hSw; (try dsimp only at hSw); go_simp; with_reducible rfl)
  try simp only [Act.put, List.setIfInBounds_toArray, List.set_cons_zero, List.set_cons_succ]
  refine wpAnyH_take (i := 17) (oi := ⟨some 42, _, _, _, _, _⟩) (v := ?_) rfl (by kernel_rfl) (by kernel_rfl) (by kernel_rfl) (fun _ _ _ h => h) (Or.inl ⟨by rfl, ?_⟩) hHeld ?_
  rotate_left
  · first | (intro w hSw; (try dsimp only at hSw); go_simp; done) | (intro w hSw; (try dsimp only at hSw); go_simp; with_reducible rfl)
  try simp only [Act.put, List.setIfInBounds_toArray, List.set_cons_zero, List.set_cons_succ]
  refine wpAnyH_ready (rs := [18]) (by kernel_rfl) (by simp) ?_
  refine AllReadyH.cons rfl (fun K hK => ?_) AllReadyH.nil
  go_simp
  refine hK.out _ _ (hT2) (fun hHeld => ?_)
  clear hK K
  try simp only [Act.put, List.setIfInBounds_toArray, List.set_cons_zero, List.set_cons_succ]
  refine wpAnyH_done (by kernel_rfl) ?_ _
  refine NoPanic.normal ?_
  go_wp2_with fail
  go_ret
  exact ⟨rfl, hHeld.below⟩
end Go.Proofs.YtgkbdcdfpoaifaaDoor
