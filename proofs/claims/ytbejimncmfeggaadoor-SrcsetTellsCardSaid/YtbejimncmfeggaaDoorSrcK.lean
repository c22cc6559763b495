/- The small case of the laws of srcset. -/
import Derived.Test.YtbejimncmfeggaaDoorSrcJ
namespace Go.Proofs.YtbejimncmfeggaaDoor
open Go.RowKit
set_option linter.unusedVariables false
set_option linter.unusedSimpArgs false

set_option maxRecDepth 100000 in
set_option maxHeartbeats 4000000 in
theorem small19_any (w : World) : Calls Tryd.prog 9 #[] w (RetB w true) := by
  go_enter Tryd.func9, Tryd.ntmps9
  go_wp2_with fail
  refine (splitC_any (sT smallT) _ (by rw [← size_toList, sT_list]; decide)).mono ?_
  rintro e w1 ⟨v1, l1, rfl, hl1, -, hsz1, ho1, hb1⟩
  have hL : l1.map candIs = smallC := by rw [hl1.out, sT_list, smallC_is]
  have h4 : l1.length = 4 := by have e := congrArg List.length hL; rw [List.length_map] at e; exact e
  have hcap : ∃ g cap, v1 = .slice (some ⟨g, 0, none⟩) 4 cap ∧ 4 ≤ cap := by
    rcases ho1.1.2 with ⟨_, hn⟩ | ⟨g, cap, cur, rfl, hg, hh, hcap, _⟩
    · omega
    · exact ⟨g, cap, by rw [h4], by omega⟩
  obtain ⟨g1, cap1, rfl, hcap⟩ := hcap
  have hR := ho1.read
  have hnan := rows_nan hl1.out
  replace hL := Lib.hid hL
  replace h4 := Lib.hid h4
  clear hl1 ho1
  go_wp2_with fail
  have hq1 : ReadS (w1.alloc (.cells #[.string ⟨#[50, 119]⟩, .string ⟨#[51, 104]⟩] 9)) (.slice (some ⟨w1.heap.size, 0, none⟩) 2 2) ([[50, 119], [51, 104]].map sT) := ReadS.built w1 9 ([[50, 119], [51, 104]].map sT) 2
  refine (describe_yes [[50, 119], [51, 104]] 2 rfl ⟨true, 2, true, 3, false, 0⟩ small_d1 _ _ hq1 small_z1 (by decide)).mono ?_
  rintro e w2 ⟨p2, c2, rfl, -, hb2⟩
  have hB2 : Below w1.heap.size w1 w2 := ((Below.refl _ _).alloc (Nat.le_refl _) _).trans (hb2.mono (by simp))
  replace hR := hR.below hB2 (Nat.le_refl _)
  have hW2 : Below w.heap.size w w2 := hb1.next hB2
  clear hb1 hb2 hB2
  go_wp2_with (refine wpList_store_newC rfl 27 _ _ rfl rfl (candC e0 (.slice p2 2 c2) ⟨true, 2, true, 3, false, 0⟩) 27 _ _ rfl rfl rfl (candInfo _ _ _) rfl (candCells _ _ _ _ _) ?_)
  have hq2 : ReadS ((w2.alloc (.cells (candC e0 (.slice p2 2 c2) ⟨true, 2, true, 3, false, 0⟩) 27)).alloc (.cells #[.string ⟨#[51, 104]⟩] 9)) (.slice (some ⟨w2.heap.size + 1, 0, none⟩) 1 1) ([[51, 104]].map sT) := builtAt (w2.alloc (.cells (candC e0 (.slice p2 2 c2) ⟨true, 2, true, 3, false, 0⟩) 27)) 9 ([[51, 104]].map sT) 1 (w2.heap.size + 1) (by simp)
  refine (describe_no [[51, 104]] small_d2 _ _ hq2 small_z2 (by decide)).mono ?_
  rintro e w3 ⟨rfl, hb3⟩
  have hG : w3.heap[w2.heap.size]? = some (.cells (candC e0 (.slice p2 2 c2) ⟨true, 2, true, 3, false, 0⟩) 27 (0, 0)) := (hb3.block _ (by simp; omega)).trans ((heap_alloc_old _ _ (by simp)).trans (heap_alloc_new _ _))
  have hB3 : Below w2.heap.size w2 w3 := (((Below.refl _ _).alloc (Nat.le_refl _) _).alloc (by simp) _).trans (hb3.mono (by simp; omega))
  replace hR := hR.below hB3 (Nat.le_refl _)
  have hW3 : Below w.heap.size w w3 := hW2.next hB3
  clear hb3 hB3 hW2
  replace hG := Lib.hid hG
  go_wp2_with (refine wpList_store_newC rfl 27 _ _ rfl rfl (candC e0 (.slice none 0 0) d0) 27 _ _ rfl rfl rfl (candInfo _ _ _) rfl (candCells _ _ _ _ _) ?_)
  have hq3 : ReadS ((w3.alloc (.cells (candC e0 (.slice none 0 0) d0) 27)).alloc (.cells #[.string ⟨#[49, 119]⟩, .string ⟨#[49, 120]⟩] 9)) (.slice (some ⟨w3.heap.size + 1, 0, none⟩) 2 2) ([[49, 119], [49, 120]].map sT) := builtAt (w3.alloc (.cells (candC e0 (.slice none 0 0) d0) 27)) 9 ([[49, 119], [49, 120]].map sT) 2 (w3.heap.size + 1) (by simp)
  refine (describe_no [[49, 119], [49, 120]] small_d3 _ _ hq3 small_z3 (by decide)).mono ?_
  rintro e w4 ⟨rfl, hb4⟩
  have hB4 : Below w3.heap.size w3 w4 := (((Below.refl _ _).alloc (Nat.le_refl _) _).alloc (by simp) _).trans (hb4.mono (by simp; omega))
  have lG : w2.heap.size < w3.heap.size := (Array.getElem?_eq_some_iff.1 hG.out).1
  replace hG := Lib.hid ((hB4.block _ lG).trans hG.out)
  replace hR := hR.below hB4 (Nat.le_refl _)
  have hW4 : Below w.heap.size w w4 := hW3.next hB4
  have lG4 : w2.heap.size < w4.heap.size := by have := hB4.size; omega
  clear hb4 hB4 hW3
  go_wp2_with (refine wpList_store_newC rfl 27 _ _ rfl rfl (candC e0 (.slice none 0 0) d0) 27 _ _ rfl rfl rfl (candInfo _ _ _) rfl (candCells _ _ _ _ _) ?_)
  have hq4 : ReadS ((w4.alloc (.cells (candC e0 (.slice none 0 0) d0) 27)).alloc (.cells #[.string ⟨#[45, 49, 120]⟩] 9)) (.slice (some ⟨w4.heap.size + 1, 0, none⟩) 1 1) ([[45, 49, 120]].map sT) := builtAt (w4.alloc (.cells (candC e0 (.slice none 0 0) d0) 27)) 9 ([[45, 49, 120]].map sT) 1 (w4.heap.size + 1) (by simp)
  refine (describe_no [[45, 49, 120]] small_d4 _ _ hq4 small_z4 (by decide)).mono ?_
  rintro e w5 ⟨rfl, hb5⟩
  have hB5 : Below w4.heap.size w4 w5 := (((Below.refl _ _).alloc (Nat.le_refl _) _).alloc (by simp) _).trans (hb5.mono (by simp; omega))
  replace hG := Lib.hid ((hB5.block _ lG4).trans hG.out)
  replace hR := hR.below hB5 (Nat.le_refl _)
  have hW5 : Below w.heap.size w w5 := hW4.next hB5
  have lG5 : w2.heap.size < w5.heap.size := by have := hB5.size; omega
  clear hb5 hB5 hW4 lG lG4
  go_wp2_with (first
    | (refine wpList_store_newC rfl 27 _ _ rfl rfl (candC e0 (.slice none 0 0) d0) 27 _ _ rfl rfl rfl (candInfo _ _ _) rfl (candCells _ _ _ _ _) ?_)
    | (refine wpList_lit3 rfl _ _ _ rfl (HCand.mk (sT [97]) _ [sT [49, 120]] ⟨false, 0, false, 0, true, 4607182418800017408⟩) (HCand.mk (sT [98]) (.slice none 0 0) [] d0) (HCand.mk (sT [99]) _ [sT [50, 119], sT [51, 104]] ⟨true, 2, true, 3, false, 0⟩) rfl rfl rfl ?_))
  have hs1 : ReadS ((w5.alloc (.cells (candC e0 (.slice none 0 0) d0) 27)).alloc (.cells #[.string ⟨#[49, 120]⟩] 9)) (.slice (some ⟨w5.heap.size + 1, 0, none⟩) 1 1) [sT [49, 120]] := builtAt _ 9 [sT [49, 120]] 1 (w5.heap.size + 1) (by simp)
  have hs2 : ReadS (((w5.alloc (.cells (candC e0 (.slice none 0 0) d0) 27)).alloc (.cells #[.string ⟨#[49, 120]⟩] 9)).alloc (.cells #[.string ⟨#[50, 119]⟩, .string ⟨#[51, 104]⟩] 9)) (.slice (some ⟨w5.heap.size + 1 + 1, 0, none⟩) 2 2) [sT [50, 119], sT [51, 104]] := builtAt _ 9 [sT [50, 119], sT [51, 104]] 2 (w5.heap.size + 1 + 1) (by simp)
  have hs1' := hs1.below ((Below.refl _ _).alloc (Nat.le_refl _) (.cells #[.string ⟨#[50, 119]⟩, .string ⟨#[51, 104]⟩] 9)) (Nat.le_refl _)
  have hcs : [HCand.mk (sT [97]) (.slice (some ⟨w5.heap.size + 1, 0, none⟩) 1 1) [sT [49, 120]] ⟨false, 0, false, 0, true, 4607182418800017408⟩, HCand.mk (sT [98]) (.slice none 0 0) [] d0, HCand.mk (sT [99]) (.slice (some ⟨w5.heap.size + 1 + 1, 0, none⟩) 2 2) [sT [50, 119], sT [51, 104]] ⟨true, 2, true, 3, false, 0⟩].flatMap cellsH = cellsH (HCand.mk (sT [97]) (.slice (some ⟨w5.heap.size + 1, 0, none⟩) 1 1) [sT [49, 120]] ⟨false, 0, false, 0, true, 4607182418800017408⟩) ++ (cellsH (HCand.mk (sT [98]) (.slice none 0 0) [] d0) ++ cellsH (HCand.mk (sT [99]) (.slice (some ⟨w5.heap.size + 1 + 1, 0, none⟩) 2 2) [sT [50, 119], sT [51, 104]] ⟨true, 2, true, 3, false, 0⟩)) := by simp only [List.flatMap_cons, List.flatMap_nil, List.append_nil]
  have hK := builtAtC (((w5.alloc (.cells (candC e0 (.slice none 0 0) d0) 27)).alloc (.cells #[.string ⟨#[49, 120]⟩] 9)).alloc (.cells #[.string ⟨#[50, 119]⟩, .string ⟨#[51, 104]⟩] 9)) [HCand.mk (sT [97]) (.slice (some ⟨w5.heap.size + 1, 0, none⟩) 1 1) [sT [49, 120]] ⟨false, 0, false, 0, true, 4607182418800017408⟩, HCand.mk (sT [98]) (.slice none 0 0) [] d0, HCand.mk (sT [99]) (.slice (some ⟨w5.heap.size + 1 + 1, 0, none⟩) 2 2) [sT [50, 119], sT [51, 104]] ⟨true, 2, true, 3, false, 0⟩] 3 (w5.heap.size + 1 + 1 + 1) (by simp) (fun d hd => by
    simp only [List.mem_cons, List.not_mem_nil, or_false] at hd
    rcases hd with rfl | rfl | rfl
    · exact hs1'
    · exact ⟨none, 0, rfl, fun h => by cases h⟩
    · exact hs2)
  rw [hcs] at hK
  have hB6 := below_al (below_al (below_al (below_al (Below.refl w5.heap.size w5) (Nat.le_refl _) (.cells (candC e0 (.slice none 0 0) d0) 27)) (Nat.le_refl _) (.cells #[.string ⟨#[49, 120]⟩] 9)) (Nat.le_refl _) (.cells #[.string ⟨#[50, 119]⟩, .string ⟨#[51, 104]⟩] 9)) (Nat.le_refl _) (.cells (cellsH (HCand.mk (sT [97]) (.slice (some ⟨w5.heap.size + 1, 0, none⟩) 1 1) [sT [49, 120]] ⟨false, 0, false, 0, true, 4607182418800017408⟩) ++ (cellsH (HCand.mk (sT [98]) (.slice none 0 0) [] d0) ++ cellsH (HCand.mk (sT [99]) (.slice (some ⟨w5.heap.size + 1 + 1, 0, none⟩) 2 2) [sT [50, 119], sT [51, 104]] ⟨true, 2, true, 3, false, 0⟩))).toArray 27)
  have hB6w := hW5.next hB6
  clear hs1 hs2 hs1' hcs hW5
  refine (same_yes _ _ (l1.take 3) _ _ ((hR.below hB6 (Nat.le_refl _)).take 3 (by rw [h4.out]; decide)) hK (by rw [List.map_take, hL.out]; unfold candIs; simp only [List.map_cons, List.map_nil, sT_list]; rfl) (fun c hc => hnan c (List.mem_of_mem_take hc)) (fun c hc => (hsz1 c (List.mem_of_mem_take hc)).2.2) (by rw [List.length_take]; omega)).mono ?_
  rintro e w9 ⟨rfl, hb9⟩
  have hB9 : Below w5.heap.size w5 w9 := hB6.next hb9
  have hW9 : Below w.heap.size w w9 := hB6w.next hb9
  replace hR := hR.below hB9 (Nat.le_refl _)
  have hG9 := (hB9.block _ lG5).trans hG.out
  have x3 := cell_of_row _ _ 3 _ _ _ hG9
  have x5 := cell_of_row _ _ 5 _ _ _ hG9
  simp only [candC, List.getElem?_toArray, List.getElem?_cons_zero, List.getElem?_cons_succ] at x3 x5
  obtain ⟨pa, cc, he, h1, -⟩ := hR
  obtain ⟨g, o, hp, hr⟩ := h1 (by rw [h4.out]; decide)
  subst hp
  rw [Value.slice.injEq, Option.some.injEq, Addr.mk.injEq] at he
  obtain ⟨⟨rfl, rfl, -⟩, -, -⟩ := he
  have r3 := hr 3 (by rw [h4.out]; decide)
  have hc3 : candIs (l1[3]'(by rw [h4.out]; decide)) = ⟨[103], [[49, 46, 53, 120]], ⟨false, 0, false, 0, true, 4609434218613702656⟩⟩ := by
    have e := congrArg (fun q => q[3]?) hL.out
    simpa [List.getElem?_map, List.getElem?_eq_getElem (show 3 < l1.length by rw [h4.out]; decide), smallC] using e
  obtain ⟨c3, hc3e⟩ : ∃ c, l1[3]'(by rw [h4.out]; decide) = c := ⟨_, rfl⟩
  rw [hc3e] at r3 hc3
  obtain ⟨cu, cv, cw, cs⟩ := c3
  unfold candIs at hc3
  rw [Cand.mk.injEq] at hc3
  obtain ⟨hu, -, rfl⟩ := hc3
  dsimp only at hu
  obtain rfl : cu = ⟨#[103]⟩ := eq_of_toList (hu.trans (toList_mk [103]).symm)
  have y24 := r3 0 _ rfl
  have y31 := r3 7 _ rfl
  simp only [Nat.zero_add, Nat.reduceMul, Nat.reduceAdd, Nat.add_zero] at y24 y31
  have ho15 := order15
  replace hG9 := Lib.hid hG9
  replace hc3e := Lib.hid hc3e
  clear hr r3 hK hB6 hb9 hB9 hB6w hu
  go_wp2_with fail
  go_ret
  exact ⟨rfl, hW9⟩
end Go.Proofs.YtbejimncmfeggaaDoor
