/- The small case of layer 1 comes out right. -/
import Derived.Test.YtcemneilhfjnhaaAscii
import Derived.Test.YtcemneilhfjnhaaTrim
import Derived.Test.YtcemneilhfjnhaaWords
import Derived.Test.YtcemneilhfjnhaaSame
namespace Go.Proofs.Ytcemneilhfjnhaa
open Go.RowKit
set_option linter.unusedVariables false

set_option maxHeartbeats 1000000 in
theorem small01_any (w : World) : Calls Try.prog 9 #[] w (RetB w true) := by
  have hB : Below w.heap.size w w := Below.refl _ _
  have b1 : blankZ 12 = true := by decide
  have b2 : blankZ 11 = false := by decide
  have l1 : letterZ 122 = true := by decide
  have l2 : letterZ 91 = false := by decide
  have d1 : digitZ 102 16 = 15 := by decide
  have d2 : digitZ 56 8 = -1 := by decide
  have d3 : digitZ 71 36 = 16 := by decide
  go_enter Try.func9, Try.ntmps9
  go_wp2_with (first
    | (go_at_call 25; refine (words_any _ _ (by decide)).mono ?_; rintro e w1 ⟨v, lw, rfl, hv, how, hb⟩; replace hB := hB.next hb; clear hb)
    | (go_at_call 10; refine (blank_any _ _).mono ?_; rintro e w' ⟨rfl, rfl⟩)
    | (go_at_call 12; refine (letter_any _ _).mono ?_; rintro e w' ⟨rfl, rfl⟩)
    | (go_at_call 14; refine (digit_any _ _ _ (by decide) (by decide)).mono ?_; rintro e w' ⟨rfl, rfl⟩)
    | (go_at_call 16; refine (lower_any _ _ (by decide)).mono ?_; rintro e w2 ⟨t, rfl, ht, hb⟩; have hq := ht.out.trans (show _ = [97, 98, 91, 195, 132] by rw [ByteArray.toList_mk]; decide); clear ht; replace hB := hB.next hb; replace how := how.below hb (Nat.le_refl _); clear hb)
    | (go_at_call 18; refine (trim_any _ _ (by decide)).mono ?_; rintro e w2 ⟨t, rfl, ht, hb⟩; have hq := ht.out.trans (show _ = [97, 11, 32, 98] by rw [ByteArray.toList_mk]; decide); clear ht; replace hB := hB.next hb; replace how := how.below hb (Nat.le_refl _); clear hb)
    | (go_at_call 20; refine (strip_any _ _ (by decide)).mono ?_; rintro e w2 ⟨t, rfl, ht, hb⟩; have hq := ht.out.trans (show _ = [11, 32, 97] by rw [ByteArray.toList_mk]; decide); clear ht; replace hB := hB.next hb; replace how := how.below hb (Nat.le_refl _); clear hb)
    | (go_at_call 22; refine (tight_any _ _ (by decide)).mono ?_; rintro e w2 ⟨t, rfl, ht, hb⟩; have hq := ht.out.trans (show _ = [97, 32, 98, 99, 12] by rw [ByteArray.toList_mk]; decide); clear ht; replace hB := hB.next hb; replace how := how.below hb (Nat.le_refl _); clear hb))
  have hlw : lw.map (·.toList) = [[97, 98], [99]] := hv.out.trans (by rw [ByteArray.toList_mk]; decide)
  refine (same_any _ _ lw [⟨#[97, 98]⟩, ⟨#[99]⟩] _ (how.alloc _).read (ReadS.built _ _ [⟨#[97, 98]⟩, ⟨#[99]⟩] 2) how.le (by decide)).mono ?_
  rintro e w3 ⟨rfl, hb⟩
  have hs : sameB lw [⟨#[97, 98]⟩, ⟨#[99]⟩] = true := by
    have e1 : ByteArray.toList ⟨#[97, 98]⟩ = [97, 98] := ByteArray.toList_mk _
    have e2 : ByteArray.toList ⟨#[99]⟩ = [99] := ByteArray.toList_mk _
    simp [sameB, hlw, e1, e2]
  rw [hs]
  clear hlw hs hv
  go_wp2
  go_ret
  exact ⟨rfl, (hB.alloc hB.size _).next hb⟩
end Go.Proofs.Ytcemneilhfjnhaa
