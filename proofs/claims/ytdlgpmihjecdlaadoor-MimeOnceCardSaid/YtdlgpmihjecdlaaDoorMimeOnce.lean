/- The walk of MimeOnce. -/
import Derived.Test.YtdlgpmihjecdlaaDoorMimeCoded
import Derived.Test.YtdlgpmihjecdlaaDoorMimeU
namespace Go.Proofs.YtdlgpmihjecdlaaDoor
open Go.RowKit
set_option linter.unusedVariables false
set_option linter.unusedSimpArgs false

set_option maxRecDepth 100000 in
set_option maxHeartbeats 4000000 in
theorem mimeOnce_walk (s m : ByteArray) (w : World) (ws : s.size ≤ 9223372036854775807) (wm : m.size ≤ 9223372036854775807) (ht : Tabs w) (hm : ML w) : Calls Tryd.prog 4 #[.string s, .string m] w (RetB w true) := by
  have hB : Below w.heap.size w w := Below.refl _ _
  go_enter Tryd.func4, Tryd.ntmps4
  go_wp2_with fail
  refine (small18_any _ hm ht).mono ?_
  rintro e w1 ⟨rfl, hb⟩
  replace hB := hB.next hb
  clear hb
  by_cases h300 : 300 < s.size ∨ 300 < m.size
  · have hway : (300 : Int) < (s.size : Int) ∨ ((s.size : Int) ≤ 300 ∧ (300 : Int) < (m.size : Int)) := by omega
    clear h300
    rcases hway with q1 | ⟨q1, q2⟩
    all_goals
      go_wp2_with fail
      go_ret
      exact ⟨rfl, hB⟩
  have q1 : (s.size : Int) ≤ 300 := by omega
  have q2 : (m.size : Int) ≤ 300 := by omega
  clear h300
  go_wp2_with fail
  refine (essence_any s _ (hm.next hB) (by omega)).mono ?_
  rintro e w2 ⟨t0, rfl, ht0, hb⟩
  replace hB := hB.next hb
  clear hb
  generalize ho : essL s.toList = o at ht0 ⊢
  cases o with
  | none =>
    obtain rfl : t0 = ⟨#[]⟩ := bytesM (l := []) ht0.out
    replace ho := Lib.hid ho
    clear ht0
    go_wp2_with fail
    go_ret
    exact ⟨rfl, hB⟩
  | some l =>
    obtain rfl : t0.toList = l := ht0.out
    have hI := ess_is ho
    have hz := essL_len ho
    rw [size_toList, size_toList] at hz
    replace ho := Lib.hid ho
    clear ht0
    have b1 : (ByteArray.mk #[32]).toList = [32] := toList_mk _
    have b2 : (ByteArray.mk #[9, 59]).toList = [9, 59] := toList_mk _
    have d2 : Hid (essL (⟨#[32]⟩ ++ t0 ++ ⟨#[9, 59]⟩ ++ m : ByteArray).toList = some t0.toList) := Lib.hid (by
      have e : (⟨#[32]⟩ ++ t0 ++ ⟨#[9, 59]⟩ ++ m : ByteArray).toList = 32 :: (t0.toList ++ 9 :: 59 :: m.toList) := by rw [toList_append, toList_append, toList_append, b1, b2]; simp
      rw [e, hI.more])
    have z2 : Hid ((⟨#[32]⟩ ++ t0 ++ ⟨#[9, 59]⟩ ++ m : ByteArray).size ≤ 1000000) := Lib.hid (by rw [ByteArray.size_append, ByteArray.size_append, ByteArray.size_append]; have : (ByteArray.mk #[9, 59]).size = 2 := rfl; have : (ByteArray.mk #[32]).size = 1 := rfl; omega)
    clear b1 b2
    go_wp2_with fail
    refine (ess_at _ (hm.next hB) (by omega) hI.again).mono ?_
    rintro e w3 ⟨t1, rfl, ht1, hb⟩
    replace hB := hB.next hb
    clear hb
    obtain rfl : t1 = t0 := eq_of_toList ht1.out
    clear ht1
    go_wp2_with fail
    refine (ess_at _ (hm.next hB) z2.out d2.out).mono ?_
    rintro e w4 ⟨t2, rfl, ht2, hb⟩
    replace hB := hB.next hb
    clear hb
    obtain rfl : t2 = t1 := eq_of_toList ht2.out
    clear ht2 d2 z2
    go_wp2_with fail
    go_loop [12, 13] (fun nv iv => ∃ n k : Nat, nv = .int .i64 n ∧ iv = .int .i64 k ∧ k ≤ t2.size ∧ n ≤ k ∧ Hid (n = cnt47 (t2.toList.take k))) (fun _ iv => t2.size - (intOf iv).toNat)
    case atStart => exact ⟨0, 0, rfl, rfl, Nat.zero_le _, Nat.zero_le _, Lib.hid rfl⟩
    case round =>
      obtain ⟨n, k, rfl, rfl, hk, hnk, hg⟩ := hrel
      by_cases hlt : k < t2.size
      · have hltI : (k : Int) < (t2.size : Int) := by omega
        have hsg := hI.signs t2[k] (by rw [← toList_get t2 k hlt]; exact List.getElem_mem _)
        have hnew : Hid ((n + if t2[k] = 47 then 1 else 0) = cnt47 (t2.toList.take (k + 1))) := Lib.hid (by rw [take_snoc t2 k hlt, cnt47_snoc, ← hg.out])
        obtain ⟨g1, g2, g3, g4⟩ := hsg
        have g1' : decide ((t2[k].toNat : Int) ≤ 32) = false := decide_eq_false (by omega)
        have g2' : decide (127 ≤ (t2[k].toNat : Int)) = false := decide_eq_false (by omega)
        have g3' : ((t2[k].toNat : Int) == 59) = false := (u8n (d := 59)).2 g3
        have g4' : ((t2[k].toNat : Int) == 44) = false := (u8n (d := 44)).2 g4
        clear g1 g2 g3 g4
        by_cases h47 : t2[k] = 47
        · have q : ((t2[k].toNat : Int) == 47) = true := (u8n (d := 47)).1 h47
          rw [if_pos h47] at hnew
          replace h47 := Lib.hid h47
          go_wp2_with fail
          go_round
          case rel => exact ⟨n + 1, k + 1, by go_num, by go_num, by omega, by omega, hnew⟩
          case measure => simp [intOf]; omega
        · have q : ((t2[k].toNat : Int) == 47) = false := (u8n (d := 47)).2 h47
          rw [if_neg h47] at hnew
          replace h47 := Lib.hid h47
          go_wp2_with fail
          go_round
          case rel => exact ⟨n, k + 1, rfl, by go_num, by omega, by omega, hnew⟩
          case measure => simp [intOf]; omega
      · have hgeI : (t2.size : Int) ≤ (k : Int) := by omega
        obtain rfl : n = 1 := by
          have := hg.out
          rw [take_all t2 k (by omega), hI.cnt] at this
          exact this
        have hlow : Hid (lowerL t2.toList = t2.toList) := Lib.hid hI.low
        clear hg
        have hI' := Lib.hid hI
        clear hI
        go_wp2_with fail
        refine (lower_any t2 _ (by omega)).mono ?_
        rintro e w5 ⟨t3, rfl, ht3, hb⟩
        replace hB := hB.next hb
        clear hb
        obtain rfl : t3 = t2 := eq_of_toList (ht3.out.trans hlow.out)
        clear ht3
        go_wp2_with fail
        go_ret
        exact ⟨rfl, hB⟩
end Go.Proofs.YtdlgpmihjecdlaaDoor
