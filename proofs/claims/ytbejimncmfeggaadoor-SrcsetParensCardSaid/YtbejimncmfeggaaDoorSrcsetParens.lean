/- The walk of SrcsetParens. -/
import Derived.Test.YtbejimncmfeggaaDoorSrcL
namespace Go.Proofs.YtbejimncmfeggaaDoor
open Go.RowKit
set_option linter.unusedVariables false
set_option linter.unusedSimpArgs false

theorem byte_is {c d : UInt8} : (c = d → ((c.toNat : Int) == (d.toNat : Int)) = true) ∧ (c ≠ d → ((c.toNat : Int) == (d.toNat : Int)) = false) := u8c
set_option maxRecDepth 100000 in
set_option maxHeartbeats 2000000 in
theorem srcsetParens_walk (s t : ByteArray) (w : World) (ws : s.size ≤ maxLen) (wt : t.size ≤ maxLen) :
    Calls Tryd.prog 6 #[.string s, .string t] w (RetB w true) := by
  have hB : Below w.heap.size w w := Below.refl _ _
  unfold maxLen at ws wt
  go_enter Tryd.func6, Tryd.ntmps6
  go_wp2_with fail
  refine (small19_any _).mono ?_
  rintro e w1 ⟨rfl, hb⟩
  replace hB := hB.next hb
  clear hb
  by_cases hbig : 200 < s.size ∨ 200 < t.size
  · have hway : (200 : Int) < (s.size : Int) ∨ ((s.size : Int) ≤ 200 ∧ (200 : Int) < (t.size : Int)) := by omega
    clear hbig
    rcases hway with q1 | ⟨q1, q2⟩
    all_goals
      go_wp2_with fail
      go_ret
      exact ⟨rfl, hB⟩
  have q1 : (s.size : Int) ≤ 200 := by omega
  have q2 : (t.size : Int) ≤ 200 := by omega
  clear hbig
  go_wp2_with fail
  go_loop [6] (fun iv => ∃ (k : Nat), iv = .int .i64 k ∧ k ≤ s.size ∧ Hid (∀ c ∈ s.toList.take k, c ≠ 41)) (fun iv => s.size - (intOf iv).toNat)
  case atStart => exact ⟨0, rfl, by omega, Lib.hid (by intro c hc; simp at hc)⟩
  case round =>
    obtain ⟨k, rfl, hk, hno⟩ := hrel
    by_cases hkl : k < s.size
    · have hkI : (k : Int) < (s.size : Int) := by omega
      by_cases he : s[k] = 41
      · have q : ((s[k].toNat : Int) == 41) = true := byte_is.1 he
        replace he := Lib.hid he
        go_wp2_with fail
        go_ret
        exact ⟨rfl, hB⟩
      · have q : ((s[k].toNat : Int) == 41) = false := byte_is.2 he
        have hnew : Hid (∀ c ∈ s.toList.take (k + 1), c ≠ 41) := Lib.hid (by
          rw [take_snoc s k hkl]
          intro c hc
          rcases List.mem_append.1 hc with hc | hc
          · exact hno.out c hc
          · rw [List.mem_singleton.1 hc]; exact he)
        replace he := Lib.hid he
        go_wp2_with fail
        go_round
        case rel => exact ⟨k + 1, by go_num, by omega, hnew⟩
        case measure => simp [intOf]; omega
    · have hkI : (s.size : Int) ≤ (k : Int) := by omega
      have hall : ∀ c ∈ s.toList, c ≠ 41 := by
        have := hno.out
        rwa [List.take_of_length_le (by rw [size_toList]; omega)] at this
      clear hno
      have n1 : (ByteArray.mk #[97, 32, 40] ++ s).toList = 97 :: 32 :: 40 :: s.toList := by
        rw [toList_append, show (ByteArray.mk #[97, 32, 40]).toList = [97, 32, 40] from toList_mk _]; rfl
      have n2 : (ByteArray.mk #[97, 32, 40] ++ s ++ ByteArray.mk #[41, 44, 32] ++ t).toList = 97 :: 32 :: 40 :: (s.toList ++ 41 :: 44 :: 32 :: t.toList) := by
        rw [toList_append, toList_append, toList_append, show (ByteArray.mk #[97, 32, 40]).toList = [97, 32, 40] from toList_mk _, show (ByteArray.mk #[41, 44, 32]).toList = [41, 44, 32] from toList_mk _]; simp
      have e1 := splL_paren_end s.toList hall
      have e2 := splL_paren s.toList t.toList hall
      rw [← n1] at e1
      rw [← n2] at e2
      have z1 : (ByteArray.mk #[97, 32, 40] ++ s).size ≤ 900000 := by
        rw [ByteArray.size_append]; show 3 + s.size ≤ _; omega
      have z2 : (ByteArray.mk #[97, 32, 40] ++ s ++ ByteArray.mk #[41, 44, 32] ++ t).size ≤ 900000 := by
        simp only [ByteArray.size_append]; show 3 + s.size + 3 + t.size ≤ _; omega
      replace e1 := Lib.hid e1
      replace e2 := Lib.hid e2
      replace hall := Lib.hid hall
      clear n1 n2
      go_wp2_with fail
      refine (split_at _ _ z1).mono ?_
      rintro e w2 ⟨pa, na, ca, la, rfl, h1, hb⟩
      rw [e1.out] at h1
      obtain rfl := h1.none
      replace hB := hB.next hb
      clear hb h1
      go_wp2_with fail
      refine (split_at _ _ z2).mono ?_
      rintro e w3 ⟨pb, nb, cb, lb, rfl, h2, hb⟩
      rw [e2.out] at h2
      replace hB := hB.next hb
      clear hb
      go_wp2_with fail
      refine (split_at _ _ (by omega)).mono ?_
      rintro e w4 ⟨pc, nc, cc, lc, rfl, h3, hb⟩
      replace h2 := h2.below hb (Nat.le_refl _)
      replace hB := hB.next hb
      clear hb
      go_wp2_with fail
      refine (same_at h2 h3).mono ?_
      rintro e w5 ⟨rfl, hb⟩
      replace hB := hB.next hb
      clear hb h2 h3
      go_wp2_with fail
      go_ret
      exact ⟨rfl, hB⟩
end Go.Proofs.YtbejimncmfeggaaDoor
