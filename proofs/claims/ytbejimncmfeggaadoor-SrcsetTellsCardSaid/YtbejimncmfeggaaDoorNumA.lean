/- The contracts of number.Whole and the reference's Whole. -/
import Derived.Test.YtbejimncmfeggaaDoorFourC
namespace Go.Proofs.YtbejimncmfeggaaDoor
open Go.RowKit
set_option linter.unusedVariables false

def maxI : Nat := 9223372036854775807
theorem sat_step {acc d : Nat} (hd : d ≤ 9) : (if (maxI - d) / 10 < min acc maxI then maxI else min acc maxI * 10 + d) = min (acc * 10 + d) maxI := by
  unfold maxI
  split <;> omega
set_option maxRecDepth 100000 in
set_option maxHeartbeats 1000000 in
theorem whole_any (s : ByteArray) (w : World) (hs : s.size ≤ 140737488355328) :
    Calls Tryd.prog 37 #[.string s] w (RetN maxI w (digs1 10 s.toList)) := by
  cases hem : s.toList.isEmpty
  · have hd1 := Lib.hid (digs1_some (base := 10) hem)
    go_enter Tryd.func37, Tryd.ntmps37
    go_wp2_with fail
    go_loop [4, 11] (fun nv iv => ∃ k m acc : Nat, iv = .int .i64 k ∧ nv = .int .i64 m ∧ k ≤ s.size ∧ Hid (m ≤ maxI) ∧ Hid (m = min acc maxI) ∧ Hid (digsGo 10 acc (s.toList.drop k) = digsGo 10 0 s.toList)) (fun _ i => s.size - (intOf i).toNat)
    case atStart => exact ⟨0, 0, 0, rfl, rfl, Nat.zero_le _, Lib.hid (Nat.zero_le _), rfl, Lib.hid (by rw [List.drop_zero])⟩
    case round =>
      obtain ⟨k, m, acc, rfl, rfl, hk, hm, hmc, hg⟩ := hrel
      by_cases hlt : k < s.size
      · have hdr := drop_cons s k hlt
        have hltI : (k : Int) < (s.size : Int) := by omega
        rw [hdr] at hg
        clear hdr
        by_cases hd : digitZ (s[k].toNat : Int) 10 < 0
        · have hno : Hid (digs1 10 s.toList = none) := Lib.hid (by rw [hd1.out, ← hg.out, digsGo, if_pos (show digitZ (s[k].toNat : Int) ((10 : Nat) : Int) < 0 from hd)])
          go_wp2_with (go_at_call 48; refine (digit_any _ _ _ (byte_nn _) (byte_le _)).mono ?_; rintro e w' ⟨rfl, rfl⟩)
          go_ret2
          unfold RetN
          rw [hno.out]
          exact ⟨rfl, rfl⟩
        · have hnew : Hid (digsGo 10 (acc * 10 + (digitZ (s[k].toNat : Int) ((10 : Nat) : Int)).toNat) (s.toList.drop (k + 1)) = digsGo 10 0 s.toList) := Lib.hid (by rw [← hg.out, digsGo, if_neg (show ¬ digitZ (s[k].toNat : Int) ((10 : Nat) : Int) < 0 from hd)])
          obtain ⟨d, hdd⟩ : ∃ d : Nat, digitZ (s[k].toNat : Int) 10 = (d : Int) := ⟨(digitZ (s[k].toNat : Int) 10).toNat, by omega⟩
          have hd9 : d ≤ 9 := by
            have : digitZ (s[k].toNat : Int) 10 ≤ 9 := by unfold digitZ; omega
            omega
          have hdig := fun w => digit_any (s[k].toNat : Int) 10 w (byte_nn _) (byte_le _)
          rw [hdd] at hdig hd
          rw [show digitZ (s[k].toNat : Int) ((10 : Nat) : Int) = (d : Int) from hdd] at hnew
          replace hdig := Lib.hid hdig
          replace hdd := Lib.hid hdd
          have hst := sat_step (acc := acc) hd9
          rw [← hmc.out] at hst
          have hmM := hm.out
          have e1 : IntKind.i64.wrap (9223372036854775807 - (d : Int)) = 9223372036854775807 - (d : Int) := IntWalk.i64_in _ (by omega)
          have e4 : (9223372036854775807 - (d : Int)) / 10 = (((maxI - d) / 10 : Nat) : Int) := by unfold maxI; omega
          have e5 : (9223372036854775807 - (d : Int)).tdiv 10 = (((maxI - d) / 10 : Nat) : Int) := by rw [Int.tdiv_eq_ediv_of_nonneg (by omega)]; exact e4
          generalize hq : (maxI - d) / 10 = q at hst e4 e5
          have hcs : (decide (q < m) = true ∧ Hid (maxI = min (acc * 10 + d) maxI)) ∨ (decide (q < m) = false ∧ Hid (m * 10 + d ≤ maxI) ∧ Hid (m * 10 + d = min (acc * 10 + d) maxI)) := by
            by_cases hc : q < m
            · rw [if_pos hc] at hst
              exact .inl ⟨decide_eq_true hc, Lib.hid hst⟩
            · rw [if_neg hc] at hst
              exact .inr ⟨decide_eq_false hc, Lib.hid (by rw [hst]; exact Nat.min_le_right _ _), Lib.hid hst⟩
          replace hq := Lib.hid hq
          clear hst hmM hg
          rcases hcs with ⟨c1, c2⟩ | ⟨c1, c3, c2⟩
          · go_wp2_with (go_at_call 48; refine (hdig.out _).mono ?_; rintro e w' ⟨rfl, rfl⟩)
            go_round
            case rel => exact ⟨k + 1, maxI, acc * 10 + d, by go_num, rfl, by omega, Lib.hid (Nat.le_refl _), c2, hnew⟩
            case measure => simp [intOf]; omega
          · have e6 : IntKind.i64.wrap ((m : Int) * 10) = (m : Int) * 10 := IntWalk.i64_in _ (by have := c3.out; unfold maxI at this; omega)
            have e7 : IntKind.i64.wrap ((m : Int) * 10 + (d : Int)) = (m : Int) * 10 + (d : Int) := IntWalk.i64_in _ (by have := c3.out; unfold maxI at this; omega)
            go_wp2_with (go_at_call 48; refine (hdig.out _).mono ?_; rintro e w' ⟨rfl, rfl⟩)
            go_round
            case rel => exact ⟨k + 1, m * 10 + d, acc * 10 + d, by go_num, by go_num, by omega, c3, c2, hnew⟩
            case measure => simp [intOf]; omega
      · have hfin : Hid (digs1 10 s.toList = some acc) := Lib.hid (by rw [hd1.out, ← hg.out, drop_end s k (by omega)]; rfl)
        have hgeI : (s.size : Int) ≤ (k : Int) := by omega
        clear hg
        go_wp2_with fail
        go_ret2
        unfold RetN
        rw [hfin.out, hmc.out]
        exact ⟨rfl, rfl⟩
  · have hno : Hid (digs1 10 s.toList = none) := Lib.hid (by unfold digs1; rw [if_pos (by simpa using hem)])
    go_enter Tryd.func37, Tryd.ntmps37
    go_wp2_with fail
    go_ret2
    unfold RetN
    rw [hno.out]
    exact ⟨rfl, rfl⟩
set_option maxRecDepth 100000 in
set_option maxHeartbeats 1000000 in
theorem wholeR_any (s : ByteArray) (w : World) (hs : s.size ≤ 140737488355328) :
    Calls Tryd.prog 39 #[.string s] w (RetN maxI w (digs1 10 s.toList)) := by
  go_enter Tryd.func39, Tryd.ntmps39
  go_wp2_with fail
  go_loop [4, 5] (fun nv iv => ∃ k m acc : Nat, iv = .int .i64 k ∧ nv = .int .i64 m ∧ k ≤ s.size ∧ Hid (m ≤ maxI) ∧ Hid (m = min acc maxI) ∧ Hid (digsGo 10 acc (s.toList.drop k) = digsGo 10 0 s.toList)) (fun _ i => s.size - (intOf i).toNat)
  case atStart => exact ⟨0, 0, 0, rfl, rfl, Nat.zero_le _, Lib.hid (Nat.zero_le _), rfl, Lib.hid (by rw [List.drop_zero])⟩
  case round =>
    obtain ⟨k, m, acc, rfl, rfl, hk, hm, hmc, hg⟩ := hrel
    by_cases hlt : k < s.size
    · have hdr := drop_cons s k hlt
      have hltI : (k : Int) < (s.size : Int) := by omega
      rw [hdr] at hg
      clear hdr
      by_cases hd : digitZ (s[k].toNat : Int) 10 < 0
      · have hno : Hid (digs1 10 s.toList = none) := Lib.hid (by unfold digs1; rw [← hg.out, digsGo, if_pos (show digitZ (s[k].toNat : Int) ((10 : Nat) : Int) < 0 from hd)]; split <;> rfl)
        go_wp2_with (go_at_call 54; refine (digitr_any _ _ _ (byte_nn _) (byte_le _)).mono ?_; rintro e w' ⟨rfl, rfl⟩)
        go_ret2
        unfold RetN
        rw [hno.out]
        exact ⟨rfl, rfl⟩
      · have hnew : Hid (digsGo 10 (acc * 10 + (digitZ (s[k].toNat : Int) ((10 : Nat) : Int)).toNat) (s.toList.drop (k + 1)) = digsGo 10 0 s.toList) := Lib.hid (by rw [← hg.out, digsGo, if_neg (show ¬ digitZ (s[k].toNat : Int) ((10 : Nat) : Int) < 0 from hd)])
        obtain ⟨d, hdd⟩ : ∃ d : Nat, digitZ (s[k].toNat : Int) 10 = (d : Int) := ⟨(digitZ (s[k].toNat : Int) 10).toNat, by omega⟩
        have hd9 : d ≤ 9 := by
          have : digitZ (s[k].toNat : Int) 10 ≤ 9 := by unfold digitZ; omega
          omega
        have hdig := fun w => digitr_any (s[k].toNat : Int) 10 w (byte_nn _) (byte_le _)
        rw [hdd] at hdig hd
        rw [show digitZ (s[k].toNat : Int) ((10 : Nat) : Int) = (d : Int) from hdd] at hnew
        replace hdig := Lib.hid hdig
        replace hdd := Lib.hid hdd
        have hst := sat_step (acc := acc) hd9
        rw [← hmc.out] at hst
        have hmM := hm.out
        have e1 : IntKind.i64.wrap (9223372036854775807 - (d : Int)) = 9223372036854775807 - (d : Int) := IntWalk.i64_in _ (by omega)
        have e4 : (9223372036854775807 - (d : Int)) / 10 = (((maxI - d) / 10 : Nat) : Int) := by unfold maxI; omega
        have e5 : (9223372036854775807 - (d : Int)).tdiv 10 = (((maxI - d) / 10 : Nat) : Int) := by rw [Int.tdiv_eq_ediv_of_nonneg (by omega)]; exact e4
        generalize hq : (maxI - d) / 10 = q at hst e4 e5
        have hcs : (decide (q < m) = true ∧ Hid (maxI = min (acc * 10 + d) maxI)) ∨ (decide (q < m) = false ∧ Hid (m * 10 + d ≤ maxI) ∧ Hid (m * 10 + d = min (acc * 10 + d) maxI)) := by
          by_cases hc : q < m
          · rw [if_pos hc] at hst
            exact .inl ⟨decide_eq_true hc, Lib.hid hst⟩
          · rw [if_neg hc] at hst
            exact .inr ⟨decide_eq_false hc, Lib.hid (by rw [hst]; exact Nat.min_le_right _ _), Lib.hid hst⟩
        replace hq := Lib.hid hq
        clear hst hmM hg
        rcases hcs with ⟨c1, c2⟩ | ⟨c1, c3, c2⟩
        · go_wp2_with (go_at_call 54; refine (hdig.out _).mono ?_; rintro e w' ⟨rfl, rfl⟩)
          go_round
          case rel => exact ⟨k + 1, maxI, acc * 10 + d, by go_num, rfl, by omega, Lib.hid (Nat.le_refl _), c2, hnew⟩
          case measure => simp [intOf]; omega
        · have e6 : IntKind.i64.wrap (10 * (m : Int)) = 10 * (m : Int) := IntWalk.i64_in _ (by have := c3.out; unfold maxI at this; omega)
          have e7 : IntKind.i64.wrap (10 * (m : Int) + (d : Int)) = 10 * (m : Int) + (d : Int) := IntWalk.i64_in _ (by have := c3.out; unfold maxI at this; omega)
          have e8 : (m : Int) < 9223372036854775807 := by have := c3.out; unfold maxI at this; omega
          have c4 : decide ((q : Int) < (m : Int)) = false := decide_eq_false (by have := of_decide_eq_false c1; omega)
          have e9 : Hid ((10 : Int) * (m : Int) + (d : Int) = ((m * 10 + d : Nat) : Int)) := Lib.hid (by omega)
          have e10 : Hid ((m : Int) = (m : Int)) := Lib.hid rfl
          clear c1
          generalize (m : Int) = z at e6 e7 e8 c4 e9 e10 ⊢
          go_wp2_with (go_at_call 54; refine (hdig.out _).mono ?_; rintro e w' ⟨rfl, rfl⟩)
          go_round
          case rel => exact ⟨k + 1, m * 10 + d, acc * 10 + d, by go_num, congrArg (Value.int .i64) e9.out, by omega, c3, c2, hnew⟩
          case measure => simp [intOf]; omega
    · have hgeI : (s.size : Int) ≤ (k : Int) := by omega
      by_cases h0 : s.size = 0
      · have hfin : Hid (digs1 10 s.toList = none) := Lib.hid (by unfold digs1; rw [if_pos ((toList_empty_iff s).2 h0)])
        have hm0 : m = 0 := by
          have h1 : s.toList = [] := (toList_empty_iff s).2 h0
          have := hg.out
          rw [h1] at this
          simp [digsGo] at this
          rw [hmc.out, this]; rfl
        subst hm0
        have h0I : decide (0 < s.size) = false := decide_eq_false (by omega)
        replace h0 := Lib.hid h0
        clear hg
        go_wp2_with fail
        go_ret2
        unfold RetN
        rw [hfin.out]
        exact ⟨rfl, rfl⟩
      · have h0I : decide (0 < s.size) = true := decide_eq_true (by omega)
        have hfin : Hid (digs1 10 s.toList = some acc) := Lib.hid (by
          unfold digs1
          rw [if_neg (fun h => h0 ((toList_empty_iff s).1 h)), ← hg.out, drop_end s k (by omega)]; rfl)
        clear hg
        go_wp2_with fail
        go_ret2
        unfold RetN
        rw [hfin.out, hmc.out]
        exact ⟨rfl, rfl⟩
end Go.Proofs.YtbejimncmfeggaaDoor
