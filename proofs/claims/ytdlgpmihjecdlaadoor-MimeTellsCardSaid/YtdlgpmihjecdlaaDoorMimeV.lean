/- The contracts of the reference's small functions of layer 18: space, behind, find, token. -/
import Derived.Test.YtdlgpmihjecdlaaDoorMimeU
import Derived.Test.YtdlgpmihjecdlaaDoorMimeA
namespace Go.Proofs.YtdlgpmihjecdlaaDoor
open Go.RowKit
set_option linter.unusedVariables false
set_option linter.unusedSimpArgs false

theorem spaceR_any (c : Int) (w : World) :
    Calls Tryd.prog 23 #[.int .u8 c] w fun e w' => e = .returned (.bool (spZ c)) ∧ w = w' := by
  go_enter Tryd.func23, Tryd.ntmps23
  go_wp2
  all_goals (go_ret; exact ⟨ret_bool (by rw [Bool.eq_iff_iff]; simp [spZ]; omega), rfl⟩)
set_option maxHeartbeats 400000 in
theorem behindR_any (s : ByteArray) (w : World) (hs : s.size ≤ 1099511627776) :
    Calls Tryd.prog 22 #[.string s] w fun e w' => ∃ t : ByteArray, e = .returned (.string t) ∧ Hid (t.toList = rdropZ spZ s.toList) ∧ t.size ≤ s.size ∧ w = w' := by
  go_enter Tryd.func22, Tryd.ntmps22
  go_wp2_with fail
  go_loop [0] (fun v => ∃ u : ByteArray, v = .string u ∧ u.size ≤ s.size ∧ Hid (rdropZ spZ u.toList = rdropZ spZ s.toList)) (fun v => szOf v)
  case atStart => exact ⟨s, rfl, Nat.le_refl _, rfl⟩
  case round =>
    obtain ⟨u, rfl, hus, hu⟩ := hrel
    by_cases hgo : ∃ h : 0 < u.size, spZ (u[u.size - 1].toNat : Int) = true
    · obtain ⟨g0, gp⟩ := hgo
      have gne : (!u.toList.isEmpty) = true := by
        rw [extract1 u g0]; rfl
      have gx := Lib.hid (extractLast u g0)
      go_wp2_with ((with_reducible refine (spaceR_any _ _).mono ?_); rintro e w' ⟨rfl, rfl⟩)
      go_round
      case rel => exact ⟨_, rfl, by rw [← size_toList, toList_extract, List.length_drop, List.length_take, size_toList]; omega, Lib.hid (by rw [← hu.out, gx.out, rdropZ_yes gp])⟩
      case measure => simp [szOf]; omega
    · have ge : Hid (u.toList = rdropZ spZ s.toList) := Lib.hid (by
        rw [← hu.out]
        by_cases g0 : 0 < u.size
        · rw [extractLast u g0, rdropZ_no (by simpa using fun h => hgo ⟨g0, h⟩)]
        · rw [(toList_empty_iff u).2 (by omega)]; rfl)
      have gor : (∃ g0 : 0 < u.size, (!u.toList.isEmpty) = true ∧ spZ (u[u.size - 1].toNat : Int) = false) ∨ u.toList.isEmpty = true := by
        by_cases g0 : 0 < u.size
        · exact .inl ⟨g0, by rw [extract1 u g0]; rfl, by simpa using fun h => hgo ⟨g0, h⟩⟩
        · exact .inr (by rw [(toList_empty_iff u).2 (by omega)]; rfl)
      clear hgo hu
      rcases gor with ⟨g0, gne, gp⟩ | gne
      all_goals
        go_wp2_with ((with_reducible refine (spaceR_any _ _).mono ?_); rintro e w' ⟨rfl, rfl⟩)
        go_ret
        exact ⟨_, rfl, ge, hus, rfl⟩
theorem u8q {c d : UInt8} : (c = d → ((c.toNat : Int) == (d.toNat : Int)) = true) ∧ (c ≠ d → ((c.toNat : Int) == (d.toNat : Int)) = false) := by
  refine ⟨fun h => by subst h; simp, fun h => ?_⟩
  rw [beq_eq_false_iff_ne]
  exact fun h2 => h (UInt8.toNat_inj.1 (by omega))
theorem findR_any (s : ByteArray) (c : UInt8) (w : World) (hs : s.size ≤ 1099511627776) :
    Calls Tryd.prog 24 #[.string s, .int .u8 (c.toNat : Int)] w fun e w' => e = .returned (.int .i64 ((cutC c s.toList).1.length : Int)) ∧ w = w' := by
  have hlen := Lib.hid (size_toList s)
  go_enter Tryd.func24, Tryd.ntmps24
  go_wp2_with fail
  go_loop [5] (fun iv => ∃ k : Nat, iv = .int .i64 k ∧ k ≤ s.size ∧ Hid (∀ d ∈ s.toList.take k, d ≠ c)) (fun iv => s.size - (intOf iv).toNat)
  case atStart => exact ⟨0, rfl, Nat.zero_le _, Lib.hid (by simp)⟩
  case round =>
    obtain ⟨k, rfl, hk, hg⟩ := hrel
    by_cases hlt : k < s.size
    · have hltI : (k : Int) < (s.size : Int) := by omega
      by_cases h : s[k] = c
      · have hfin : Hid ((cutC c s.toList).1.length = k) := Lib.hid (by
          have e : s.toList = s.toList.take k ++ c :: s.toList.drop (k + 1) := by rw [← h, ← drop_cons s k hlt, List.take_append_drop]
          rw [e, cutC_has _ _ hg.out]
          rw [List.length_take, hlen.out]; omega)
        have q := u8q.1 h
        replace h := Lib.hid h
        go_wp2_with fail
        go_ret
        exact ⟨ret_int (by rw [hfin.out]), rfl⟩
      · have hnew : Hid (∀ d ∈ s.toList.take (k + 1), d ≠ c) := Lib.hid (by
          rw [take_snoc s k hlt]
          intro d hd
          rcases List.mem_append.1 hd with hd | hd
          · exact hg.out d hd
          · simp at hd; rw [hd]; exact h)
        have q := u8q.2 h
        replace h := Lib.hid h
        go_wp2_with fail
        go_round
        case rel => exact ⟨k + 1, by go_num, by omega, hnew⟩
        case measure => simp [intOf]; omega
    · have hgeI : (s.size : Int) ≤ (k : Int) := by omega
      have hfin : Hid ((cutC c s.toList).1.length = s.size) := Lib.hid (by
        have := hg.out
        rw [take_all s k (by omega)] at this
        rw [cutC_hasnot _ this, hlen.out])
      go_wp2_with fail
      go_ret
      exact ⟨ret_int (by rw [hfin.out]), rfl⟩
def signsB : ByteArray := ⟨#[33, 35, 36, 37, 38, 39, 42, 43, 45, 46, 94, 95, 96, 124, 126]⟩
theorem signsB_list : signsB.toList = signsL := toList_mk _
theorem signs_all : signsL.take 15 = signsL := rfl
theorem signs_snoc (k : Nat) (h : k < 15) (c : UInt8) : (signsL.take (k + 1)).contains c = ((signsL.take k).contains c || c == signsB[k]'h) := by
  have e := take_snoc signsB k h
  rw [signsB_list] at e
  rw [e]
  simp only [List.contains_append, List.contains_cons, List.contains_nil, Bool.or_false]
/-- A sign, ahead of the others: a letter, a digit, or neither. -/
theorem lead_ways (c : UInt8) : ∃ b, (letterZ (c.toNat : Int) || decide (0 ≤ digitZ (c.toNat : Int) 10)) = b ∧ tokC c = (b || signsL.contains c) ∧
    ((letterZ (c.toNat : Int) = true ∧ b = true) ∨ (letterZ (c.toNat : Int) = false ∧ decide (0 ≤ digitZ (c.toNat : Int) 10) = true ∧ b = true) ∨ (letterZ (c.toNat : Int) = false ∧ decide (0 ≤ digitZ (c.toNat : Int) 10) = false ∧ b = false)) := by
  refine ⟨_, rfl, rfl, ?_⟩
  cases hl : letterZ (c.toNat : Int)
  · by_cases hd : 0 ≤ digitZ (c.toNat : Int) 10
    · exact .inr (.inl ⟨rfl, decide_eq_true hd, by rw [decide_eq_true hd]; rfl⟩)
    · exact .inr (.inr ⟨rfl, decide_eq_false hd, by rw [decide_eq_false hd]; rfl⟩)
  · exact .inl ⟨rfl, rfl⟩
theorem signs_at (b : Bool) (c : UInt8) (j : Nat) (h : j < 15) : ((signsB[j]'h = c) → (b || (signsL.take (j + 1)).contains c) = true) ∧ (signsB[j]'h ≠ c → (b || (signsL.take (j + 1)).contains c) = (b || (signsL.take j).contains c)) := by
  rw [signs_snoc j h]
  refine ⟨fun e => ?_, fun e => ?_⟩
  · have : (c == signsB[j]) = true := by rw [e]; exact beq_self_eq_true c
    rw [this]; simp
  · have : (c == signsB[j]) = false := by rw [beq_eq_false_iff_ne]; exact fun x => e x.symm
    rw [this, Bool.or_false]
theorem signs_true (b : Bool) (c : UInt8) (j : Nat) (h : j < 15) (h2 : (b || (signsL.take j).contains c) = true) : (b || (signsL.take (j + 1)).contains c) = true := by
  rw [signs_snoc j h, ← Bool.or_assoc, h2]; rfl
set_option maxRecDepth 100000 in
set_option maxHeartbeats 4000000 in
theorem tokenR_any (s : ByteArray) (w : World) (hs : s.size ≤ 1099511627776) :
    Calls Tryd.prog 25 #[.string s] w (RetB w (tokB s.toList)) := by
  have hlen := Lib.hid (size_toList s)
  go_enter Tryd.func25, Tryd.ntmps25
  go_wp2_with fail
  obtain ⟨S, hS⟩ : ∃ S, S = signsB := ⟨_, rfl⟩
  have hSz : S.size = 15 := by rw [hS]; rfl
  rw [show (ByteArray.mk #[33, 35, 36, 37, 38, 39, 42, 43, 45, 46, 94, 95, 96, 124, 126]) = S from hS.symm]
  have hat : Hid (∀ (b : Bool) (c : UInt8) (j : Nat) (h : j < S.size), ((S[j]'h = c) → (b || (signsL.take (j + 1)).contains c) = true) ∧ (S[j]'h ≠ c → (b || (signsL.take (j + 1)).contains c) = (b || (signsL.take j).contains c))) := Lib.hid (by subst hS; exact signs_at)
  replace hS := Lib.hid hS
  replace hSz := Lib.hid hSz
  go_loopw [4, 5, 6] (fun iv _ _ wr => ∃ k : Nat, iv = .int .i64 k ∧ k ≤ s.size ∧ Hid ((s.toList.take k).all tokC = true) ∧ Below w.heap.size w wr) (fun iv _ _ _ => s.size - (intOf iv).toNat)
  case atStart => exact ⟨0, rfl, Nat.zero_le _, Lib.hid rfl, Below.refl _ _⟩
  case round =>
    obtain ⟨k, rfl, hk, hg, hB⟩ := hrel
    by_cases hlt : k < s.size
    · have hltI : (k : Int) < (s.size : Int) := by omega
      obtain ⟨b, hb1, hb2, hway⟩ := lead_ways s[k]
      replace hb1 := Lib.hid hb1
      replace hb2 := Lib.hid hb2
      obtain ⟨wo, rfl⟩ : ∃ wo : World, wo = wr := ⟨_, rfl⟩
      rcases hway with ⟨q1, rfl⟩ | ⟨q1, q2, rfl⟩ | ⟨q1, q2, rfl⟩
      all_goals
        go_wp2_with (first
          | (go_at_call 44; refine (letterr_any _ _).mono ?_; rintro e w' ⟨rfl, rfl⟩)
          | (go_at_call 45; refine (digitr_any _ _ _ (byte_nn _) (byte_le _)).mono ?_; rintro e w' ⟨rfl, rfl⟩))
        clear q1
        try clear q2
        go_loopw [5, 6] (fun fv jv wi => ∃ (j : Nat) (f : Bool), jv = .int .i64 j ∧ fv = .bool f ∧ j ≤ 15 ∧ Hid (((letterZ (s[k].toNat : Int) || decide (0 ≤ digitZ (s[k].toNat : Int) 10)) || (signsL.take j).contains s[k]) = f) ∧ Below w.heap.size w wi) (fun _ jv _ => 15 - (intOf jv).toNat)
        case atStart => exact ⟨0, _, rfl, rfl, by omega, Lib.hid (by rw [hb1.out]; rfl), hB⟩
        case round =>
          obtain ⟨j, f, rfl, rfl, hj, hf, hBi⟩ := hrel
          have hz : (S.size : Int) = 15 := by rw [hSz.out]; rfl
          by_cases hjl : j < 15
          · have hjI : (j : Int) < (S.size : Int) := by omega
            have hj0 : (0 : Int) ≤ (j : Int) := by omega
            have hjN : j < S.size := by omega
            have hk0 : (0 : Int) ≤ (k : Int) := by omega
            have hstep := hat.out (letterZ (s[k].toNat : Int) || decide (0 ≤ digitZ (s[k].toNat : Int) 10)) s[k] j hjN
            have hkeep := signs_true (letterZ (s[k].toNat : Int) || decide (0 ≤ digitZ (s[k].toNat : Int) 10)) s[k] j hjl
            replace hz := Lib.hid hz
            replace hkeep := Lib.hid hkeep
            cases f
            · by_cases he : S[j] = s[k]
              · have hnew := Lib.hid (hstep.1 he)
                have q := u8q.1 he
                replace he := Lib.hid he
                replace hstep := Lib.hid hstep
                go_wp2_with fail
                go_quiet (fail)
                go_wp2_with fail
                go_roundw
                case rel => exact ⟨j + 1, true, by go_num, rfl, by omega, hnew, below_drewN hBi _⟩
                case measure => simp [intOf]; omega
              · have hnew := Lib.hid ((hstep.2 he).trans hf.out)
                have q := u8q.2 he
                replace he := Lib.hid he
                replace hstep := Lib.hid hstep
                go_wp2_with fail
                go_quiet (fail)
                go_wp2_with fail
                go_roundw
                case rel => exact ⟨j + 1, false, by go_num, rfl, by omega, hnew, below_drewN hBi _⟩
                case measure => simp [intOf]; omega
            · have hnew := Lib.hid (hkeep.out hf.out)
              replace hstep := Lib.hid hstep
              go_wp2_with fail
              go_quiet (fail)
              go_wp2_with fail
              go_roundw
              case rel => exact ⟨j + 1, true, by go_num, rfl, by omega, hnew, below_drewN hBi _⟩
              case measure => simp [intOf]; omega
          · have hjE : j = 15 := by omega
            have htok : Hid (tokC s[k] = f) := Lib.hid (by rw [hb2.out, ← hf.out, hb1.out, hjE]; rfl)
            have hjI : (S.size : Int) ≤ (j : Int) := by omega
            replace hjE := Lib.hid hjE
            replace hz := Lib.hid hz
            cases f
            · have hno : Hid (tokB s.toList = false) := Lib.hid (by
                unfold tokB
                have e : s.toList = s.toList.take k ++ s[k] :: s.toList.drop (k + 1) := by rw [← drop_cons s k hlt, List.take_append_drop]
                rw [e, List.all_append, List.all_cons, htok.out]; simp)
              go_wp2_with fail
              go_ret
              exact ⟨ret_bool hno.out.symm, hBi⟩
            · have hnew : Hid ((s.toList.take (k + 1)).all tokC = true) := Lib.hid (by
                rw [take_snoc s k hlt, List.all_append, hg.out]; simp [htok.out])
              go_wp2_with fail
              go_roundw
              case rel => exact ⟨k + 1, by go_num, by omega, hnew, hBi⟩
              case measure => simp [intOf]; omega
    · have hgeI : (s.size : Int) ≤ (k : Int) := by omega
      have hall : Hid (s.toList.all tokC = true) := Lib.hid (by have := hg.out; rw [take_all s k (by omega)] at this; exact this)
      cases hem : s.toList.isEmpty
      · have hfin : Hid (tokB s.toList = true) := Lib.hid (by unfold tokB; rw [hem, hall.out]; rfl)
        go_wp2_with fail
        go_ret
        exact ⟨ret_bool hfin.out.symm, hB⟩
      · have hfin : Hid (tokB s.toList = false) := Lib.hid (by unfold tokB; rw [hem]; rfl)
        go_wp2_with fail
        go_ret
        exact ⟨ret_bool hfin.out.symm, hB⟩
end Go.Proofs.YtdlgpmihjecdlaaDoor
