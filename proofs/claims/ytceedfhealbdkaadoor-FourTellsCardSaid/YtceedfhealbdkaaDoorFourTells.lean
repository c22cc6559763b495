/- The contracts of the reference's Ends and Parse; the walk of FourTells. -/
import Derived.Test.YtceedfhealbdkaaDoorFourRef
import Derived.Test.YtceedfhealbdkaaDoorRefW
namespace Go.Proofs.YtceedfhealbdkaaDoor
open Go.RowKit
set_option linter.unusedVariables false

set_option maxHeartbeats 1000000 in
theorem endsR_any (s : ByteArray) (w : World) (hs : s.size < 4294967281) :
    Calls Tryd.prog 13 #[.string s] w (RetB w (endsL s.toList)) := by
  go_enter Tryd.func13, Tryd.ntmps13
  go_wp2_with fail
  refine (partsR_any s _ (by omega)).mono ?_
  rintro e w1 ⟨v, l, rfl, hl, hrd, hb⟩
  have hll : Hid ((partsL s.toList).length = l.length) := Lib.hid (by have := congrArg List.length hl.out; rwa [List.length_map, eq_comm] at this)
  have hn0 : 0 < l.length := by rw [← hll.out]; exact List.length_pos_iff.2 (partsL_ne _)
  have hn1 : l.length ≤ 4294967281 := by rw [← hll.out]; have := partsL_len s.toList; rw [size_toList] at this; omega
  obtain ⟨g, o, c, rfl, hcc⟩ := read_last hrd hn0
  have hcl := hcc (l.length - 1) (by omega)
  have hz : l[l.length - 1].size ≤ 1099511627776 := by have := mem_toList hl.out (partsL_sum s.toList) (l.length - 1) (by omega); rw [size_toList] at this; omega
  have hlast := Lib.hid (last_of hl.out hn0)
  have e1 : IntKind.i64.wrap ((l.length : Int) - 1) = (l.length : Int) - 1 := IntWalk.i64_in _ (by omega)
  have e2 : (o : Int) + ((l.length : Int) - 1) = ((o + (l.length - 1) : Nat) : Int) := by omega
  clear hrd hcc
  replace e2 := Lib.hid e2
  generalize hT : l[l.length - 1] = t at hcl hz hlast
  replace hT := Lib.hid hT
  have hn := Lib.hid (fun w => numberR_any t w hz)
  have hE : Hid (endsL s.toList = ((digs1 10 t.toList).isSome || (numV t.toList).isSome)) := Lib.hid (by unfold endsL; rw [hlast.out])
  cases hq : (numV t.toList).isSome
  · have hE2 : Hid (endsL s.toList = (digs1 10 t.toList).isSome) := Lib.hid (by rw [hE.out, hq, Bool.or_false])
    replace hq := Lib.hid hq
    go_wp2_with fail
    refine (hn.out _).mono ?_
    rintro e w2 ⟨rfl, rfl⟩
    rw [hq.out]
    go_wp2_with fail
    go_loop [7] (fun iv => ∃ k acc : Nat, iv = .int .i64 k ∧ k ≤ t.size ∧ Hid (digsGo 10 acc (t.toList.drop k) = digsGo 10 0 t.toList)) (fun iv => t.size - (intOf iv).toNat)
    case atStart => exact ⟨0, 0, rfl, Nat.zero_le _, Lib.hid (by rw [List.drop_zero])⟩
    case round =>
      obtain ⟨k, acc, rfl, hk, hg⟩ := hrel
      by_cases hlt : k < t.size
      · have hdr := drop_cons t k hlt
        have hltI : (k : Int) < (t.size : Int) := by omega
        rw [hdr] at hg
        clear hdr
        by_cases hd : digitZ (t[k].toNat : Int) 10 < 0
        · have hno : Hid (endsL s.toList = false) := Lib.hid (by
            rw [hE2.out]
            unfold digs1
            rw [← hg.out, digsGo, if_pos (show digitZ (t[k].toNat : Int) ((10 : Nat) : Int) < 0 from hd)]
            split <;> rfl)
          go_wp2_with (go_at_call 24; refine (digitr_any _ _ _ (byte_nn _) (byte_le _)).mono ?_; rintro e w' ⟨rfl, rfl⟩)
          go_ret
          exact ⟨ret_bool hno.out.symm, hb⟩
        · have hnew : Hid (digsGo 10 (acc * 10 + (digitZ (t[k].toNat : Int) 10).toNat) (t.toList.drop (k + 1)) = digsGo 10 0 t.toList) := Lib.hid (by rw [← hg.out, digsGo, if_neg (show ¬ digitZ (t[k].toNat : Int) ((10 : Nat) : Int) < 0 from hd)]; rfl)
          have hd2 : 0 ≤ digitZ (t[k].toNat : Int) 10 := by omega
          clear hg
          go_wp2_with (go_at_call 24; refine (digitr_any _ _ _ (byte_nn _) (byte_le _)).mono ?_; rintro e w' ⟨rfl, rfl⟩)
          go_round
          case rel => exact ⟨k + 1, _, by go_num, by omega, hnew⟩
          case measure => simp [intOf]; omega
      · have hfin : Hid (endsL s.toList = !t.toList.isEmpty) := Lib.hid (by
          rw [hE2.out]
          unfold digs1
          rw [← hg.out, drop_end t k (by omega), digsGo]
          cases t.toList <;> rfl)
        have hgeI : (t.size : Int) ≤ (k : Int) := by omega
        clear hg
        go_wp2_with fail
        go_ret
        exact ⟨ret_bool (by rw [hfin.out]), hb⟩
  · have hE2 : Hid (endsL s.toList = true) := Lib.hid (by rw [hE.out, hq, Bool.or_true])
    replace hq := Lib.hid hq
    go_wp2_with fail
    refine (hn.out _).mono ?_
    rintro e w2 ⟨rfl, rfl⟩
    rw [hq.out]
    go_wp2_with fail
    go_ret
    exact ⟨ret_bool hE2.out.symm, hb⟩
set_option maxRecDepth 100000 in
set_option maxHeartbeats 2000000 in
theorem parseR_any (s : ByteArray) (w : World) (hs : s.size < 4294967281) :
    Calls Tryd.prog 11 #[.string s] w (RetU w (parseL s.toList)) := by
  go_enter Tryd.func11, Tryd.ntmps11
  go_wp2_with fail
  refine (partsR_any s _ (by omega)).mono ?_
  rintro e w1 ⟨v, l, rfl, hl, hrd, hb⟩
  have hll : Hid ((partsL s.toList).length = l.length) := Lib.hid (by have := congrArg List.length hl.out; rwa [List.length_map, eq_comm] at this)
  have hn0 : 0 < l.length := by rw [← hll.out]; exact List.length_pos_iff.2 (partsL_ne _)
  obtain ⟨g, o, c, rfl, hcc⟩ := read_last hrd hn0
  clear hrd
  by_cases h4 : 4 < l.length
  · have hq : (4 : Int) < (l.length : Int) := by omega
    have hno : Hid (parseL s.toList = none) := Lib.hid (by unfold parseL parseV; rw [hll.out, if_pos h4])
    replace hcc := Lib.hid hcc
    go_wp2_with fail
    go_ret2
    exact retU_none hno.out hb
  have hq : (l.length : Int) ≤ 4 := by omega
  have hP : Hid (parseL s.toList = parseGo 0 (partsL s.toList) 0) := Lib.hid (by unfold parseL parseV; rw [hll.out, if_neg h4])
  have hsz : ∀ i (h : i < l.length), l[i].size ≤ 4294967281 := fun i hi => by
    have := mem_toList hl.out (partsL_sum s.toList) i hi
    rw [size_toList] at this; omega
  have hdr : ∀ i (h : i < l.length), (partsL s.toList).drop i = l[i].toList :: (partsL s.toList).drop (i + 1) := fun i hi => by
    rw [← hl.out, List.drop_eq_getElem_cons (by simpa using hi)]; simp
  replace hcc := Lib.hid hcc
  replace hsz := Lib.hid hsz
  replace hdr := Lib.hid hdr
  go_wp2_with fail
  go_loop [6, 7, 8] (fun nv rv iv => ∃ k sum R : Nat, iv = .int .i64 k ∧ nv = .int .i64 sum ∧ rv = .int .i64 R ∧ k ≤ l.length ∧ sum ≤ 4294967296 ∧ Hid (R = 2 ^ (8 * (4 - k))) ∧ Hid (sum + 2 ^ (8 * (4 - k)) ≤ 4294967296 ∨ k = l.length ∧ sum < 4294967296) ∧ Hid (parseGo k ((partsL s.toList).drop k) sum = parseL s.toList)) (fun _ _ i => l.length - (intOf i).toNat)
  case atStart => exact ⟨0, 0, 4294967296, rfl, rfl, rfl, Nat.zero_le _, by omega, Lib.hid (by decide), Lib.hid (.inl (by decide)), Lib.hid (by rw [List.drop_zero, hP.out])⟩
  case round =>
    obtain ⟨k, sum, R, rfl, rfl, rfl, hk, hsum, hR, hsb, hg⟩ := hrel
    by_cases hlt : k < l.length
    · have hltI : (k : Int) < (l.length : Int) := by omega
      have hcell := hcc.out k hlt
      have hz := hsz.out k hlt
      have hn := Lib.hid (fun w => numberR_any l[k] w (by omega))
      have hd1 := Lib.hid (hdr.out k hlt)
      go_wp2_with fail
      refine (hn.out _).mono ?_
      rintro e w2 ⟨rfl, rfl⟩
      cases hv : numV l[k].toList with
      | none =>
        have hno : Hid (parseL s.toList = none) := Lib.hid (by
          rw [← hg.out, hd1.out]
          cases hr : (partsL s.toList).drop (k + 1) with
          | nil => rw [parseGo, hv]
          | cons y r => rw [parseGo, hv])
        go_wp2_with fail
        go_ret2
        exact retU_none hno.out hb
      | some v =>
        obtain ⟨m, hme⟩ : ∃ m, m = min v 8589934592 := ⟨_, rfl⟩
        have hmC : m ≤ 8589934592 := by rw [hme]; exact Nat.min_le_right _ _
        rw [show min ((some v).getD 0) 8589934592 = m from hme.symm, show (some v).isSome = true from rfl]
        replace hme := Lib.hid hme
        by_cases hla : k + 1 = l.length
        · have hd2 : (partsL s.toList).drop (k + 1) = [] := List.drop_of_length_le (by have := hll.out; omega)
          have hg2 : Hid (parseL s.toList = if v < 2 ^ (8 * (4 - k)) then some (sum + v) else none) := Lib.hid (by rw [← hg.out, hd1.out, hd2, parseGo, hv])
          clear hd2
          replace hv := Lib.hid hv
          rcases (show k = 0 ∨ k = 1 ∨ k = 2 ∨ k = 3 by omega) with rfl | rfl | rfl | rfl
          · obtain rfl : R = 4294967296 := hR.out
            have hle : (l.length : Int) - 1 = 0 := by omega
            have hsb2 : sum + 4294967296 ≤ 4294967296 := by have := hsb.out; omega
            by_cases hvP : v < 4294967296
            · have hmv : m = v := by have := hme.out; omega
              subst hmv
              have hvI : decide ((4294967296 : Int) ≤ (m : Int)) = false := decide_eq_false (by omega)
              have hnew : Hid (parseGo 1 ((partsL s.toList).drop 1) (sum + m) = parseL s.toList) := Lib.hid (by
                rw [hg2.out, if_pos hvP, List.drop_of_length_le (by have := hll.out; omega), parseGo])
              have hs3 : sum + m < 4294967296 := by omega
              replace hsb2 := Lib.hid hsb2
              replace hs3 := Lib.hid hs3
              replace hvP := Lib.hid hvP
              go_wp2_with fail
              go_round
              case rel => exact ⟨1, sum + m, 16777216, by go_num, by go_num, by go_num, by omega, by have := hs3.out; omega, Lib.hid (by decide), Lib.hid (.inr ⟨by omega, hs3.out⟩), hnew⟩
              case measure => simp [intOf]; omega
            · have hvI : 4294967296 ≤ (m : Int) := by have := hme.out; omega
              have hno : Hid (parseL s.toList = none) := Lib.hid (by rw [hg2.out, if_neg hvP])
              replace hsb2 := Lib.hid hsb2
              go_wp2_with fail
              go_ret2
              exact retU_none hno.out hb
          · obtain rfl : R = 16777216 := hR.out
            have hle : (l.length : Int) - 1 = 1 := by omega
            have hsb2 : sum + 16777216 ≤ 4294967296 := by have := hsb.out; omega
            by_cases hvP : v < 16777216
            · have hmv : m = v := by have := hme.out; omega
              subst hmv
              have hvI : decide ((16777216 : Int) ≤ (m : Int)) = false := decide_eq_false (by omega)
              have hnew : Hid (parseGo 2 ((partsL s.toList).drop 2) (sum + m) = parseL s.toList) := Lib.hid (by
                rw [hg2.out, if_pos hvP, List.drop_of_length_le (by have := hll.out; omega), parseGo])
              have hs3 : sum + m < 4294967296 := by omega
              replace hsb2 := Lib.hid hsb2
              replace hs3 := Lib.hid hs3
              replace hvP := Lib.hid hvP
              go_wp2_with fail
              go_round
              case rel => exact ⟨2, sum + m, 65536, by go_num, by go_num, by go_num, by omega, by have := hs3.out; omega, Lib.hid (by decide), Lib.hid (.inr ⟨by omega, hs3.out⟩), hnew⟩
              case measure => simp [intOf]; omega
            · have hvI : 16777216 ≤ (m : Int) := by have := hme.out; omega
              have hno : Hid (parseL s.toList = none) := Lib.hid (by rw [hg2.out, if_neg hvP])
              replace hsb2 := Lib.hid hsb2
              go_wp2_with fail
              go_ret2
              exact retU_none hno.out hb
          · obtain rfl : R = 65536 := hR.out
            have hle : (l.length : Int) - 1 = 2 := by omega
            have hsb2 : sum + 65536 ≤ 4294967296 := by have := hsb.out; omega
            by_cases hvP : v < 65536
            · have hmv : m = v := by have := hme.out; omega
              subst hmv
              have hvI : decide ((65536 : Int) ≤ (m : Int)) = false := decide_eq_false (by omega)
              have hnew : Hid (parseGo 3 ((partsL s.toList).drop 3) (sum + m) = parseL s.toList) := Lib.hid (by
                rw [hg2.out, if_pos hvP, List.drop_of_length_le (by have := hll.out; omega), parseGo])
              have hs3 : sum + m < 4294967296 := by omega
              replace hsb2 := Lib.hid hsb2
              replace hs3 := Lib.hid hs3
              replace hvP := Lib.hid hvP
              go_wp2_with fail
              go_round
              case rel => exact ⟨3, sum + m, 256, by go_num, by go_num, by go_num, by omega, by have := hs3.out; omega, Lib.hid (by decide), Lib.hid (.inr ⟨by omega, hs3.out⟩), hnew⟩
              case measure => simp [intOf]; omega
            · have hvI : 65536 ≤ (m : Int) := by have := hme.out; omega
              have hno : Hid (parseL s.toList = none) := Lib.hid (by rw [hg2.out, if_neg hvP])
              replace hsb2 := Lib.hid hsb2
              go_wp2_with fail
              go_ret2
              exact retU_none hno.out hb
          · obtain rfl : R = 256 := hR.out
            have hle : (l.length : Int) - 1 = 3 := by omega
            have hsb2 : sum + 256 ≤ 4294967296 := by have := hsb.out; omega
            by_cases hvP : v < 256
            · have hmv : m = v := by have := hme.out; omega
              subst hmv
              have hvI : decide ((256 : Int) ≤ (m : Int)) = false := decide_eq_false (by omega)
              have hnew : Hid (parseGo 4 ((partsL s.toList).drop 4) (sum + m) = parseL s.toList) := Lib.hid (by
                rw [hg2.out, if_pos hvP, List.drop_of_length_le (by have := hll.out; omega), parseGo])
              have hs3 : sum + m < 4294967296 := by omega
              replace hsb2 := Lib.hid hsb2
              replace hs3 := Lib.hid hs3
              replace hvP := Lib.hid hvP
              go_wp2_with fail
              go_round
              case rel => exact ⟨4, sum + m, 1, by go_num, by go_num, by go_num, by omega, by have := hs3.out; omega, Lib.hid (by decide), Lib.hid (.inr ⟨by omega, hs3.out⟩), hnew⟩
              case measure => simp [intOf]; omega
            · have hvI : 256 ≤ (m : Int) := by have := hme.out; omega
              have hno : Hid (parseL s.toList = none) := Lib.hid (by rw [hg2.out, if_neg hvP])
              replace hsb2 := Lib.hid hsb2
              go_wp2_with fail
              go_ret2
              exact retU_none hno.out hb
        · have hd2 : ∃ y r, (partsL s.toList).drop (k + 1) = y :: r := by
            cases hr : (partsL s.toList).drop (k + 1) with
            | nil => have := congrArg List.length hr; rw [List.length_drop, List.length_nil] at this; have := hll.out; omega
            | cons y r => exact ⟨y, r, rfl⟩
          have hg2 : Hid (parseL s.toList = if v ≤ 255 then parseGo (k + 1) ((partsL s.toList).drop (k + 1)) (sum + v * 2 ^ (8 * (3 - k))) else none) := Lib.hid (by
            obtain ⟨y, r, h⟩ := hd2
            rw [← hg.out, hd1.out, h, parseGo, hv])
          clear hd2
          replace hv := Lib.hid hv
          rcases (show k = 0 ∨ k = 1 ∨ k = 2 by omega) with rfl | rfl | rfl
          · obtain rfl : R = 4294967296 := hR.out
            have hle : (0 : Int) < (l.length : Int) - 1 := by omega
            have hle2 : ((0 : Int) == (l.length : Int) - 1) = false := beq_eq_false_iff_ne.2 (by omega)
            have hsb2 : sum + 4294967296 ≤ 4294967296 := by have := hsb.out; omega
            by_cases hvP : v ≤ 255
            · have hmv : m = v := by have := hme.out; omega
              subst hmv
              have hvI : (m : Int) ≤ 255 := by omega
              have hnew : Hid (parseGo 1 ((partsL s.toList).drop 1) (sum + m * 16777216) = parseL s.toList) := Lib.hid (by
                rw [hg2.out, if_pos hvP])
              have hs3 : sum + m * 16777216 + 16777216 ≤ 4294967296 := by omega
              replace hsb2 := Lib.hid hsb2
              replace hs3 := Lib.hid hs3
              go_wp2_with fail
              go_round
              case rel => exact ⟨1, sum + m * 16777216, 16777216, by go_num, by go_num, by go_num, by omega, by have := hs3.out; omega, Lib.hid (by decide), Lib.hid (.inl hs3.out), hnew⟩
              case measure => simp [intOf]; omega
            · have hvI : 255 < (m : Int) := by have := hme.out; omega
              have hno : Hid (parseL s.toList = none) := Lib.hid (by rw [hg2.out, if_neg hvP])
              replace hsb2 := Lib.hid hsb2
              go_wp2_with fail
              go_ret2
              exact retU_none hno.out hb
          · obtain rfl : R = 16777216 := hR.out
            have hle : (1 : Int) < (l.length : Int) - 1 := by omega
            have hle2 : ((1 : Int) == (l.length : Int) - 1) = false := beq_eq_false_iff_ne.2 (by omega)
            have hsb2 : sum + 16777216 ≤ 4294967296 := by have := hsb.out; omega
            by_cases hvP : v ≤ 255
            · have hmv : m = v := by have := hme.out; omega
              subst hmv
              have hvI : (m : Int) ≤ 255 := by omega
              have hnew : Hid (parseGo 2 ((partsL s.toList).drop 2) (sum + m * 65536) = parseL s.toList) := Lib.hid (by
                rw [hg2.out, if_pos hvP])
              have hs3 : sum + m * 65536 + 65536 ≤ 4294967296 := by omega
              replace hsb2 := Lib.hid hsb2
              replace hs3 := Lib.hid hs3
              go_wp2_with fail
              go_round
              case rel => exact ⟨2, sum + m * 65536, 65536, by go_num, by go_num, by go_num, by omega, by have := hs3.out; omega, Lib.hid (by decide), Lib.hid (.inl hs3.out), hnew⟩
              case measure => simp [intOf]; omega
            · have hvI : 255 < (m : Int) := by have := hme.out; omega
              have hno : Hid (parseL s.toList = none) := Lib.hid (by rw [hg2.out, if_neg hvP])
              replace hsb2 := Lib.hid hsb2
              go_wp2_with fail
              go_ret2
              exact retU_none hno.out hb
          · obtain rfl : R = 65536 := hR.out
            have hle : (2 : Int) < (l.length : Int) - 1 := by omega
            have hle2 : ((2 : Int) == (l.length : Int) - 1) = false := beq_eq_false_iff_ne.2 (by omega)
            have hsb2 : sum + 65536 ≤ 4294967296 := by have := hsb.out; omega
            by_cases hvP : v ≤ 255
            · have hmv : m = v := by have := hme.out; omega
              subst hmv
              have hvI : (m : Int) ≤ 255 := by omega
              have hnew : Hid (parseGo 3 ((partsL s.toList).drop 3) (sum + m * 256) = parseL s.toList) := Lib.hid (by
                rw [hg2.out, if_pos hvP])
              have hs3 : sum + m * 256 + 256 ≤ 4294967296 := by omega
              replace hsb2 := Lib.hid hsb2
              replace hs3 := Lib.hid hs3
              go_wp2_with fail
              go_round
              case rel => exact ⟨3, sum + m * 256, 256, by go_num, by go_num, by go_num, by omega, by have := hs3.out; omega, Lib.hid (by decide), Lib.hid (.inl hs3.out), hnew⟩
              case measure => simp [intOf]; omega
            · have hvI : 255 < (m : Int) := by have := hme.out; omega
              have hno : Hid (parseL s.toList = none) := Lib.hid (by rw [hg2.out, if_neg hvP])
              replace hsb2 := Lib.hid hsb2
              go_wp2_with fail
              go_ret2
              exact retU_none hno.out hb
    · have hke : k = l.length := by omega
      have hfin : Hid (parseL s.toList = some sum) := Lib.hid (by
        rw [← hg.out, List.drop_of_length_le (by have := hll.out; omega), parseGo])
      have hsl : sum < 4294967296 := by
        rcases hsb.out with h | h
        · have := Nat.two_pow_pos (8 * (4 - k)); omega
        · exact h.2
      have hgeI : (l.length : Int) ≤ (k : Int) := by omega
      have e1 : IntKind.u32.wrap (sum : Int) = (sum : Int) := u32_wraps _ (by omega) (by omega)
      replace hke := Lib.hid hke
      go_wp2_with fail
      go_ret2
      unfold RetU
      rw [hfin.out]
      exact ⟨rfl, hb⟩
set_option maxRecDepth 100000 in
set_option maxHeartbeats 2000000 in
theorem fourTells_walk (s : ByteArray) (n : Int) (w : World) (ws : s.size ≤ maxLen) (wn : (Lit.int .u32 n).wf = true) (ht : Tabs w) (hm : ML w) :
    Calls Tryd.prog 3 #[.string s, .int .u32 n] w (RetB w true) := by
  have hB : Below w.heap.size w w := Below.refl _ _
  obtain ⟨n, rfl, hn⟩ : ∃ m : Nat, n = (m : Int) ∧ m < 4294967296 := by
    have := bounds_u32 wn
    exact ⟨n.toNat, by omega, by omega⟩
  unfold maxLen at ws
  by_cases hs : 200 < s.size
  · have z : (200 : Int) < (s.size : Int) := by omega
    go_enter Tryd.func3, Tryd.ntmps3
    go_wp2_with fail
    refine (small09_any _ hm ht).mono ?_
    rintro e w1 ⟨rfl, hb⟩
    go_wp2_with fail
    go_ret
    exact ⟨rfl, hB.next hb⟩
  have z : (s.size : Int) ≤ (200 : Int) := by omega
  have hs2 : s.size < 4294967281 := by omega
  go_enter Tryd.func3, Tryd.ntmps3
  go_wp2_with fail
  refine (small09_any _ hm ht).mono ?_
  rintro e w1 ⟨rfl, hb⟩
  replace hB := hB.next hb
  clear hb
  go_wp2_with fail
  refine (fourParse_any s _ (hm.next hB) hs2).mono ?_
  rintro e w2 ⟨rfl, hb⟩
  replace hB := hB.next hb
  clear hb
  go_wp2_with fail
  refine (parseR_any s _ hs2).mono ?_
  rintro e w3 ⟨rfl, hb⟩
  replace hB := hB.next hb
  clear hb
  generalize parseL s.toList = O
  go_wp2_with fail
  refine (ends_any s _ (hm.next hB) hs2).mono ?_
  rintro e w4 ⟨rfl, hb⟩
  replace hB := hB.next hb
  clear hb
  go_wp2_with fail
  refine (endsR_any s _ hs2).mono ?_
  rintro e w5 ⟨rfl, hb⟩
  replace hB := hB.next hb
  clear hb
  generalize endsL s.toList = E
  go_wp2_with fail
  refine (fourWrite_any n hn _ (ht.next hB)).mono ?_
  rintro e w6 ⟨t1, rfl, h1, hb⟩
  replace hB := hB.next hb
  clear hb
  go_wp2_with fail
  refine (fourR_any n hn _).mono ?_
  rintro e w7 ⟨t2, rfl, h2, hb⟩
  replace hB := hB.next hb
  clear hb
  obtain rfl : t1 = t2 := eq_of_toList (h1.out.trans h2.out.symm)
  go_wp2_with fail
  go_ret
  exact ⟨rfl, hB⟩
end Go.Proofs.YtceedfhealbdkaaDoor
