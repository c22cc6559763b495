/- The contracts of the reference of layer 10: piece, byteOf, cut. -/
import Derived.Test.YtgkbdcdfpoaifaaDoorSixP
import Derived.Test.YtgkbdcdfpoaifaaDoorSplit
import Derived.IntWalk
namespace Go.Proofs.YtgkbdcdfpoaifaaDoor
open Go.RowKit
set_option linter.unusedVariables false
set_option linter.unusedSimpArgs false

/-- A number, and whether there is one; nothing made. -/
def RetV (w : World) (o : Option Nat) (e : Ending) (w' : World) : Prop := (∃ n : Nat, e = .returned (.tuple #[.int .i64 (n : Int), .bool o.isSome]) ∧ ∀ v, o = some v → n = v) ∧ w = w'
theorem retV_none {w : World} {o : Option Nat} {n : Nat} (h : o = none) : RetV w o (.returned (.tuple #[.int .i64 (n : Int), .bool false])) w := by subst h; exact ⟨⟨n, rfl, fun v h => by cases h⟩, rfl⟩
theorem retV_some {w : World} {o : Option Nat} {n : Nat} (h : o = some n) : RetV w o (.returned (.tuple #[.int .i64 (n : Int), .bool true])) w := by subst h; exact ⟨⟨n, rfl, fun v h => by cases h; rfl⟩, rfl⟩
theorem digs_le : ∀ (l : List UInt8) (acc v : Nat), digsGo 16 acc l = some v → acc * 16 ^ l.length ≤ v
  | [], acc, v, h => by cases h; simp
  | c :: r, acc, v, h => by
    rw [digsGo] at h
    split at h
    · cases h
    · have := digs_le r _ v h
      rw [List.length_cons, Nat.pow_succ]
      have e : acc * (16 ^ r.length * 16) = (acc * 16) * 16 ^ r.length := by rw [Nat.mul_comm (16 ^ r.length) 16, Nat.mul_assoc]
      rw [e]
      exact Nat.le_trans (Nat.mul_le_mul_right _ (by omega)) this
set_option maxRecDepth 100000 in
set_option maxHeartbeats 1000000 in
theorem pieceR_any (s : ByteArray) (w : World) (hs : s.size ≤ 1000000) :
    Calls Tryd.prog 29 #[.string s] w (RetV w (pieceV s.toList)) := by
  have hlen := size_toList s
  go_enter Tryd.func29, Tryd.ntmps29
  go_wp2_with fail
  go_loop [4, 5] (fun nv iv => ∃ k acc : Nat, iv = .int .i64 k ∧ nv = .int .i64 acc ∧ k ≤ s.size ∧ k ≤ 4 ∧ acc ≤ 65535 ∧ Hid (acc < 16 ^ k) ∧ Hid (digsGo 16 acc (s.toList.drop k) = digsGo 16 0 s.toList)) (fun _ i => s.size - (intOf i).toNat)
  case atStart => exact ⟨0, 0, rfl, rfl, Nat.zero_le _, Nat.zero_le _, Nat.zero_le _, Lib.hid (by decide), Lib.hid (by rw [List.drop_zero])⟩
  case round =>
    obtain ⟨k, acc, rfl, rfl, hk, hk4, hacc, hpw, hg⟩ := hrel
    by_cases hlt : k < s.size
    · have hdr := drop_cons s k hlt
      have hltI : (k : Int) < (s.size : Int) := by omega
      rw [hdr] at hg
      clear hdr
      have hV : Hid (s.size ≤ 4 → pieceV s.toList = digsGo 16 0 s.toList) := Lib.hid (fun h => by
        unfold pieceV digs1
        rw [if_neg (by omega), if_neg (by intro e; rw [e] at hlen; simp at hlen; omega)])
      have hV4 : Hid (4 < s.size → pieceV s.toList = none) := Lib.hid (fun h => if_pos (by omega))
      by_cases hd : digitZ (s[k].toNat : Int) 16 < 0
      · have hno : Hid (pieceV s.toList = none) := Lib.hid (by
          by_cases h4 : s.size ≤ 4
          · rw [hV.out h4, ← hg.out, digsGo, if_pos (show digitZ (s[k].toNat : Int) ((16 : Nat) : Int) < 0 from hd)]
          · exact hV4.out (by omega))
        replace hlen := Lib.hid hlen
        go_wp2_with (go_at_call 36; refine (digitr_any _ _ _ (byte_nn _) (byte_le _)).mono ?_; rintro e w' ⟨rfl, rfl⟩)
        go_ret2
        exact retV_none (n := 0) hno.out
      · have hnew : Hid (digsGo 16 (acc * 16 + (digitZ (s[k].toNat : Int) ((16 : Nat) : Int)).toNat) (s.toList.drop (k + 1)) = digsGo 16 0 s.toList) := Lib.hid (by rw [← hg.out, digsGo, if_neg (show ¬ digitZ (s[k].toNat : Int) ((16 : Nat) : Int) < 0 from hd)])
        obtain ⟨d, hdd⟩ : ∃ d : Nat, digitZ (s[k].toNat : Int) 16 = (d : Int) := ⟨(digitZ (s[k].toNat : Int) 16).toNat, by omega⟩
        have hd15 : d ≤ 15 := by
          have : digitZ (s[k].toNat : Int) 16 ≤ 15 := by unfold digitZ; omega
          omega
        have hdig := fun w => digitr_any (s[k].toNat : Int) 16 w (byte_nn _) (byte_le _)
        rw [hdd] at hdig hd
        rw [show digitZ (s[k].toNat : Int) ((16 : Nat) : Int) = (d : Int) from hdd, Int.toNat_natCast] at hnew
        replace hdig := Lib.hid hdig
        replace hdd := Lib.hid hdd
        have e6 : IntKind.i64.wrap (16 * (acc : Int)) = 16 * (acc : Int) := IntWalk.i64_in _ (by omega)
        have e7 : IntKind.i64.wrap (16 * (acc : Int) + (d : Int)) = 16 * (acc : Int) + (d : Int) := IntWalk.i64_in _ (by omega)
        by_cases h4 : 4 ≤ k
        · have h4I : (4 : Int) ≤ (k : Int) := by omega
          have hno : Hid (pieceV s.toList = none) := Lib.hid (hV4.out (by omega))
          replace hlen := Lib.hid hlen
          go_wp2_with (go_at_call 36; refine (hdig.out _).mono ?_; rintro e w' ⟨rfl, rfl⟩)
          go_ret2
          exact retV_none (n := 0) hno.out
        · have h4I : (k : Int) < 4 := by omega
          have hpw2 : Hid (acc * 16 + d < 16 ^ (k + 1)) := Lib.hid (by have := hpw.out; rw [Nat.pow_succ]; omega)
          have hle : acc * 16 + d ≤ 65535 := by
            have h1 := hpw2.out
            have h2 : 16 ^ (k + 1) ≤ 16 ^ 4 := Nat.pow_le_pow_right (by decide) (by omega)
            omega
          replace hlen := Lib.hid hlen
          go_wp2_with (go_at_call 36; refine (hdig.out _).mono ?_; rintro e w' ⟨rfl, rfl⟩)
          go_round
          case rel => exact ⟨k + 1, acc * 16 + d, by go_num, congrArg (Value.int .i64) (by omega), by omega, by omega, hle, hpw2, hnew⟩
          case measure => simp [intOf]; omega
    · have hgeI : (s.size : Int) ≤ (k : Int) := by omega
      have hfin : Hid (digsGo 16 0 s.toList = some acc) := Lib.hid (by rw [← hg.out, drop_end s k (by omega)]; rfl)
      clear hg
      by_cases h0 : s.size = 0
      · have hno : Hid (pieceV s.toList = none) := Lib.hid (by
          have : s.toList = [] := by rw [← List.length_eq_zero_iff, hlen, h0]
          rw [this]; rfl)
        have h0I : decide (0 < s.size) = false := decide_eq_false (by omega)
        replace h0 := Lib.hid h0
        replace hlen := Lib.hid hlen
        go_wp2_with fail
        go_ret2
        exact retV_none hno.out
      · have hyes : Hid (pieceV s.toList = some acc) := Lib.hid (by
          unfold pieceV digs1
          rw [if_neg (by omega), if_neg (by intro e; rw [e] at hlen; simp at hlen; omega)]
          exact hfin.out)
        have h0I : decide (0 < s.size) = true := decide_eq_true (by omega)
        replace hlen := Lib.hid hlen
        go_wp2_with fail
        go_ret2
        exact retV_some hyes.out
set_option maxRecDepth 100000 in
set_option maxHeartbeats 1000000 in
theorem byteR_any (s : ByteArray) (w : World) (hs : s.size ≤ 1000000) :
    Calls Tryd.prog 37 #[.string s] w (RetV w (byteV10 s.toList)) := by
  have hlen := size_toList s
  by_cases h3 : 3 < s.size
  · have hno : Hid (byteV10 s.toList = none) := Lib.hid (if_pos (.inl (by omega)))
    have h3I : (3 : Int) < (s.size : Int) := by omega
    replace hlen := Lib.hid hlen
    go_enter Tryd.func37, Tryd.ntmps37
    go_wp2_with fail
    go_ret2
    exact retV_none (n := 0) hno.out
  have h3I : (s.size : Int) ≤ 3 := by omega
  by_cases h0 : 1 < s.size ∧ s.toList.head? = some 48
  · have hno : Hid (byteV10 s.toList = none) := Lib.hid (if_pos (.inr ⟨by omega, h0.2⟩))
    have h1I : (1 : Int) < (s.size : Int) := by omega
    have hp : 0 < s.size := by omega
    have hcI : ((s[0].toNat : Int) == 48) = true := by
      have hd := drop_cons s 0 hp
      rw [List.drop_zero] at hd
      have := h0.2
      rw [hd] at this
      have e : s[0] = 48 := by simpa using this
      rw [e]; rfl
    replace hlen := Lib.hid hlen
    clear h0
    go_enter Tryd.func37, Tryd.ntmps37
    go_wp2_with fail
    go_ret2
    exact retV_none (n := 0) hno.out
  have hV : Hid (byteV10 s.toList = match digs1 10 s.toList with | none => none | some n => if 255 < n then none else some n) := Lib.hid (by
    unfold byteV10
    rw [if_neg (by rintro (h | ⟨h1, h2⟩); omega; exact h0 ⟨by omega, h2⟩)]
    rfl)
  have hway : (s.size : Int) ≤ 1 ∨ ((1 : Int) < (s.size : Int) ∧ ∃ hp : 0 < s.size, ((s[0].toNat : Int) == 48) = false) := by
    by_cases h1 : 1 < s.size
    · refine .inr ⟨by omega, by omega, ?_⟩
      simp only [beq_eq_false_iff_ne, ne_eq]
      intro h
      have hd := drop_cons s 0 (by omega)
      rw [List.drop_zero] at hd
      exact h0 ⟨h1, by rw [hd]; show some _ = some _; rw [show s[0] = 48 from UInt8.toNat_inj.1 (by show s[0].toNat = 48; omega)]⟩
    · exact .inl (by omega)
  clear h0
  have hway2 : (s.size : Int) ≤ 1 ∨ ((1 : Int) < (s.size : Int) ∧ ∃ hp : 0 < s.size, ((s[0].toNat : Int) == 48) = false) := hway
  clear hway
  rcases hway2 with g1 | ⟨g1, hp0, g2⟩
  all_goals
    go_enter Tryd.func37, Tryd.ntmps37
    go_wp2_with fail
    go_loop [4, 5] (fun nv iv => ∃ k acc : Nat, iv = .int .i64 k ∧ nv = .int .i64 acc ∧ k ≤ s.size ∧ acc ≤ 999 ∧ Hid (acc < 10 ^ k) ∧ Hid (digsGo 10 acc (s.toList.drop k) = digsGo 10 0 s.toList)) (fun _ i => s.size - (intOf i).toNat)
    case atStart => exact ⟨0, 0, rfl, rfl, Nat.zero_le _, Nat.zero_le _, Lib.hid (by decide), Lib.hid (by rw [List.drop_zero])⟩
    case round =>
      obtain ⟨k, acc, rfl, rfl, hk, hacc, hpw, hg⟩ := hrel
      by_cases hlt : k < s.size
      · have hdr := drop_cons s k hlt
        have hltI : (k : Int) < (s.size : Int) := by omega
        rw [hdr] at hg
        clear hdr
        have hd1 : Hid (digs1 10 s.toList = digsGo 10 0 s.toList) := Lib.hid (by unfold digs1; rw [if_neg (by intro e; rw [e] at hlen; simp at hlen; omega)])
        by_cases hd : digitZ (s[k].toNat : Int) 10 < 0
        · have hno : Hid (byteV10 s.toList = none) := Lib.hid (by rw [hV.out, hd1.out, ← hg.out, digsGo, if_pos (show digitZ (s[k].toNat : Int) ((10 : Nat) : Int) < 0 from hd)])
          replace hlen := Lib.hid hlen
          go_wp2_with (go_at_call 36; refine (digitr_any _ _ _ (byte_nn _) (byte_le _)).mono ?_; rintro e w' ⟨rfl, rfl⟩)
          go_ret2
          exact retV_none (n := 0) hno.out
        · have hnew : Hid (digsGo 10 (acc * 10 + (digitZ (s[k].toNat : Int) ((10 : Nat) : Int)).toNat) (s.toList.drop (k + 1)) = digsGo 10 0 s.toList) := Lib.hid (by rw [← hg.out, digsGo, if_neg (show ¬ digitZ (s[k].toNat : Int) ((10 : Nat) : Int) < 0 from hd)])
          obtain ⟨d, hdd⟩ : ∃ d : Nat, digitZ (s[k].toNat : Int) 10 = (d : Int) := ⟨(digitZ (s[k].toNat : Int) 10).toNat, by omega⟩
          have hd15 : d ≤ 9 := by
            have : digitZ (s[k].toNat : Int) 10 ≤ 9 := by unfold digitZ; omega
            omega
          have hdig := fun w => digitr_any (s[k].toNat : Int) 10 w (byte_nn _) (byte_le _)
          rw [hdd] at hdig hd
          rw [show digitZ (s[k].toNat : Int) ((10 : Nat) : Int) = (d : Int) from hdd, Int.toNat_natCast] at hnew
          replace hdig := Lib.hid hdig
          replace hdd := Lib.hid hdd
          have hpw2 : Hid (acc * 10 + d < 10 ^ (k + 1)) := Lib.hid (by have := hpw.out; rw [Nat.pow_succ]; omega)
          have hle : acc * 10 + d ≤ 999 := by
            have h1 := hpw2.out
            have h2 : 10 ^ (k + 1) ≤ 10 ^ 3 := Nat.pow_le_pow_right (by decide) (by omega)
            omega
          have e6 : IntKind.i64.wrap (10 * (acc : Int)) = 10 * (acc : Int) := IntWalk.i64_in _ (by omega)
          have e7 : IntKind.i64.wrap (10 * (acc : Int) + (d : Int)) = 10 * (acc : Int) + (d : Int) := IntWalk.i64_in _ (by omega)
          replace hlen := Lib.hid hlen
          go_wp2_with (go_at_call 36; refine (hdig.out _).mono ?_; rintro e w' ⟨rfl, rfl⟩)
          go_round
          case rel => exact ⟨k + 1, acc * 10 + d, by go_num, congrArg (Value.int .i64) (by omega), by omega, hle, hpw2, hnew⟩
          case measure => simp [intOf]; omega
      · have hgeI : (s.size : Int) ≤ (k : Int) := by omega
        have hfin : Hid (digsGo 10 0 s.toList = some acc) := Lib.hid (by rw [← hg.out, drop_end s k (by omega)]; rfl)
        clear hg
        by_cases h0 : s.size = 0
        · first
          | (exfalso; omega)
          | (
            have hno : Hid (byteV10 s.toList = none) := Lib.hid (by
              have : s.toList = [] := by rw [← List.length_eq_zero_iff, hlen, h0]
              rw [this]; rfl)
            have h0I : decide (0 < s.size) = false := decide_eq_false (by omega)
            replace h0 := Lib.hid h0
            replace hlen := Lib.hid hlen
            go_wp2_with fail
            go_ret2
            exact retV_none hno.out)
        · have hd1 : Hid (digs1 10 s.toList = digsGo 10 0 s.toList) := Lib.hid (by unfold digs1; rw [if_neg (by intro e; rw [e] at hlen; simp at hlen; omega)])
          have h0I : decide (0 < s.size) = true := decide_eq_true (by omega)
          replace hlen := Lib.hid hlen
          by_cases h255 : 255 < acc
          · have hno : Hid (byteV10 s.toList = none) := Lib.hid (by rw [hV.out, hd1.out, hfin.out]; exact if_pos h255)
            have hI : decide ((acc : Int) < 256) = false := decide_eq_false (by omega)
            go_wp2_with fail
            go_ret2
            exact retV_none hno.out
          · have hyes : Hid (byteV10 s.toList = some acc) := Lib.hid (by rw [hV.out, hd1.out, hfin.out]; exact if_neg h255)
            have hI : decide ((acc : Int) < 256) = true := decide_eq_true (by omega)
            go_wp2_with fail
            go_ret2
            exact retV_some hyes.out
end Go.Proofs.YtgkbdcdfpoaifaaDoor
