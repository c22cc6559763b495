/- The contracts of six.piece and six.decimal: each panics where its text tells nothing. -/
import Derived.Test.YtgkbdcdfpoaifaaDoorSixP
import Derived.WalkLawsBesides
import Derived.IntWalk
namespace Go.Proofs.YtgkbdcdfpoaifaaDoor
open Go.RowKit
set_option linter.unusedVariables false
set_option linter.unusedSimpArgs false

/-- The program gives up. -/
def GiveUp (e : Ending) : Prop := ∃ pv, e = .panicked [{ v := .iface 54 pv, recovered := false }]
/-- A number of this kind, or the program gives up; nothing made. -/
def RetQ (k : IntKind) (w : World) (o : Option Nat) (e : Ending) (w' : World) : Prop := (match o with | some v => e = .returned (.int k (v : Int)) | none => GiveUp e) ∧ w = w'
theorem retQ_none {k : IntKind} {w : World} {o : Option Nat} {pv : Value} (h : o = none) : RetQ k w o (.panicked [{ v := .iface 54 pv, recovered := false }]) w := by subst h; exact ⟨⟨pv, rfl⟩, rfl⟩
theorem retQ_some {k : IntKind} {w : World} {o : Option Nat} {v : Nat} {n : Int} (h : o = some v) (hn : n = (v : Int)) : RetQ k w o (.returned (.int k n)) w := by subst h; subst hn; exact ⟨rfl, rfl⟩
set_option maxRecDepth 100000 in
set_option maxHeartbeats 1000000 in
theorem piece_any (s : ByteArray) (w : World) (hs : s.size ≤ 1099511627776) :
    Calls Tryd.prog 27 #[.string s] w (RetQ .u16 w (pieceV s.toList)) := by
  have hlen := size_toList s
  cases hem : s.toList.isEmpty
  · have hd1 := Lib.hid (digs1_some (base := 16) hem)
    by_cases h4 : 4 < s.size
    · have hno : Hid (pieceV s.toList = none) := Lib.hid (if_pos (by omega))
      have h4I : (4 : Int) < (s.size : Int) := by omega
      replace hlen := Lib.hid hlen
      go_enter Tryd.func27, Tryd.ntmps27
      go_wp2_with fail
      exact ⟨rfl, retQ_none hno.out⟩
    · have h4I : (s.size : Int) ≤ 4 := by omega
      have hV : Hid (pieceV s.toList = digsGo 16 0 s.toList) := Lib.hid (by unfold pieceV; rw [if_neg (by omega), hd1.out])
      replace hlen := Lib.hid hlen
      go_enter Tryd.func27, Tryd.ntmps27
      go_wp2_with fail
      go_loop [3, 17] (fun nv iv => ∃ k acc : Nat, iv = .int .i64 k ∧ nv = .int .i64 acc ∧ k ≤ s.size ∧ acc ≤ 65535 ∧ Hid (acc < 16 ^ k) ∧ Hid (digsGo 16 acc (s.toList.drop k) = digsGo 16 0 s.toList)) (fun _ i => s.size - (intOf i).toNat)
      case atStart => exact ⟨0, 0, rfl, rfl, Nat.zero_le _, Nat.zero_le _, Lib.hid (by decide), Lib.hid (by rw [List.drop_zero])⟩
      case round =>
        obtain ⟨k, acc, rfl, rfl, hk, hacc, hpw, hg⟩ := hrel
        by_cases hlt : k < s.size
        · have hdr := drop_cons s k hlt
          have hltI : (k : Int) < (s.size : Int) := by omega
          rw [hdr] at hg
          clear hdr
          by_cases hd : digitZ (s[k].toNat : Int) 16 < 0
          · have hno : Hid (pieceV s.toList = none) := Lib.hid (by rw [hV.out, ← hg.out, digsGo, if_pos (show digitZ (s[k].toNat : Int) ((16 : Nat) : Int) < 0 from hd)])
            go_wp2_with (go_at_call 35; refine (digit_any _ _ _ (byte_nn _) (byte_le _)).mono ?_; rintro e w' ⟨rfl, rfl⟩)
            exact ⟨rfl, retQ_none hno.out⟩
          · have hnew : Hid (digsGo 16 (acc * 16 + (digitZ (s[k].toNat : Int) ((16 : Nat) : Int)).toNat) (s.toList.drop (k + 1)) = digsGo 16 0 s.toList) := Lib.hid (by rw [← hg.out, digsGo, if_neg (show ¬ digitZ (s[k].toNat : Int) ((16 : Nat) : Int) < 0 from hd)])
            obtain ⟨d, hdd⟩ : ∃ d : Nat, digitZ (s[k].toNat : Int) 16 = (d : Int) := ⟨(digitZ (s[k].toNat : Int) 16).toNat, by omega⟩
            have hd15 : d ≤ 15 := by
              have : digitZ (s[k].toNat : Int) 16 ≤ 15 := by unfold digitZ; omega
              omega
            have hdig := fun w => digit_any (s[k].toNat : Int) 16 w (byte_nn _) (byte_le _)
            rw [hdd] at hdig hd
            rw [show digitZ (s[k].toNat : Int) ((16 : Nat) : Int) = (d : Int) from hdd, Int.toNat_natCast] at hnew
            replace hdig := Lib.hid hdig
            replace hdd := Lib.hid hdd
            have hpw2 : Hid (acc * 16 + d < 16 ^ (k + 1)) := Lib.hid (by have := hpw.out; rw [Nat.pow_succ]; omega)
            have hle : acc * 16 + d ≤ 65535 := by
              have h1 := hpw2.out
              have h2 : 16 ^ (k + 1) ≤ 16 ^ 4 := Nat.pow_le_pow_right (by decide) (by omega)
              omega
            have e6 : IntKind.i64.wrap ((acc : Int) * 16) = (acc : Int) * 16 := IntWalk.i64_in _ (by omega)
            have e7 : IntKind.i64.wrap ((acc : Int) * 16 + (d : Int)) = (acc : Int) * 16 + (d : Int) := IntWalk.i64_in _ (by omega)
            go_wp2_with (go_at_call 35; refine (hdig.out _).mono ?_; rintro e w' ⟨rfl, rfl⟩)
            go_round
            case rel => exact ⟨k + 1, acc * 16 + d, by go_num, by go_num, by omega, hle, hpw2, hnew⟩
            case measure => simp [intOf]; omega
        · have hfin : Hid (pieceV s.toList = some acc) := Lib.hid (by rw [hV.out, ← hg.out, drop_end s k (by omega)]; rfl)
          have hgeI : (s.size : Int) ≤ (k : Int) := by omega
          have hu : IntKind.u16.wrap (acc : Int) = (acc : Int) := by simp [IntKind.wrap, IntKind.bits, IntKind.signed]; omega
          clear hg
          go_wp2_with fail
          go_ret
          exact retQ_some hfin.out rfl
  · have hno : Hid (pieceV s.toList = none) := Lib.hid (by
      have : s.toList = [] := by simpa using hem
      rw [this]; rfl)
    replace hlen := Lib.hid hlen
    go_enter Tryd.func27, Tryd.ntmps27
    go_wp2_with fail
    exact ⟨rfl, retQ_none hno.out⟩
set_option maxRecDepth 100000 in
set_option maxHeartbeats 1000000 in
theorem decimal_any (s : ByteArray) (w : World) (hs : s.size ≤ 1099511627776) :
    Calls Tryd.prog 34 #[.string s] w (RetQ .i64 w (byteV10 s.toList)) := by
  have hlen := size_toList s
  match hL : s.toList with
  | [] =>
    have hem : s.toList.isEmpty = true := by rw [hL]; rfl
    have hno : Hid (byteV10 [] = none) := Lib.hid rfl
    replace hlen := Lib.hid hlen
    replace hL := Lib.hid hL
    go_enter Tryd.func34, Tryd.ntmps34
    go_wp2_with fail
    exact ⟨rfl, retQ_none hno.out⟩
  | c :: r =>
    have hem : s.toList.isEmpty = false := by rw [hL]; rfl
    have hp : 0 < s.size := by rw [← hlen, hL]; simp
    have hpI : (0 : Int) < (s.size : Int) := by omega
    have hc : s[0] = c := by
      have := drop_cons s 0 hp
      rw [List.drop_zero, hL] at this
      exact (List.cons.inj this).1.symm
    rw [← hL]
    by_cases h3 : 3 < s.size
    · have hno : Hid (byteV10 s.toList = none) := Lib.hid (if_pos (.inl (by omega)))
      have h3I : (3 : Int) < (s.size : Int) := by omega
      replace hlen := Lib.hid hlen
      replace hL := Lib.hid hL
      go_enter Tryd.func34, Tryd.ntmps34
      go_wp2_with fail
      exact ⟨rfl, retQ_none hno.out⟩
    have h3I : (s.size : Int) ≤ 3 := by omega
    by_cases h0 : 1 < s.size ∧ c = 48
    · have hno : Hid (byteV10 s.toList = none) := Lib.hid (if_pos (.inr ⟨by omega, by rw [hL, h0.2]; rfl⟩))
      have h1I : (1 : Int) < (s.size : Int) := by omega
      have hcI : ((c.toNat : Int) == 48) = true := by rw [h0.2]; rfl
      replace hlen := Lib.hid hlen
      replace hL := Lib.hid hL
      clear h0
      go_enter Tryd.func34, Tryd.ntmps34
      go_wp2_with fail
      exact ⟨rfl, retQ_none hno.out⟩
    have hd1 := digs1_some (base := 10) hem
    have hV : Hid (byteV10 s.toList = match digsGo 10 0 s.toList with | none => none | some n => if 255 < n then none else some n) := Lib.hid (by
      unfold byteV10
      rw [if_neg (by
        rintro (h | ⟨h1, h2⟩)
        · omega
        · rw [hL] at h2; exact h0 ⟨by omega, Option.some.inj h2⟩), hd1]
      rfl)
    have hway : (s.size : Int) ≤ 1 ∨ ((1 : Int) < (s.size : Int) ∧ ((c.toNat : Int) == 48) = false) := by
      by_cases h1 : 1 < s.size
      · refine .inr ⟨by omega, ?_⟩
        simp only [beq_eq_false_iff_ne, ne_eq]
        intro h; exact h0 ⟨h1, UInt8.toNat_inj.1 (by show c.toNat = 48; omega)⟩
      · exact .inl (by omega)
    replace hlen := Lib.hid hlen
    replace hL := Lib.hid hL
    replace hd1 := Lib.hid hd1
    clear h0
    rcases hway with g1 | ⟨g1, g2⟩
    all_goals
      go_enter Tryd.func34, Tryd.ntmps34
      go_wp2_with fail
      go_loop [3, 27] (fun nv iv => ∃ k acc : Nat, iv = .int .i64 k ∧ nv = .int .i64 acc ∧ k ≤ s.size ∧ acc ≤ 999 ∧ Hid (acc < 10 ^ k) ∧ Hid (digsGo 10 acc (s.toList.drop k) = digsGo 10 0 s.toList)) (fun _ i => s.size - (intOf i).toNat)
      case atStart => exact ⟨0, 0, rfl, rfl, Nat.zero_le _, Nat.zero_le _, Lib.hid (by decide), Lib.hid (by rw [List.drop_zero])⟩
      case round =>
        obtain ⟨k, acc, rfl, rfl, hk, hacc, hpw, hg⟩ := hrel
        by_cases hlt : k < s.size
        · have hdr := drop_cons s k hlt
          have hltI : (k : Int) < (s.size : Int) := by omega
          rw [hdr] at hg
          clear hdr
          by_cases hd : digitZ (s[k].toNat : Int) 10 < 0
          · have hno : Hid (byteV10 s.toList = none) := Lib.hid (by rw [hV.out, ← hg.out, digsGo, if_pos (show digitZ (s[k].toNat : Int) ((10 : Nat) : Int) < 0 from hd)])
            go_wp2_with (go_at_call 35; refine (digit_any _ _ _ (byte_nn _) (byte_le _)).mono ?_; rintro e w' ⟨rfl, rfl⟩)
            exact ⟨rfl, retQ_none hno.out⟩
          · have hnew : Hid (digsGo 10 (acc * 10 + (digitZ (s[k].toNat : Int) ((10 : Nat) : Int)).toNat) (s.toList.drop (k + 1)) = digsGo 10 0 s.toList) := Lib.hid (by rw [← hg.out, digsGo, if_neg (show ¬ digitZ (s[k].toNat : Int) ((10 : Nat) : Int) < 0 from hd)])
            obtain ⟨d, hdd⟩ : ∃ d : Nat, digitZ (s[k].toNat : Int) 10 = (d : Int) := ⟨(digitZ (s[k].toNat : Int) 10).toNat, by omega⟩
            have hd15 : d ≤ 9 := by
              have : digitZ (s[k].toNat : Int) 10 ≤ 9 := by unfold digitZ; omega
              omega
            have hdig := fun w => digit_any (s[k].toNat : Int) 10 w (byte_nn _) (byte_le _)
            rw [hdd] at hdig hd
            rw [show digitZ (s[k].toNat : Int) ((10 : Nat) : Int) = (d : Int) from hdd, Int.toNat_natCast] at hnew
            replace hdig := Lib.hid hdig
            replace hdd := Lib.hid hdd
            have hpw2 : Hid (acc * 10 + d < 10 ^ (k + 1)) := Lib.hid (by have := hpw.out; rw [Nat.pow_succ]; omega)
            have hle : acc * 10 + d ≤ 999 := by
              have h1 := hpw2.out
              have h2 : 10 ^ (k + 1) ≤ 10 ^ 3 := Nat.pow_le_pow_right (by decide) (by omega)
              omega
            have e6 : IntKind.i64.wrap ((acc : Int) * 10) = (acc : Int) * 10 := IntWalk.i64_in _ (by omega)
            have e7 : IntKind.i64.wrap ((acc : Int) * 10 + (d : Int)) = (acc : Int) * 10 + (d : Int) := IntWalk.i64_in _ (by omega)
            go_wp2_with (go_at_call 35; refine (hdig.out _).mono ?_; rintro e w' ⟨rfl, rfl⟩)
            go_round
            case rel => exact ⟨k + 1, acc * 10 + d, by go_num, by go_num, by omega, hle, hpw2, hnew⟩
            case measure => simp [intOf]; omega
        · have hgeI : (s.size : Int) ≤ (k : Int) := by omega
          have hfin : Hid (byteV10 s.toList = if 255 < acc then none else some acc) := Lib.hid (by rw [hV.out, ← hg.out, drop_end s k (by omega)]; rfl)
          clear hg
          by_cases h255 : 255 < acc
          · have hno : Hid (byteV10 s.toList = none) := Lib.hid (by rw [hfin.out, if_pos h255])
            have h255I : (255 : Int) < (acc : Int) := by omega
            go_wp2_with fail
            exact ⟨rfl, retQ_none hno.out⟩
          · have hyes : Hid (byteV10 s.toList = some acc) := Lib.hid (by rw [hfin.out, if_neg h255])
            have h255I : (acc : Int) ≤ 255 := by omega
            go_wp2_with fail
            go_ret
            exact retQ_some hyes.out rfl
end Go.Proofs.YtgkbdcdfpoaifaaDoor
