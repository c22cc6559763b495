/- The contracts of four.digits, four.number and the reference's number. -/
import Derived.Test.YtceedfhealbdkaaDoorFourP
import Derived.IntWalk
namespace Go.Proofs.YtceedfhealbdkaaDoor
open Go.RowKit
set_option linter.unusedVariables false

theorem min_step {C acc b d : Nat} (hb : 1 ≤ b) : min (min acc C * b + d) C = min (acc * b + d) C := by
  by_cases h : acc ≤ C
  · rw [Nat.min_eq_left h]
  · have h1 : min acc C = C := Nat.min_eq_right (by omega)
    have h2 : C * 1 ≤ C * b := Nat.mul_le_mul_left _ hb
    have h3 : C * b ≤ acc * b := Nat.mul_le_mul_right _ (by omega)
    rw [h1, Nat.min_eq_right (by omega), Nat.min_eq_right (by omega)]
theorem digitZ_ge (c a : Int) : -1 ≤ digitZ c a := by unfold digitZ worthZ; omega
theorem digitZ_le (c a : Int) : digitZ c a ≤ 35 := by unfold digitZ worthZ; omega
/-- A number that is told, no more than C of it, and whether there is one. -/
def RetN (C : Nat) (w : World) (o : Option Nat) (e : Ending) (w' : World) : Prop := e = .returned (.tuple #[.int .i64 ((min (o.getD 0) C : Nat) : Int), .bool o.isSome]) ∧ w = w'
theorem digs1_some {base : Nat} {s : ByteArray} (h : s.toList.isEmpty = false) : digs1 base s.toList = digsGo base 0 s.toList := by
  unfold digs1; rw [if_neg (by intro e; rw [e] at h; cases h)]

set_option maxRecDepth 100000 in
set_option maxHeartbeats 1000000 in
theorem digits_any (s : ByteArray) (b : Nat) (w : World) (hs : s.size ≤ 1099511627776) (hb : b = 8 ∨ b = 10 ∨ b = 16) :
    Calls Tryd.prog 23 #[.string s, .int .i64 (b : Int)] w (RetN 4294967296 w (digs1 b s.toList)) := by
  cases hem : s.toList.isEmpty
  · have hd1 := Lib.hid (digs1_some (base := b) hem)
    have hb1 : 1 ≤ b := by omega
    have hb2 : (b : Int) ≤ 16 := by omega
    have hb0 : (0 : Int) ≤ (b : Int) := by omega
    clear hb
    go_enter Tryd.func23, Tryd.ntmps23
    go_wp2_with fail
    go_loop [6, 13] (fun nv iv => ∃ k m acc : Nat, iv = .int .i64 k ∧ nv = .int .i64 m ∧ k ≤ s.size ∧ m ≤ 4294967296 ∧ Hid (m = min acc 4294967296) ∧ Hid (digsGo b acc (s.toList.drop k) = digsGo b 0 s.toList)) (fun _ i => s.size - (intOf i).toNat)
    case atStart => exact ⟨0, 0, 0, rfl, rfl, Nat.zero_le _, by omega, rfl, Lib.hid (by rw [List.drop_zero])⟩
    case round =>
      obtain ⟨k, m, acc, rfl, rfl, hk, hm, hmc, hg⟩ := hrel
      by_cases hlt : k < s.size
      · have hdr := drop_cons s k hlt
        have hltI : (k : Int) < (s.size : Int) := by omega
        rw [hdr] at hg
        clear hdr
        by_cases hd : digitZ (s[k].toNat : Int) (b : Int) < 0
        · have hno : Hid (digs1 b s.toList = none) := Lib.hid (by rw [hd1.out, ← hg.out, digsGo, if_pos hd])
          go_wp2_with (go_at_call 18; refine (digit_any _ _ _ (byte_nn _) (byte_le _)).mono ?_; rintro e w' ⟨rfl, rfl⟩)
          go_ret2
          unfold RetN
          rw [hno.out]
          exact ⟨rfl, rfl⟩
        · have hle := digitZ_le (s[k].toNat : Int) (b : Int)
          have hnew : Hid (digsGo b (acc * b + (digitZ (s[k].toNat : Int) (b : Int)).toNat) (s.toList.drop (k + 1)) = digsGo b 0 s.toList) := Lib.hid (by rw [← hg.out, digsGo, if_neg hd])
          obtain ⟨d, hdd⟩ : ∃ d : Nat, digitZ (s[k].toNat : Int) (b : Int) = (d : Int) := ⟨(digitZ (s[k].toNat : Int) (b : Int)).toNat, by omega⟩
          have hdig := fun w => digit_any (s[k].toNat : Int) (b : Int) w (byte_nn _) (byte_le _)
          rw [hdd] at hnew hdig hle hd
          replace hdig := Lib.hid hdig
          replace hdd := Lib.hid hdd
          have hmb : m * b ≤ 4294967296 * 16 := Nat.mul_le_mul hm (by omega)
          have hmbI : (m : Int) * (b : Int) = ((m * b : Nat) : Int) := by rw [Int.natCast_mul]
          have e1 : IntKind.i64.wrap ((m : Int) * (b : Int)) = ((m * b : Nat) : Int) := by rw [hmbI]; exact IntWalk.i64_in _ (by omega)
          have e2 : IntKind.i64.wrap (((m * b : Nat) : Int) + (d : Int)) = ((m * b : Nat) : Int) + (d : Int) := IntWalk.i64_in _ (by omega)
          have hms := min_step (C := 4294967296) (acc := acc) (d := d) hb1
          rw [← hmc.out] at hms
          replace hms := Lib.hid hms
          replace hmbI := Lib.hid hmbI
          clear hg
          go_wp2_with (go_at_call 18; refine (hdig.out _).mono ?_; rintro e w' ⟨rfl, rfl⟩)
          go_round
          case rel => exact ⟨k + 1, min (m * b + d) 4294967296, acc * b + d, by go_num, congrArg (Value.int .i64) (by rw [hmbI.out]; omega), by omega, Nat.min_le_right _ _, Lib.hid hms.out, hnew⟩
          case measure => simp [intOf]; omega
      · have hfin : Hid (digs1 b s.toList = some acc) := Lib.hid (by rw [hd1.out, ← hg.out, drop_end s k (by omega)]; rfl)
        have hgeI : (s.size : Int) ≤ (k : Int) := by omega
        clear hg
        go_wp2_with fail
        go_ret2
        unfold RetN
        rw [hfin.out, hmc.out]
        exact ⟨rfl, rfl⟩
  · have hno : Hid (digs1 b s.toList = none) := Lib.hid (by unfold digs1; rw [if_pos (by simpa using hem)])
    go_enter Tryd.func23, Tryd.ntmps23
    go_wp2_with fail
    go_ret2
    unfold RetN
    rw [hno.out]
    exact ⟨rfl, rfl⟩
theorem fdigits_at {s : ByteArray} {b : Nat} {o : Option Nat} (w : World) (bi : Int) (hbi : bi = (b : Int)) (hs : s.size ≤ 1099511627776) (hb : b = 8 ∨ b = 10 ∨ b = 16) (h : digs1 b s.toList = o) :
    Calls Tryd.prog 23 #[.string s, .int .i64 bi] w (RetN 4294967296 w o) := by
  subst h hbi; exact digits_any s b w hs hb
theorem hasPrefix2 (c d : UInt8) (l : List UInt8) : Lib.hasPrefix l [c, d] = match l with | x :: y :: _ => (c == x && d == y) | _ => false := by
  unfold Lib.hasPrefix
  match l with
  | [] => rfl
  | [x] => simp [List.isPrefixOf]
  | x :: y :: r => simp [List.isPrefixOf]
theorem get_head {s : ByteArray} {c : UInt8} {l : List UInt8} (h : s.toList = c :: l) (h0 : 0 < s.size) : s[0] = c := by
  have := toList_get s 0 h0
  rw [← this]; simp [h]
theorem toList_from {s : ByteArray} (k : Nat) : (s.extract k s.size).toList = s.toList.drop k := by
  rw [toList_extract, ← size_toList, List.take_length]
theorem retN_eq {C : Nat} {w : World} {o p : Option Nat} {e : Ending} {w' : World} (h : o = p) (r : RetN C w o e w') : RetN C w p e w' := h ▸ r
theorem u8_eqI {c : UInt8} {n : Nat} (hn : n < 256) : ((c.toNat : Int) == (n : Int)) = decide (c = UInt8.ofNat n) := by
  rw [Bool.eq_iff_iff]
  simp only [beq_iff_eq, decide_eq_true_eq]
  constructor
  · intro h
    have : c.toNat = n := by omega
    rw [← this]; simp
  · rintro rfl
    rw [UInt8.toNat_ofNat_of_lt' hn]
set_option maxRecDepth 100000 in
set_option maxHeartbeats 1000000 in
theorem number_any (s : ByteArray) (w : World) (hs : s.size ≤ 1099511627776) :
    Calls Tryd.prog 20 #[.string s] w (RetN 4294967296 w (numV s.toList)) := by
  have hl := size_toList s
  by_cases h1 : s.size ≤ 1
  · have hp : ∀ c d, Lib.hasPrefix s.data.toList [c, d] = false := by
      intro c d
      rw [← ByteArray.toList_eq, hasPrefix2]
      match hL : s.toList with
      | [] => rfl
      | [x] => rfl
      | x :: y :: r => rw [hL] at hl; simp at hl; omega
    have hV : digs1 10 s.toList = numV s.toList := by
      match hL : s.toList with
      | [] => rfl
      | [x] => rfl
      | x :: y :: r => rw [hL] at hl; simp at hl; omega
    have p1 := hp 48 120
    have p2 := hp 48 88
    have hz : (s.size : Int) ≤ 1 := by omega
    have hd := Lib.hid (fun w => fdigits_at (o := numV s.toList) w 10 (b := 10) rfl hs (by decide) hV)
    clear hp hl h1 hV
    go_enter Tryd.func20, Tryd.ntmps20
    go_wp2_with (first
      | (go_at_call 28; refine (Tryd.strings_HasPrefix _ _ _).mono ?_; rintro e w' ⟨rfl, rfl⟩)
      | (go_at_call 23; refine (hd.out _).mono ?_; rintro e w' ⟨rfl, rfl⟩))
    go_ret2
    exact ⟨rfl, rfl⟩
  obtain ⟨c, d, r, hL⟩ : ∃ c d r, s.toList = c :: d :: r := by
    match hL : s.toList with
    | [] => rw [hL] at hl; simp at hl; omega
    | [x] => rw [hL] at hl; simp at hl; omega
    | x :: y :: r => exact ⟨x, y, r, rfl⟩
  have h0 : 0 < s.size := by omega
  have g0 := get_head hL h0
  have hz : (1 : Int) < (s.size : Int) := by omega
  have hz2 : (2 : Int) ≤ (s.size : Int) := by omega
  have hp : ∀ a b, Lib.hasPrefix s.data.toList [a, b] = (a == c && b == d) := by intro a b; rw [← ByteArray.toList_eq, hasPrefix2, hL]
  have p1 := hp 48 120
  have p2 := hp 48 88
  have hb : ((s[0].toNat : Int) == 48) = decide (c = 48) := by rw [g0]; exact u8_eqI (n := 48) (by decide)
  by_cases hc : c = 48
  · subst hc
    by_cases hd : d = 120 ∨ d = 88
    · have hV : numV s.toList = digsGo 16 0 r := by rw [hL, numV, if_pos rfl, if_pos hd]
      have hps : Lib.hasPrefix s.data.toList [48, 120] = true ∨ Lib.hasPrefix s.data.toList [48, 120] = false ∧ Lib.hasPrefix s.data.toList [48, 88] = true := by
        rw [p1, p2]
        rcases hd with rfl | rfl
        · exact .inl rfl
        · exact .inr ⟨rfl, rfl⟩
      have hrs : s.size = r.length + 2 := by rw [← hl, hL]; rfl
      have hx : (s.extract 2 s.size).toList = r := by rw [toList_from, hL]; rfl
      have hxs : (s.extract 2 s.size).size ≤ 1099511627776 := by rw [← size_toList, hx]; omega
      clear p1 p2 hp hb g0
      by_cases hr : r = []
      · have hV2 : Hid (numV s.toList = some 0) := Lib.hid (by rw [hV, hr]; rfl)
        have hq : ((s.size : Int) == 2) = true := by rw [hrs, hr]; rfl
        clear hV hrs hx hxs hr hL hl hd
        rcases hps with q1 | ⟨q1, q2⟩
        all_goals
          go_enter Tryd.func20, Tryd.ntmps20
          go_wp2_with (first
            | (go_at_call 28; refine (Tryd.strings_HasPrefix _ _ _).mono ?_; rintro e w' ⟨rfl, rfl⟩))
          go_ret2
          exact retN_eq hV2.out.symm ⟨rfl, rfl⟩
      · have hq : ((s.size : Int) == 2) = false := by
          have : 0 < r.length := List.length_pos_iff.2 hr
          simp only [beq_eq_false_iff_ne, ne_eq]; omega
        have hd' := Lib.hid (fun w => fdigits_at (s := s.extract 2 s.size) (o := numV s.toList) w 16 (b := 16) rfl hxs (by decide) (by rw [hx, hV]; unfold digs1; rw [if_neg hr]))
        clear hV hrs hx hxs hr hL hl hd
        rcases hps with q1 | ⟨q1, q2⟩
        all_goals
          go_enter Tryd.func20, Tryd.ntmps20
          go_wp2_with (first
            | (go_at_call 28; refine (Tryd.strings_HasPrefix _ _ _).mono ?_; rintro e w' ⟨rfl, rfl⟩)
            | (go_at_call 23; refine (hd'.out _).mono ?_; rintro e w' ⟨rfl, rfl⟩))
          go_ret2
          exact ⟨rfl, rfl⟩
    · have hV : numV s.toList = digsGo 8 0 (d :: r) := by rw [hL, numV, if_pos rfl, if_neg hd]
      have q1 : Lib.hasPrefix s.data.toList [48, 120] = false := by
        rw [p1]; simp only [Bool.and_eq_false_iff]; right; simp; exact fun e => hd (.inl e.symm)
      have q2 : Lib.hasPrefix s.data.toList [48, 88] = false := by
        rw [p2]; simp only [Bool.and_eq_false_iff]; right; simp; exact fun e => hd (.inr e.symm)
      have hx : (s.extract 1 s.size).toList = d :: r := by rw [toList_from, hL]; rfl
      have hxs : (s.extract 1 s.size).size ≤ 1099511627776 := by rw [← size_toList, toList_from, List.length_drop]; omega
      have hd' := Lib.hid (fun w => fdigits_at (s := s.extract 1 s.size) (o := numV s.toList) w 8 (b := 8) rfl hxs (by decide) (by rw [hx, hV]; rfl))
      have hb2 : ((s[0].toNat : Int) == 48) = true := hb.trans (by decide)
      clear hV hx hxs hL hl hd p1 p2 hp hb g0
      go_enter Tryd.func20, Tryd.ntmps20
      go_wp2_with (first
        | (go_at_call 28; refine (Tryd.strings_HasPrefix _ _ _).mono ?_; rintro e w' ⟨rfl, rfl⟩)
        | (go_at_call 23; refine (hd'.out _).mono ?_; rintro e w' ⟨rfl, rfl⟩))
      go_ret2
      exact ⟨rfl, rfl⟩
  · have hV : numV s.toList = digsGo 10 0 (c :: d :: r) := by rw [hL, numV, if_neg hc]
    have q1 : Lib.hasPrefix s.data.toList [48, 120] = false := by
      rw [p1]; simp only [Bool.and_eq_false_iff]; left; simp; exact fun e => hc e.symm
    have q2 : Lib.hasPrefix s.data.toList [48, 88] = false := by
      rw [p2]; simp only [Bool.and_eq_false_iff]; left; simp; exact fun e => hc e.symm
    have hd' := Lib.hid (fun w => fdigits_at (s := s) (o := numV s.toList) w 10 (b := 10) rfl hs (by decide) (by rw [hV, hL]; rfl))
    have hb2 : ((s[0].toNat : Int) == 48) = false := by rw [hb]; simpa using hc
    clear hV hL hl p1 p2 hp hb g0 hc
    go_enter Tryd.func20, Tryd.ntmps20
    go_wp2_with (first
      | (go_at_call 28; refine (Tryd.strings_HasPrefix _ _ _).mono ?_; rintro e w' ⟨rfl, rfl⟩)
      | (go_at_call 23; refine (hd'.out _).mono ?_; rintro e w' ⟨rfl, rfl⟩))
    go_ret2
    exact ⟨rfl, rfl⟩
end Go.Proofs.YtceedfhealbdkaaDoor
