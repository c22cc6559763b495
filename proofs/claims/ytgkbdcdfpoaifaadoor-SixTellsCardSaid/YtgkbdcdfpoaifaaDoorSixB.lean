/- The contract of six.fourNumbers. -/
import Derived.Test.YtgkbdcdfpoaifaaDoorSixA
namespace Go.Proofs.YtgkbdcdfpoaifaaDoor
open Go.RowKit
set_option linter.unusedVariables false
set_option linter.unusedSimpArgs false

theorem byteV10_le {l : List UInt8} {n : Nat} (h : byteV10 l = some n) : n ≤ 255 := by
  unfold byteV10 at h
  split at h
  · cases h
  · split at h
    · cases h
    · split at h
      · cases h
      · have := Option.some.inj h; omega
theorem i64_and65535 (x : Nat) (h : x < 4294967296) : bits .and .i64 (x : Int) 65535 = ((x % 65536 : Nat) : Int) := by
  have := bits_mask .i64 32 (by decide) (fun n h0 h1 => IntWalk.i64_in _ (by omega)) 16 (by decide) (x : Int) (by omega) (by omega)
  rw [show ((2 : Int) ^ 16 - 1) = 65535 by decide] at this
  rw [this]; omega
/-- Two pieces, or the program gives up. -/
def RetQ2 (w : World) (o : Option Nat) (e : Ending) (w' : World) : Prop :=
  (match o with | some v => e = .returned (.tuple #[.int .u16 ((v / 65536 : Nat) : Int), .int .u16 ((v % 65536 : Nat) : Int)]) | none => GiveUp e) ∧ Below w.heap.size w w'
set_option maxRecDepth 100000 in
set_option maxHeartbeats 1000000 in
theorem four_any (s : ByteArray) (w : World) (hm : ML w) (hs : s.size ≤ 1000000) :
    Calls Tryd.prog 26 #[.string s] w (RetQ2 w (fourV s.toList)) := by
  go_enter Tryd.func26, Tryd.ntmps26
  go_wp2_with fail
  go_loopw [0, 4, 9] (fun sv nv iv wr => ∃ (i acc : Nat) (t : ByteArray), iv = .int .i64 i ∧ nv = .int .i64 acc ∧ sv = .string t ∧ i ≤ 4 ∧ t.size ≤ s.size ∧ acc ≤ 4294967295 ∧ Hid (acc < 256 ^ i) ∧
    Hid (if i = 4 then fourV s.toList = some acc else fourV s.toList = fourGo (3 - i) acc t.toList) ∧ Below w.heap.size w wr) (fun _ _ iv _ => 4 - (intOf iv).toNat)
  case atStart => exact ⟨0, 0, s, rfl, rfl, rfl, by decide, Nat.le_refl _, by decide, Lib.hid (by decide), Lib.hid rfl, Below.refl _ _⟩
  case round =>
    obtain ⟨i, acc, t, rfl, rfl, rfl, hi, htz, hacc, hpw, hg, hB⟩ := hrel
    by_cases h4 : i < 4
    · have h4I : (i : Int) < 4 := by omega
      have hg2 : Hid (fourV s.toList = fourGo (3 - i) acc t.toList) := Lib.hid (by have := hg.out; rw [if_neg (by omega)] at this; exact this)
      clear hg
      have hct := Lib.hid (fun w hm => cut_any t 46 w hm (by omega))
      have hl := cutC_len 46 t.toList
      rw [size_toList] at hl
      go_wp2_with fail
      refine (hct.out _ (hm.next hB)).mono ?_
      rintro e w2 ⟨ta, tb, nd, rfl, h1, h2, rfl⟩
      have hB2 := below_drewN hB nd
      have haz : ta.size ≤ s.size := by rw [← size_toList, h1.out]; omega
      have hbz : tb.size ≤ s.size := by rw [← size_toList, h2.out]; omega
      have hcase : ((i < 3 ∧ 3 - i = (2 - i) + 1) ∧ (cutC 46 t.toList).2.2 = true) ∨ (i = 3 ∧ (cutC 46 t.toList).2.2 = false) ∨ (i < 3 ∧ (cutC 46 t.toList).2.2 = false) ∨ (i = 3 ∧ (cutC 46 t.toList).2.2 = true) := by
        cases (cutC 46 t.toList).2.2 <;> simp <;> omega
      have hdec := Lib.hid (fun w => decimal_any ta w (by omega))
      rw [h1.out] at hdec
      generalize hmo : (cutC 46 t.toList).2.2 = mo at hcase ⊢
      replace hmo := Lib.hid hmo
      rcases hcase with ⟨⟨g1, g2⟩, rfl⟩ | ⟨rfl, rfl⟩ | ⟨g1, rfl⟩ | ⟨rfl, rfl⟩
      · have g1I : (i : Int) < 3 := by omega
        rw [g2] at hg2
        cases hv : byteV10 (cutC 46 t.toList).1 with
        | none =>
          have hno : Hid (fourV s.toList = none) := Lib.hid (by rw [hg2.out, fourGo, if_pos hmo.out, hv])
          rw [hv] at hdec
          replace hv := Lib.hid hv
          go_wp2_with fail
          refine (hdec.out _).mono ?_
          rintro e w3 ⟨⟨pv, rfl⟩, rfl⟩
          refine ⟨rfl, ?_⟩
          unfold RetQ2
          rw [hno.out]
          exact ⟨⟨pv, rfl⟩, hB2⟩
        | some v =>
          have hv255 := byteV10_le hv
          have hacc2 : acc * 256 + v < 256 ^ (i + 1) := by have := hpw.out; rw [Nat.pow_succ]; omega
          have hpw4 : 256 ^ (i + 1) ≤ 256 ^ 4 := Nat.pow_le_pow_right (by decide) (by omega)
          have hle : acc * 256 + v ≤ 4294967295 := by omega
          have hnew : Hid (fourV s.toList = fourGo (3 - (i + 1)) (acc * 256 + v) tb.toList) := Lib.hid (by
            rw [hg2.out, fourGo, if_pos hmo.out, hv, h2.out, show 3 - (i + 1) = 2 - i by omega])
          rw [hv] at hdec
          replace hv := Lib.hid hv
          replace hacc2 := Lib.hid hacc2
          clear hpw4
          go_wp2_with fail
          refine (hdec.out _).mono ?_
          rintro e w3 ⟨rfl, rfl⟩
          go_wp2_with fail
          go_roundw
          case rel => exact ⟨i + 1, acc * 256 + v, tb, by go_num, by go_num, rfl, by omega, hbz, hle, hacc2, Lib.hid (by rw [if_neg (by omega)]; exact hnew.out), hB2⟩
          case measure => simp [intOf]; omega
      · rw [show 3 - 3 = 0 from rfl] at hg2
        cases hv : byteV10 (cutC 46 t.toList).1 with
        | none =>
          have hno : Hid (fourV s.toList = none) := Lib.hid (by rw [hg2.out, fourGo, if_neg (by rw [hmo.out]; decide), hv]; rfl)
          rw [hv] at hdec
          replace hv := Lib.hid hv
          go_wp2_with fail
          refine (hdec.out _).mono ?_
          rintro e w3 ⟨⟨pv, rfl⟩, rfl⟩
          refine ⟨rfl, ?_⟩
          unfold RetQ2
          rw [hno.out]
          exact ⟨⟨pv, rfl⟩, hB2⟩
        | some v =>
          have hv255 := byteV10_le hv
          have hacc2 : acc * 256 + v < 256 ^ (3 + 1) := by have := hpw.out; rw [Nat.pow_succ]; omega
          have hle : acc * 256 + v ≤ 4294967295 := by omega
          have hnew : Hid (fourV s.toList = some (acc * 256 + v)) := Lib.hid (by
            rw [hg2.out, fourGo, if_neg (by rw [hmo.out]; decide), hv]; rfl)
          rw [hv] at hdec
          replace hv := Lib.hid hv
          replace hacc2 := Lib.hid hacc2
          go_wp2_with fail
          refine (hdec.out _).mono ?_
          rintro e w3 ⟨rfl, rfl⟩
          go_wp2_with fail
          go_roundw
          case rel => exact ⟨4, acc * 256 + v, tb, by go_num, by go_num, rfl, by omega, hbz, hle, hacc2, Lib.hid (by rw [if_pos rfl]; exact hnew.out), hB2⟩
          case measure => simp [intOf]
      · have g1I : (i : Int) < 3 := by omega
        have hno : Hid (fourV s.toList = none) := Lib.hid (by rw [hg2.out, show 3 - i = (2 - i) + 1 by omega, fourGo, if_neg (by rw [hmo.out]; decide)])
        go_wp2_with fail
        refine ⟨rfl, ?_⟩
        unfold RetQ2
        rw [hno.out]
        exact ⟨⟨_, rfl⟩, hB2⟩
      · have hno : Hid (fourV s.toList = none) := Lib.hid (by rw [hg2.out, show 3 - 3 = 0 from rfl, fourGo, if_pos hmo.out])
        go_wp2_with fail
        refine ⟨rfl, ?_⟩
        unfold RetQ2
        rw [hno.out]
        exact ⟨⟨_, rfl⟩, hB2⟩
    · obtain rfl : i = 4 := by omega
      have hfin : Hid (fourV s.toList = some acc) := Lib.hid (by have := hg.out; rw [if_pos rfl] at this; exact this)
      have b1 := i64_and65535 acc (by omega)
      have b2 : IntKind.u16.wrap (((acc % 65536 : Nat) : Int)) = ((acc % 65536 : Nat) : Int) := by
        have : acc % 65536 < 65536 := Nat.mod_lt _ (by decide)
        simp [IntKind.wrap, IntKind.bits, IntKind.signed]
      have b3 : Hid ((acc : Int) / 65536 = ((acc / 65536 : Nat) : Int)) := Lib.hid (by omega)
      generalize hmd : acc % 65536 = md at b1 b2
      replace hmd := Lib.hid hmd
      clear hg hpw
      go_wp2_with fail
      go_ret2
      unfold RetQ2
      rw [hfin.out]
      refine ⟨?_, hB⟩
      show _ = Ending.returned (.tuple #[.int .u16 ((acc / 65536 : Nat) : Int), .int .u16 ((acc % 65536 : Nat) : Int)])
      rw [hmd.out, ← b3.out]
      rfl
end Go.Proofs.YtgkbdcdfpoaifaaDoor
