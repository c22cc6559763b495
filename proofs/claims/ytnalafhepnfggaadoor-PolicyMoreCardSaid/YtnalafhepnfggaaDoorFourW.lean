/- The contract of four.Write. -/
import Derived.Test.YtnalafhepnfggaaDoorUint
import Derived.Deep.Cut
import Derived.Deep.CutRange
import Derived.Lib.ItoaNum
namespace Go.Proofs.YtnalafhepnfggaaDoor
open Go.RowKit
set_option linter.unusedVariables false

theorem u32_wraps (n : Int) (h₀ : 0 ≤ n) (h₁ : n < 2 ^ 32) : IntKind.u32.wrap n = n := by rw [IntKind.wrap_u32]; omega
theorem u32_and255 (x : Nat) (h : x < 4294967296) : bits .and .u32 (x : Int) 255 = ((x % 256 : Nat) : Int) := by
  have := bits_mask .u32 32 (by decide) u32_wraps 8 (by decide) (x : Int) (by omega) (by omega)
  rw [show ((2 : Int) ^ 8 - 1) = 255 by decide] at this
  rw [this]; omega
/-- The decimals of a byte of the number. -/
def byte4 (n k : Nat) : List UInt8 := Lib.decDigits (n / 256 ^ (3 - k) % 256)
/-- The first k bytes' decimals, each but the last with a point behind it. -/
def fourP (n : Nat) : Nat → List UInt8
  | 0 => []
  | k + 1 => fourP n k ++ byte4 n k ++ (if k < 3 then [46] else [])
def fourL (n : Nat) : List UInt8 := fourP n 4
theorem decDigits_small (u : Nat) (h : u < 256) : (Lib.decDigits u).length ≤ 3 := by
  rw [Lib.decDigits]
  split
  · simp
  · rw [List.length_append, Lib.decDigits]
    split
    · simp
    · rw [List.length_append, Lib.decDigits, dif_pos (by omega)]; simp
theorem byte4_len (n k : Nat) : (byte4 n k).length ≤ 3 := decDigits_small _ (Nat.mod_lt _ (by decide))
theorem fourP_len (n : Nat) : ∀ k, (fourP n k).length ≤ 4 * k
  | 0 => by simp [fourP]
  | k + 1 => by
    have h1 := fourP_len n k
    have h2 := byte4_len n k
    simp only [fourP, List.length_append]
    split <;> simp <;> omega
theorem U64.small {u : Nat} (h : u < 256) : U64 u := by unfold U64; omega
theorem ty8u : ElemTy Tryd.prog 56 5 (.int .u8 0) 1 := .mk' Tryd.underlying56 (by kernel_rfl) rfl

set_option maxHeartbeats 1000000 in
theorem fourWrite_any (n : Nat) (hn : n < 4294967296) (w : World) (ht : Tabs w) :
    Calls Tryd.prog 18 #[.int .u32 (n : Int)] w (RetS w (fourL n)) := by
  have e0 : Hid (IntKind.u64.wrap (bits BinOp.and IntKind.u32 ((n : Int) / 16777216) 255) = ((n / 16777216 % 256 : Nat) : Int)) := Lib.hid (by have h := u32_and255 (n / 16777216) (by omega); rw [show ((n / 16777216 : Nat) : Int) = (n : Int) / 16777216 by omega] at h; rw [h, u64_wraps _ (by omega) (by omega)])
  have e1 : Hid (IntKind.u64.wrap (bits BinOp.and IntKind.u32 ((n : Int) / 65536) 255) = ((n / 65536 % 256 : Nat) : Int)) := Lib.hid (by have h := u32_and255 (n / 65536) (by omega); rw [show ((n / 65536 : Nat) : Int) = (n : Int) / 65536 by omega] at h; rw [h, u64_wraps _ (by omega) (by omega)])
  have e2 : Hid (IntKind.u64.wrap (bits BinOp.and IntKind.u32 ((n : Int) / 256) 255) = ((n / 256 % 256 : Nat) : Int)) := Lib.hid (by have h := u32_and255 (n / 256) (by omega); rw [show ((n / 256 : Nat) : Int) = (n : Int) / 256 by omega] at h; rw [h, u64_wraps _ (by omega) (by omega)])
  have e3 : Hid (IntKind.u64.wrap (bits BinOp.and IntKind.u32 ((n : Int)) 255) = ((n % 256 : Nat) : Int)) := Lib.hid (by have h := u32_and255 (n) (by omega); rw [show ((n : Nat) : Int) = (n : Int) by omega] at h; rw [h, u64_wraps _ (by omega) (by omega)])
  have hn' : (n : Int) < 4294967296 := by omega
  go_enter Tryd.func18, Tryd.ntmps18
  go_wp2_with fail
  go_loopw [3, 4] (fun v iv wr => ∃ k : Nat, k ≤ 4 ∧ iv = .int .i64 (24 - 8 * (k : Int)) ∧ OwnB wr w.heap.size 5 v (fourP n k) ∧ Below w.heap.size w wr) (fun _ i _ => (intOf i + 8).toNat)
  case atStart => exact ⟨0, by omega, rfl, OwnB.nil _ _ _, Below.refl _ _⟩
  case round =>
    obtain ⟨k, hk, rfl, hown, hbel⟩ := hrel
    have hsz := hbel.size
    have hlen := fourP_len n k
    have htw := ht.next hbel
    rcases (show k = 0 ∨ k = 1 ∨ k = 2 ∨ k = 3 ∨ k = 4 by omega) with rfl | rfl | rfl | rfl | rfl
    · go_wp2_with fail
      refine (appendUint10_any w.heap.size (n / 16777216 % 256) _ ?hu (U64.small (Nat.mod_lt _ (by decide))) _ _ _ hown htw hsz (by omega)).mono ?_
      case hu => exact e0.out
      rintro e w1 ⟨v1, rfl, ho1, hb1⟩
      have hbel1 := hbel.trans hb1
      have hsz1 := hbel1.size
      have hl1 : (fourP n 0 ++ Lib.decDigits (n / 16777216 % 256)).length ≤ 100 := by
        have := decDigits_small (n / 16777216 % 256) (Nat.mod_lt _ (by decide))
        rw [List.length_append]; omega
      go_wp2_with (at_builtin; refine wpList_pushB ty8u rfl _ _ rfl 46 rfl rfl ho1 hbel1 hsz1 rfl (by unfold maxLen; omega) (by omega) ?_; intro v2 w2 ho2 hb2 _)
      go_roundw
      case rel => exact ⟨1, by omega, by first | rfl | go_num, by have e : fourP n 1 = fourP n 0 ++ Lib.decDigits (n / 16777216 % 256) ++ [46] := (by simp [fourP, byte4]); rw [e]; exact ho2, hb2⟩
      case measure => simp [intOf]
    · go_wp2_with fail
      refine (appendUint10_any w.heap.size (n / 65536 % 256) _ ?hu (U64.small (Nat.mod_lt _ (by decide))) _ _ _ hown htw hsz (by omega)).mono ?_
      case hu => exact e1.out
      rintro e w1 ⟨v1, rfl, ho1, hb1⟩
      have hbel1 := hbel.trans hb1
      have hsz1 := hbel1.size
      have hl1 : (fourP n 1 ++ Lib.decDigits (n / 65536 % 256)).length ≤ 100 := by
        have := decDigits_small (n / 65536 % 256) (Nat.mod_lt _ (by decide))
        rw [List.length_append]; omega
      go_wp2_with (at_builtin; refine wpList_pushB ty8u rfl _ _ rfl 46 rfl rfl ho1 hbel1 hsz1 rfl (by unfold maxLen; omega) (by omega) ?_; intro v2 w2 ho2 hb2 _)
      go_roundw
      case rel => exact ⟨2, by omega, by first | rfl | go_num, by have e : fourP n 2 = fourP n 1 ++ Lib.decDigits (n / 65536 % 256) ++ [46] := (by simp [fourP, byte4]); rw [e]; exact ho2, hb2⟩
      case measure => simp [intOf]
    · go_wp2_with fail
      refine (appendUint10_any w.heap.size (n / 256 % 256) _ ?hu (U64.small (Nat.mod_lt _ (by decide))) _ _ _ hown htw hsz (by omega)).mono ?_
      case hu => exact e2.out
      rintro e w1 ⟨v1, rfl, ho1, hb1⟩
      have hbel1 := hbel.trans hb1
      have hsz1 := hbel1.size
      have hl1 : (fourP n 2 ++ Lib.decDigits (n / 256 % 256)).length ≤ 100 := by
        have := decDigits_small (n / 256 % 256) (Nat.mod_lt _ (by decide))
        rw [List.length_append]; omega
      go_wp2_with (at_builtin; refine wpList_pushB ty8u rfl _ _ rfl 46 rfl rfl ho1 hbel1 hsz1 rfl (by unfold maxLen; omega) (by omega) ?_; intro v2 w2 ho2 hb2 _)
      go_roundw
      case rel => exact ⟨3, by omega, by first | rfl | go_num, by have e : fourP n 3 = fourP n 2 ++ Lib.decDigits (n / 256 % 256) ++ [46] := (by simp [fourP, byte4]); rw [e]; exact ho2, hb2⟩
      case measure => simp [intOf]
    · go_wp2_with fail
      refine (appendUint10_any w.heap.size (n % 256) _ ?hu (U64.small (Nat.mod_lt _ (by decide))) _ _ _ hown htw hsz (by omega)).mono ?_
      case hu => exact e3.out
      rintro e w1 ⟨v1, rfl, ho1, hb1⟩
      have hbel1 := hbel.trans hb1
      have hsz1 := hbel1.size
      have hl1 : (fourP n 3 ++ Lib.decDigits (n % 256)).length ≤ 100 := by
        have := decDigits_small (n % 256) (Nat.mod_lt _ (by decide))
        rw [List.length_append]; omega
      go_wp2_with fail
      go_roundw
      case rel => exact ⟨4, by omega, by first | rfl | go_num, by have e : fourP n 4 = fourP n 3 ++ Lib.decDigits (n % 256) := (by simp [fourP, byte4]); rw [e]; exact ho1, hbel1⟩
      case measure => simp [intOf]
    · have hcv := conv_own (P := Tryd.prog) (S := 9) Tryd.underlying56 Tryd.underlying5 Tryd.underlying9 hown
      go_wp2_with fail
      go_ret
      exact retS_mk rfl hbel
end Go.Proofs.YtnalafhepnfggaaDoor
