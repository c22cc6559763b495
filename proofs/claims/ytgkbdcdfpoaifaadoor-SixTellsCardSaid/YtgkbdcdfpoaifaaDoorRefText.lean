/- The contracts of the references' decimals and hexadecimals: tamisref09.text, tamisref13.Text, tamisref10.hex. -/
import Derived.Test.YtgkbdcdfpoaifaaDoorUint
import Derived.Deep.Cut
import Derived.Deep.CutRange
import Derived.Deep.RegionWith
import Derived.IntWalk
import Derived.Lib.ItoaNum
namespace Go.Proofs.YtgkbdcdfpoaifaaDoor
open Go.RowKit
set_option linter.unusedVariables false

theorem decDigits_big {u : Nat} (h : ¬ u < 10) : Lib.decDigits u = Lib.decDigits (u / 10) ++ [UInt8.ofNat (48 + u % 10)] := by
  rw [Lib.decDigits, dif_neg h]
theorem decDigits_le : ∀ (k u : Nat), u < 10 ^ (k + 1) → (Lib.decDigits u).length ≤ k + 1
  | 0, u, h => by rw [Lib.decDigits, dif_pos (by omega)]; simp
  | k + 1, u, h => by
    rw [Lib.decDigits]
    split
    · simp
    · have := decDigits_le k (u / 10) (by rw [Nat.pow_succ] at h; exact Nat.div_lt_of_lt_mul (by omega))
      rw [List.length_append]; simp; omega
theorem digit_byte (d : Nat) (h : d < 10) : ((UInt8.ofNat (48 + d)).toNat : Int) = 48 + (d : Int) := by
  rw [UInt8.toNat_ofNat_of_lt' (by show 48 + d < 256; omega)]; omega
theorem u8_wraps (n : Int) (h₀ : 0 ≤ n) (h₁ : n < 256) : IntKind.u8.wrap n = n := by simp [IntKind.wrap, IntKind.bits, IntKind.signed]; omega

/-- 'string([]byte of one byte)', in whatever world holds that byte. -/
theorem conv_at {P : Program} {T E S : TypeId} (hT : P.underlying T = some (.slice E)) (hE : P.underlying E = some (.int .u8)) (hS : P.underlying S = some .string) (c : UInt8) :
    ∃ s : ByteArray, Hid (s.toList = [c]) ∧ s.size ≤ 1 ∧ ∀ (w : World) (g : Nat), w.cell? ⟨g, 0, none⟩ = some (.int .u8 (c.toNat : Int)) → (convert T S (.slice (some ⟨g, 0, none⟩) 1 1)).run P w = .ok (.string s) w := by
  refine ⟨⟨[c].toArray⟩, Lib.hid (toList_mk _), Nat.le_refl _, fun w g hc => ?_⟩
  have := run_convert_bytes_arg (P := P) (w := w) T E hT hE g 0 1 1 [(c.toNat : Int)] rfl (fun i hi => by
    obtain rfl : i = 0 := by omega
    exact hc) S hS
  rw [this]; unfold strOfNums; simp

theorem itoa_neg (m : Nat) (h : 0 < m) : Lib.itoa (-(m : Int)) = 45 :: Lib.decDigits m := by
  unfold Lib.itoa; rw [if_pos (by omega)]; congr 2; omega
theorem itoa_pos (m : Nat) : Lib.itoa (m : Int) = Lib.decDigits m := by
  unfold Lib.itoa; rw [if_neg (by omega)]; congr 1
def digs16 : ByteArray := ⟨#[48, 49, 50, 51, 52, 53, 54, 55, 56, 57, 97, 98, 99, 100, 101, 102]⟩
theorem hexF_len' : ∀ f n, (hexF f n).length ≤ f
  | 0, _ => Nat.le_refl _
  | f + 1, n => by
    have := hexF_len' f (n / 16)
    unfold hexF; split <;> simp <;> omega
theorem digs16_at : ∀ d : Fin 16, ((digs16.toList.take (d.val + 1)).drop d.val) = [hexC d.val] := by
  rw [show digs16.toList = [48, 49, 50, 51, 52, 53, 54, 55, 56, 57, 97, 98, 99, 100, 101, 102] from toList_mk _]; decide +kernel
set_option maxHeartbeats 1000000 in
theorem hex10_any (k : Nat) : ∀ (n : Nat) (w : World), k ≤ 3 → n < 16 ^ (k + 1) →
    Calls Tryd.prog 23 #[.int .i64 (n : Int)] w (RetS w (hexF (k + 1) n)) := by
  induction k with
  | zero =>
    intro n w _ hn
    have hI : (n : Int) < 16 := by omega
    have hd := Lib.hid (digs16_at ⟨n, hn⟩)
    have e3 : IntKind.i64.wrap ((n : Int) + 1) = (n : Int) + 1 := IntWalk.i64_in _ (by omega)
    go_enter Tryd.func23, Tryd.ntmps23
    go_wp2_with fail
    go_ret
    exact retS (by rw [toList_extract]; exact hd.out.trans (hexF_small hn).symm) (Below.refl _ _)
  | succ k ih =>
    intro n w hk hn
    by_cases h16 : n < 16
    · have hI : (n : Int) < 16 := by omega
      have hd := Lib.hid (digs16_at ⟨n, h16⟩)
      have e3 : IntKind.i64.wrap ((n : Int) + 1) = (n : Int) + 1 := IntWalk.i64_in _ (by omega)
      go_enter Tryd.func23, Tryd.ntmps23
      go_wp2_with fail
      go_ret
      exact retS (by rw [toList_extract]; exact hd.out.trans (hexF_small h16).symm) (Below.refl _ _)
    · have hI : (16 : Int) ≤ (n : Int) := by omega
      have hp : 16 ^ (k + 2) ≤ 65536 := Nat.le_trans (Nat.pow_le_pow_right (by decide) (by omega)) (by decide : 16 ^ 4 ≤ 65536)
      have hn2 : n < 65536 := Nat.lt_of_lt_of_le hn hp
      have hd := Lib.hid (digs16_at ⟨n % 16, by omega⟩)
      have e2 : (n : Int).tmod 16 = (n : Int) % 16 := Int.tmod_eq_emod_of_nonneg (by omega)
      have e3 : IntKind.i64.wrap ((n : Int) % 16 + 1) = (n : Int) % 16 + 1 := IntWalk.i64_in _ (by omega)
      have e5 : IntKind.i64.wrap ((n : Int) / 16) = ((n / 16 : Nat) : Int) := by rw [IntWalk.i64_in _ (by omega)]; omega
      have b1 : (0 : Int) ≤ (n : Int) % 16 := by omega
      have b2 : (n : Int) % 16 < 16 := by omega
      have b3 : (n : Int) % 16 + 1 ≤ 16 := by omega
      have b4 : (n : Int) % 16 ≤ (n : Int) % 16 + 1 := by omega
      have b5 : (0 : Int) ≤ (n : Int) % 16 + 1 := by omega
      have b6 : ((n : Int) % 16).toNat = n % 16 := by omega
      have b7 : ((n : Int) % 16 + 1).toNat = n % 16 + 1 := by omega
      have hx : ((ByteArray.mk #[48, 49, 50, 51, 52, 53, 54, 55, 56, 57, 97, 98, 99, 100, 101, 102]).extract (n % 16) (n % 16 + 1)).size = 1 := by rw [← size_toList, toList_extract]; exact congrArg List.length hd.out
      have hp := Lib.hid hp
      have hn := Lib.hid hn
      go_enter Tryd.func23, Tryd.ntmps23
      go_wp2_with fail
      go_region_with
        ((go_at_call 23; refine (ih (n / 16) _ (by omega) (by have := hn.out; rw [Nat.pow_succ] at this; exact Nat.div_lt_of_lt_mul (by omega))).mono ?_; rintro e w1 ⟨t, rfl, ht, hb⟩; obtain ⟨E, d, rfl⟩ := hb.ext; clear hb; have hz : t.size ≤ 4 := by { rw [← size_toList, ht.out]; exact Nat.le_trans (hexF_len' _ _) (by omega) }; have z1 : ¬ (9223372036854775807 < t.size + ((ByteArray.mk #[48, 49, 50, 51, 52, 53, 54, 55, 56, 57, 97, 98, 99, 100, 101, 102]).extract (n % 16) (n % 16 + 1)).size) := (by rw [hx]; omega); have z2 : ¬ (9223372036854775807 < t.size + 1) := (by omega)))
      trace_state
      all_goals
        go_wp2_with fail
        go_ret
        refine retS ?_ ((Below.refl _ _).toExt (Nat.le_refl _) _ _)
        rw [toList_append, ht.out, toList_extract, hexF_big (f := k + 1) (by omega : 16 ≤ n)]
        exact congrArg (_ ++ ·) hd.out
theorem hex10_four (n : Nat) (w : World) (h : n < 65536) : Calls Tryd.prog 23 #[.int .i64 (n : Int)] w (RetS w (hexL n)) := hex10_any 3 n w (Nat.le_refl _) h
end Go.Proofs.YtgkbdcdfpoaifaaDoor
