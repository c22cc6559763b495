/- The contracts of the references' decimals and hexadecimals: tamisref09.text, tamisref13.Text, tamisref10.hex. -/
import Derived.Test.YtbejimncmfeggaaDoorUint
import Derived.Deep.Cut
import Derived.Deep.CutRange
import Derived.Deep.RegionWith
import Derived.IntWalk
import Derived.Lib.ItoaNum
namespace Go.Proofs.YtbejimncmfeggaaDoor
open Go.RowKit
set_option linter.unusedVariables false

theorem decDigits_big {u : Nat} (h : ¬ u < 10) : Lib.decDigits u = Lib.decDigits (u / 10) ++ [UInt8.ofNat (48 + u % 10)] := by
  rw [Lib.decDigits, dif_neg h]
theorem decDigits_le : ∀ (k u : Nat), u < 10 ^ (k + 1) → (Lib.decDigits u).length ≤ k + 1
  | 0, u, h => by rw [Lib.decDigits, dif_pos (by omega)]; simp
  | k + 1, u, h => by
    rw [Lib.decDigits]
    split
    · simp
    · have := decDigits_le k (u / 10) (by rw [Nat.pow_succ] at h; exact Nat.div_lt_of_lt_mul (by omega))
      rw [List.length_append]; simp; omega
theorem digit_byte (d : Nat) (h : d < 10) : ((UInt8.ofNat (48 + d)).toNat : Int) = 48 + (d : Int) := by
  rw [UInt8.toNat_ofNat_of_lt' (by show 48 + d < 256; omega)]; omega
theorem u8_wraps (n : Int) (h₀ : 0 ≤ n) (h₁ : n < 256) : IntKind.u8.wrap n = n := by simp [IntKind.wrap, IntKind.bits, IntKind.signed]; omega

/-- 'string([]byte of one byte)', in whatever world holds that byte. -/
theorem conv_at {P : Program} {T E S : TypeId} (hT : P.underlying T = some (.slice E)) (hE : P.underlying E = some (.int .u8)) (hS : P.underlying S = some .string) (c : UInt8) :
    ∃ s : ByteArray, Hid (s.toList = [c]) ∧ s.size ≤ 1 ∧ ∀ (w : World) (g : Nat), w.cell? ⟨g, 0, none⟩ = some (.int .u8 (c.toNat : Int)) → (convert T S (.slice (some ⟨g, 0, none⟩) 1 1)).run P w = .ok (.string s) w := by
  refine ⟨⟨[c].toArray⟩, Lib.hid (toList_mk _), Nat.le_refl _, fun w g hc => ?_⟩
  have := run_convert_bytes_arg (P := P) (w := w) T E hT hE g 0 1 1 [(c.toNat : Int)] rfl (fun i hi => by
    obtain rfl : i = 0 := by omega
    exact hc) S hS
  rw [this]; unfold strOfNums; simp

set_option maxHeartbeats 1000000 in
theorem text13_pos (k : Nat) : ∀ (n : Nat) (w : World), n < k → n < 9223372036854775808 →
    Calls Tryd.prog 20 #[.int .i64 (n : Int)] w (RetS w (Lib.decDigits n)) := by
  induction k with
  | zero => intro n w hk _; omega
  | succ k ih =>
    intro n w hk hn
    by_cases h10 : n < 10
    · have h10I : (n : Int) < 10 := by omega
      obtain ⟨sep, hsep, hsep1, hcv⟩ := conv_at (P := Tryd.prog) (S := 9) Tryd.underlying42 Tryd.underlying5 Tryd.underlying9 (UInt8.ofNat (48 + n))
      have e1 : IntKind.u8.wrap (48 + (n : Int)) = 48 + (n : Int) := u8_wraps _ (by omega) (by omega)
      rw [digit_byte n h10] at hcv
      have hsep := Lib.hid hsep
      go_enter Tryd.func20, Tryd.ntmps20
      go_wp2_with fail
      go_ret
      exact retS (by rw [hsep.out.out, Lib.decDigits_one h10]) ((Below.refl _ _).alloc (Nat.le_refl _) _)
    · have h10I : (10 : Int) ≤ (n : Int) := by omega
      obtain ⟨sep, hsep, hsep1, hcv⟩ := conv_at (P := Tryd.prog) (S := 9) Tryd.underlying42 Tryd.underlying5 Tryd.underlying9 (UInt8.ofNat (48 + n % 10))
      have e1 : IntKind.u8.wrap (48 + (n : Int) % 10) = 48 + (n : Int) % 10 := u8_wraps _ (by omega) (by omega)
      have e3 : IntKind.i64.wrap (48 + (n : Int) % 10) = 48 + (n : Int) % 10 := IntWalk.i64_in _ (by omega)
      have e4 : (n : Int).tmod 10 = (n : Int) % 10 := Int.tmod_eq_emod_of_nonneg (by omega)
      have e5 : IntKind.i64.wrap ((n : Int) / 10) = ((n / 10 : Nat) : Int) := by rw [IntWalk.i64_in _ (by omega)]; omega
      rw [digit_byte (n % 10) (by omega), show ((n % 10 : Nat) : Int) = (n : Int) % 10 by omega] at hcv
      have hsep := Lib.hid hsep
      go_enter Tryd.func20, Tryd.ntmps20
      go_wp2_with fail
      go_region_with
        ((go_at_call 20; refine (ih (n / 10) _ (by omega) (by omega)).mono ?_; rintro e w1 ⟨t, rfl, ht, hb⟩; obtain ⟨E, d, rfl⟩ := hb.ext; clear hb; have hz : t.size ≤ 20 := by { rw [← size_toList, ht.out]; exact Nat.le_trans (decDigits_le 19 _ (by omega)) (by decide) }; have hz2 : ¬ (9223372036854775807 < t.size + sep.size) := (by omega)))
      all_goals
        go_wp2_with fail
        go_ret
        refine retS (by rw [toList_append, ht.out, hsep.out.out, decDigits_big h10]) ?_
        first
          | exact (below_ext _ _ _).alloc (by simp) _
          | exact ((Below.refl _ _).alloc (Nat.le_refl _) _).toExt (by simp) _ _
theorem itoa_neg (m : Nat) (h : 0 < m) : Lib.itoa (-(m : Int)) = 45 :: Lib.decDigits m := by
  unfold Lib.itoa; rw [if_pos (by omega)]; congr 2; omega
theorem itoa_pos (m : Nat) : Lib.itoa (m : Int) = Lib.decDigits m := by
  unfold Lib.itoa; rw [if_neg (by omega)]; congr 1
set_option maxHeartbeats 1000000 in
theorem text13_neg (k : Nat) : ∀ (m : Nat) (w : World), m < k → 0 < m → m ≤ 9223372036854775808 →
    Calls Tryd.prog 20 #[.int .i64 (-(m : Int))] w (RetS w (Lib.itoa (-(m : Int)))) := by
  induction k with
  | zero => intro m w hk _ _; omega
  | succ k ih =>
    intro m w hk h0 hm
    have hN := Lib.hid (itoa_neg m h0)
    have hlo : -(m : Int) < 0 := by omega
    by_cases h10 : m < 10
    · have h10I : -10 < -(m : Int) := by omega
      have e0 : IntKind.i64.wrap (- -(m : Int)) = (m : Int) := by rw [IntWalk.i64_in _ (by omega)]; omega
      generalize -(m : Int) = z at h10I hlo hN e0 ⊢
      go_enter Tryd.func20, Tryd.ntmps20
      go_wp2_with fail
      refine (text13_pos 10 m _ h10 (by omega)).mono ?_
      rintro e w1 ⟨t, rfl, ht, hb⟩
      have hz : t.size ≤ 20 := by rw [← size_toList, ht.out]; exact Nat.le_trans (decDigits_le 19 _ (by omega)) (by decide)
      go_wp2_with fail
      go_ret
      exact retS (by rw [toList_append, ht.out, hN.out, show (ByteArray.mk #[45]).toList = [45] from toList_mk _]; rfl) hb
    · have h10I : -(m : Int) ≤ -10 := by omega
      obtain ⟨sep, hsep, hsep1, hcv⟩ := conv_at (P := Tryd.prog) (S := 9) Tryd.underlying42 Tryd.underlying5 Tryd.underlying9 (UInt8.ofNat (48 + m % 10))
      have hN2 := Lib.hid (itoa_neg (m / 10) (by omega))
      have e4 : (-(m : Int)).tmod 10 = -((m : Int) % 10) := by rw [Int.neg_tmod, Int.tmod_eq_emod_of_nonneg (by omega)]
      have e3 : IntKind.i64.wrap (48 + (m : Int) % 10) = 48 + (m : Int) % 10 := IntWalk.i64_in _ (by omega)
      have e1 : IntKind.u8.wrap (48 + (m : Int) % 10) = 48 + (m : Int) % 10 := u8_wraps _ (by omega) (by omega)
      have e5 : IntKind.i64.wrap ((-(m : Int)).tdiv 10) = -((m / 10 : Nat) : Int) := by rw [Int.neg_tdiv, Int.tdiv_eq_ediv_of_nonneg (by omega), IntWalk.i64_in _ (by omega)]; omega
      rw [digit_byte (m % 10) (by omega), show ((m % 10 : Nat) : Int) = (m : Int) % 10 by omega] at hcv
      have hsep := Lib.hid hsep
      generalize hz : -(m : Int) = z at h10I hlo hN e4 e5 ⊢
      replace hz := Lib.hid hz
      go_enter Tryd.func20, Tryd.ntmps20
      go_wp2_with fail
      go_region_with
        ((go_at_call 20; refine (ih (m / 10) _ (by omega) (by omega) (by omega)).mono ?_; rintro e w1 ⟨t, rfl, ht, hb⟩; obtain ⟨E, d, rfl⟩ := hb.ext; clear hb; have hz : t.size ≤ 30 := by { rw [← size_toList, ht.out, hN2.out]; have := decDigits_le 19 (m / 10) (by omega); simp; omega }; have hz2 : ¬ (9223372036854775807 < t.size + sep.size) := (by omega)))
      all_goals
        go_wp2_with fail
        go_ret
        refine retS (by rw [toList_append, ht.out, hsep.out.out, hN.out, hN2.out, decDigits_big h10]; rfl) ?_
        first
          | exact (below_ext _ _ _).alloc (by simp) _
          | exact ((Below.refl _ _).alloc (Nat.le_refl _) _).toExt (by simp) _ _
theorem text13_any (n : Int) (w : World) (h0 : -9223372036854775808 ≤ n) (h1 : n ≤ 9223372036854775807) :
    Calls Tryd.prog 20 #[.int .i64 n] w (RetS w (Lib.itoa n)) := by
  by_cases hn : n < 0
  · obtain ⟨m, rfl⟩ : ∃ m : Nat, n = -(m : Int) := ⟨n.natAbs, by omega⟩
    exact text13_neg (m + 1) m w (by omega) (by omega) (by omega)
  · obtain ⟨m, rfl⟩ : ∃ m : Nat, n = (m : Int) := ⟨n.natAbs, by omega⟩
    rw [itoa_pos]
    exact text13_pos (m + 1) m w (by omega) (by omega)
def digs16 : ByteArray := ⟨#[48, 49, 50, 51, 52, 53, 54, 55, 56, 57, 97, 98, 99, 100, 101, 102]⟩
theorem hexF_len' : ∀ f n, (hexF f n).length ≤ f
  | 0, _ => Nat.le_refl _
  | f + 1, n => by
    have := hexF_len' f (n / 16)
    unfold hexF; split <;> simp <;> omega
theorem digs16_at : ∀ d : Fin 16, ((digs16.toList.take (d.val + 1)).drop d.val) = [hexC d.val] := by
  rw [show digs16.toList = [48, 49, 50, 51, 52, 53, 54, 55, 56, 57, 97, 98, 99, 100, 101, 102] from toList_mk _]; decide +kernel
end Go.Proofs.YtbejimncmfeggaaDoor
