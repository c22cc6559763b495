/- The law NumberWhole, walked. -/
import Derived.Test.YtfbmfibghgkgpaaNumK
namespace Go.Proofs.Ytfbmfibghgkgpaa
open Go.RowKit
set_option linter.unusedVariables false

set_option maxRecDepth 100000 in
set_option maxHeartbeats 4000000 in
theorem numberWhole_out (n k d : Int) (w : World) (wn : (Lit.int .i64 n).wf = true) (wk : (Lit.int .i64 k).wf = true) (wd : (Lit.int .i64 d).wf = true) (hm : ML w) (hout : n < 0 ∨ k < 0 ∨ 30 < k ∨ d < 0 ∨ 9 < d) :
    Calls Try.prog 4 #[.int .i64 n, .int .i64 k, .int .i64 d] w (RetB w true) := by
  have hB : Below w.heap.size w w := Below.refl _ _
  go_enter Try.func4, Try.ntmps4
  go_wp2_with fail
  refine (small04_any _ hm).mono ?_
  rintro e w1 ⟨rfl, hb⟩
  replace hB := hB.next hb
  clear hb
  by_cases h1 : n < 0
  · go_wp2_with fail
    go_ret
    exact ⟨rfl, hB⟩
  by_cases h2 : k < 0
  · go_wp2_with fail
    go_ret
    exact ⟨rfl, hB⟩
  by_cases h3 : 30 < k
  · go_wp2_with fail
    go_ret
    exact ⟨rfl, hB⟩
  by_cases h4 : d < 0
  · go_wp2_with fail
    go_ret
    exact ⟨rfl, hB⟩
  have h5 : 9 < d := by omega
  go_wp2_with fail
  go_ret
  exact ⟨rfl, hB⟩
theorem order_self {n : Nat} (h : n < 2 ^ 53) : (FloatKind.f64.format.order (floatOfInt .f64 (n : Int)) (floatOfInt .f64 (n : Int)) == some .eq) = true := by
  obtain ⟨m, i, hr⟩ := read_int h
  have e : FloatKind.f64.format = Ieee.double := rfl
  rw [e]
  unfold Ieee.Format.order
  rw [hr]
  unfold Ieee.Datum.order
  simp
set_option maxRecDepth 100000 in
set_option maxHeartbeats 4000000 in
theorem numberWhole_inA (n k d : Nat) (w : World) (hm : ML w) (hn : n < 9223372036854775808) (hk : k ≤ 30) (hd : d ≤ 9) (hcase : n * 10 + d ≤ 9223372036854775807) :
    Calls Try.prog 4 #[.int .i64 (n : Int), .int .i64 (k : Int), .int .i64 (d : Int)] w (RetB w true) := by
  have hB : Below w.heap.size w w := Below.refl _ _
  have hkI : (k : Int) ≤ 30 := by omega
  have hdI : (d : Int) ≤ 9 := by omega
  have cs : (dgl k n).length ≤ 15 ∧ n < 10 ^ 15 ∨ 15 < (dgl k n).length := by
    by_cases h : (dgl k n).length ≤ 15
    · exact .inl ⟨h, Nat.lt_of_lt_of_le (digs1_le (digs1_dgl k n)) (Nat.pow_le_pow_right (by decide) h)⟩
    · exact .inr (by omega)
  have hlen : (dgl k n).length ≤ 100 := by
    unfold dgl
    rw [List.length_append, List.length_replicate]
    have := digL_len (b := 10) (by decide) 62 n hn
    omega
  have hdn := Lib.hid (fun w => numDigits_any n k w hn hk)
  have hdd := Lib.hid (fun w => numDigits_any d 0 w (by omega) (by decide))
  go_enter Try.func4, Try.ntmps4
  go_wp2_with fail
  refine (small04_any _ hm).mono ?_
  rintro e w1 ⟨rfl, hb⟩
  replace hB := hB.next hb
  clear hb
  go_wp2_with fail
  refine (hdn.out _).mono ?_
  rintro e w2 ⟨s, rfl, hs, hb⟩
  replace hB := hB.next hb
  clear hb
  have hz : s.size = (dgl k n).length := by rw [← size_toList, hs.out]; rfl
  have w0 : Hid (∀ w, Calls Try.prog 9 #[.string s] w fun e w' => e = .returned (.tuple #[.int .i64 (n : Int), .bool true]) ∧ w = w') := Lib.hid (fun w => whole_yes s n w (by omega) (by rw [hs.out]; show (digs1 10 (dgl k n)).map _ = _; rw [digs1_dgl]; show some (min n maxI) = _; unfold maxI; rw [Nat.min_eq_left (by omega)]))
  go_wp2_with fail
  refine (w0.out _).mono ?_
  rintro e wx ⟨rfl, rfl⟩
  go_wp2_with fail
  refine (hdd.out _).mono ?_
  rintro e w3 ⟨t, rfl, ht, hb⟩
  replace hB := hB.next hb
  clear hb
  have hz2 : t.size ≤ 64 := by
    rw [← size_toList, ht.out]
    have := digL_len (b := 10) (by decide) 62 d (by omega)
    simpa using (by omega : (digL 10 d).length ≤ 64)
  have w1 : Hid (∀ w, Calls Try.prog 9 #[.string (s ++ t)] w fun e w' => e = .returned (.tuple #[.int .i64 ((n * 10 + d : Nat) : Int), .bool true]) ∧ w = w') := Lib.hid (fun w => whole_yes _ (n * 10 + d) w (by rw [ByteArray.size_append]; omega) (by
    rw [toList_append, hs.out, ht.out]
    show (digs1 10 (dgl k n ++ ([] ++ digL 10 d))).map _ = _
    rw [List.nil_append, digs1_more k n d hd]
    show some (min (n * 10 + d) maxI) = _
    unfold maxI
    rw [Nat.min_eq_left (by omega)]))
  go_wp2_with fail
  refine (w1.out _).mono ?_
  rintro e wx ⟨rfl, rfl⟩
  rcases cs with ⟨hl, hn15⟩ | hl
  · have h53 : n < 2 ^ 53 := Nat.lt_trans hn15 (by decide)
    have f0 := Lib.hid (fun w hm => float_yes s (false, n, 0) _ w (by omega) hm (by rw [hs.out]; exact ten_ascii (ten_dgl k n)) (by rw [hs.out]; exact floatP_ten (ten_dgl k n) (digs1_dgl k n) hl) (floatW_whole h53))
    have hor := order_self h53
    have hsz : (s.size : Int) ≤ 15 := by omega
    go_wp2_with fail
    refine (f0.out _ (hm.next hB)).mono ?_
    rintro e wz ⟨rfl, hb⟩
    replace hB := hB.next hb
    clear hb
    have hc : (n : Int) * 10 + (d : Int) = 10 * (n : Int) + (d : Int) := by omega
    have hnI : (n : Int) ≤ 9223372036854775807 := by omega
    have hcI : 10 * (n : Int) + (d : Int) ≤ 9223372036854775807 := by omega
    have hn0 : (0 : Int) ≤ (n : Int) := by omega
    have hd0 : (0 : Int) ≤ (d : Int) := by omega
    rw [hc]
    clear hc
    have e1 : IntKind.i64.wrap (10 * (n : Int)) = 10 * (n : Int) := IntWalk.i64_in _ (by omega)
    have e2 : IntKind.i64.wrap (10 * (n : Int) + (d : Int)) = 10 * (n : Int) + (d : Int) := IntWalk.i64_in _ (by omega)
    have e3 : IntKind.i64.wrap (9223372036854775807 - (d : Int)) = 9223372036854775807 - (d : Int) := IntWalk.i64_in _ (by omega)
    have e4 : (9223372036854775807 - (d : Int)).tdiv 10 = (9223372036854775807 - (d : Int)) / 10 := Int.tdiv_eq_ediv_of_nonneg (by omega)
    have e5 : (n : Int) ≤ (9223372036854775807 - (d : Int)) / 10 := by omega
    go_wp2_with fail
    go_ret
    exact ⟨rfl, hB⟩
  · have f0 := Lib.hid (fun w hm => float_no s w (by omega) hm (by rw [hs.out]; exact ten_ascii (ten_dgl k n)) (by rw [hs.out]; exact floatP_long (ten_dgl k n) hl))
    have hsz : ¬ (s.size : Int) ≤ 15 := by omega
    have hsz2 : decide (((dgl k n).length : Int) ≤ 15) = false := decide_eq_false (by omega)
    go_wp2_with fail
    refine (f0.out _ (hm.next hB)).mono ?_
    rintro e wz ⟨rfl, hb⟩
    replace hB := hB.next hb
    clear hb
    have hc : (n : Int) * 10 + (d : Int) = 10 * (n : Int) + (d : Int) := by omega
    have hnI : (n : Int) ≤ 9223372036854775807 := by omega
    have hcI : 10 * (n : Int) + (d : Int) ≤ 9223372036854775807 := by omega
    have hn0 : (0 : Int) ≤ (n : Int) := by omega
    have hd0 : (0 : Int) ≤ (d : Int) := by omega
    rw [hc]
    clear hc
    have e1 : IntKind.i64.wrap (10 * (n : Int)) = 10 * (n : Int) := IntWalk.i64_in _ (by omega)
    have e2 : IntKind.i64.wrap (10 * (n : Int) + (d : Int)) = 10 * (n : Int) + (d : Int) := IntWalk.i64_in _ (by omega)
    have e3 : IntKind.i64.wrap (9223372036854775807 - (d : Int)) = 9223372036854775807 - (d : Int) := IntWalk.i64_in _ (by omega)
    have e4 : (9223372036854775807 - (d : Int)).tdiv 10 = (9223372036854775807 - (d : Int)) / 10 := Int.tdiv_eq_ediv_of_nonneg (by omega)
    have e5 : (n : Int) ≤ (9223372036854775807 - (d : Int)) / 10 := by omega
    go_wp2_with fail
    go_ret
    exact ⟨rfl, hB⟩
set_option maxRecDepth 100000 in
set_option maxHeartbeats 4000000 in
theorem numberWhole_inB (n k d : Nat) (w : World) (hm : ML w) (hn : n < 9223372036854775808) (hk : k ≤ 30) (hd : d ≤ 9) (hcase : 9223372036854775807 < n * 10 + d) :
    Calls Try.prog 4 #[.int .i64 (n : Int), .int .i64 (k : Int), .int .i64 (d : Int)] w (RetB w true) := by
  have hB : Below w.heap.size w w := Below.refl _ _
  have hkI : (k : Int) ≤ 30 := by omega
  have hdI : (d : Int) ≤ 9 := by omega
  have cs : (dgl k n).length ≤ 15 ∧ n < 10 ^ 15 ∨ 15 < (dgl k n).length := by
    by_cases h : (dgl k n).length ≤ 15
    · exact .inl ⟨h, Nat.lt_of_lt_of_le (digs1_le (digs1_dgl k n)) (Nat.pow_le_pow_right (by decide) h)⟩
    · exact .inr (by omega)
  have hlen : (dgl k n).length ≤ 100 := by
    unfold dgl
    rw [List.length_append, List.length_replicate]
    have := digL_len (b := 10) (by decide) 62 n hn
    omega
  have hdn := Lib.hid (fun w => numDigits_any n k w hn hk)
  have hdd := Lib.hid (fun w => numDigits_any d 0 w (by omega) (by decide))
  go_enter Try.func4, Try.ntmps4
  go_wp2_with fail
  refine (small04_any _ hm).mono ?_
  rintro e w1 ⟨rfl, hb⟩
  replace hB := hB.next hb
  clear hb
  go_wp2_with fail
  refine (hdn.out _).mono ?_
  rintro e w2 ⟨s, rfl, hs, hb⟩
  replace hB := hB.next hb
  clear hb
  have hz : s.size = (dgl k n).length := by rw [← size_toList, hs.out]; rfl
  have w0 : Hid (∀ w, Calls Try.prog 9 #[.string s] w fun e w' => e = .returned (.tuple #[.int .i64 (n : Int), .bool true]) ∧ w = w') := Lib.hid (fun w => whole_yes s n w (by omega) (by rw [hs.out]; show (digs1 10 (dgl k n)).map _ = _; rw [digs1_dgl]; show some (min n maxI) = _; unfold maxI; rw [Nat.min_eq_left (by omega)]))
  go_wp2_with fail
  refine (w0.out _).mono ?_
  rintro e wx ⟨rfl, rfl⟩
  go_wp2_with fail
  refine (hdd.out _).mono ?_
  rintro e w3 ⟨t, rfl, ht, hb⟩
  replace hB := hB.next hb
  clear hb
  have hz2 : t.size ≤ 64 := by
    rw [← size_toList, ht.out]
    have := digL_len (b := 10) (by decide) 62 d (by omega)
    simpa using (by omega : (digL 10 d).length ≤ 64)
  have w1 : Hid (∀ w, Calls Try.prog 9 #[.string (s ++ t)] w fun e w' => e = .returned (.tuple #[.int .i64 9223372036854775807, .bool true]) ∧ w = w') := Lib.hid (fun w => whole_yes _ 9223372036854775807 w (by rw [ByteArray.size_append]; omega) (by
    rw [toList_append, hs.out, ht.out]
    show (digs1 10 (dgl k n ++ ([] ++ digL 10 d))).map _ = _
    rw [List.nil_append, digs1_more k n d hd]
    show some (min (n * 10 + d) maxI) = _
    unfold maxI
    rw [Nat.min_eq_right (by omega)]))
  go_wp2_with fail
  refine (w1.out _).mono ?_
  rintro e wx ⟨rfl, rfl⟩
  rcases cs with ⟨hl, hn15⟩ | hl
  · exact absurd hcase (by have : n < 1000000000000000 := hn15; omega)
  · have f0 := Lib.hid (fun w hm => float_no s w (by omega) hm (by rw [hs.out]; exact ten_ascii (ten_dgl k n)) (by rw [hs.out]; exact floatP_long (ten_dgl k n) hl))
    have hsz : ¬ (s.size : Int) ≤ 15 := by omega
    have hsz2 : decide (((dgl k n).length : Int) ≤ 15) = false := decide_eq_false (by omega)
    go_wp2_with fail
    refine (f0.out _ (hm.next hB)).mono ?_
    rintro e wz ⟨rfl, hb⟩
    replace hB := hB.next hb
    clear hb
    have hnI : (n : Int) ≤ 9223372036854775807 := by omega
    have hn0 : (0 : Int) ≤ (n : Int) := by omega
    have hd0 : (0 : Int) ≤ (d : Int) := by omega
    have e3 : IntKind.i64.wrap (9223372036854775807 - (d : Int)) = 9223372036854775807 - (d : Int) := IntWalk.i64_in _ (by omega)
    have e4 : (9223372036854775807 - (d : Int)).tdiv 10 = (9223372036854775807 - (d : Int)) / 10 := Int.tdiv_eq_ediv_of_nonneg (by omega)
    have e5 : ¬ (n : Int) ≤ (9223372036854775807 - (d : Int)) / 10 := by omega
    go_wp2_with fail
    go_ret
    exact ⟨rfl, hB⟩
theorem numberWhole_walk (n k d : Int) (w : World) (wn : (Lit.int .i64 n).wf = true) (wk : (Lit.int .i64 k).wf = true) (wd : (Lit.int .i64 d).wf = true) (hm : ML w) :
    Calls Try.prog 4 #[.int .i64 n, .int .i64 k, .int .i64 d] w (RetB w true) := by
  by_cases hout : n < 0 ∨ k < 0 ∨ 30 < k ∨ d < 0 ∨ 9 < d
  · exact numberWhole_out n k d w wn wk wd hm hout
  · have hb := bounds_i64 wn
    obtain ⟨a, rfl⟩ : ∃ a : Nat, n = (a : Int) := ⟨n.toNat, by omega⟩
    obtain ⟨b, rfl⟩ : ∃ a : Nat, k = (a : Int) := ⟨k.toNat, by omega⟩
    obtain ⟨c, rfl⟩ : ∃ a : Nat, d = (a : Int) := ⟨d.toNat, by omega⟩
    by_cases hc : a * 10 + c ≤ 9223372036854775807
    · exact numberWhole_inA a b c w hm (by omega) (by omega) (by omega) hc
    · exact numberWhole_inB a b c w hm (by omega) (by omega) (by omega) (by omega)
end Go.Proofs.Ytfbmfibghgkgpaa
