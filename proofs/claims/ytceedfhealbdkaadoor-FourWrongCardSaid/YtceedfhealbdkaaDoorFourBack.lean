/- The walk of FourBack; the contract of the law's own digits. -/
import Derived.Test.YtceedfhealbdkaaDoorFourEnds
import Derived.Test.YtceedfhealbdkaaDoorFourR
import Derived.IntWalk
namespace Go.Proofs.YtceedfhealbdkaaDoor
open Go.RowKit
set_option linter.unusedVariables false
set_option linter.unusedSimpArgs false

theorem to9746 : (ByteArray.mk #[97, 46]).toList = [97, 46] := toList_mk _
set_option maxRecDepth 100000 in
set_option maxHeartbeats 2000000 in
theorem fourBack_walk (n : Int) (w : World) (wn : (Lit.int .u32 n).wf = true) (ht : Tabs w) (hm : ML w) :
    Calls Tryd.prog 4 #[.int .u32 n] w (RetB w true) := by
  have hB : Below w.heap.size w w := Below.refl _ _
  obtain ⟨n, rfl, hn⟩ : ∃ m : Nat, n = (m : Int) ∧ m < 4294967296 := by
    have := bounds_u32 wn
    exact ⟨n.toNat, by omega, by omega⟩
  have hfl := fourL_size n
  go_enter Tryd.func4, Tryd.ntmps4
  go_wp2_with fail
  refine (small09_any _ hm ht).mono ?_
  rintro e w1 ⟨rfl, hb⟩
  replace hB := hB.next hb
  clear hb
  go_wp2_with fail
  refine (fourWrite_any n hn _ (ht.next hB)).mono ?_
  rintro e w2 ⟨s, rfl, hs, hb⟩
  replace hB := hB.next hb
  clear hb
  have hz : s.size = (fourL n).length := by rw [← size_toList, hs.out]
  have hs0 : s.size < 4294967281 := by omega
  have hz1 : (7 : Int) ≤ (s.size : Int) := by omega
  have hz2 : (s.size : Int) ≤ 15 := by omega
  have s1 : Hid ((s ++ ⟨#[46]⟩ : ByteArray).size < 4294967281) := Lib.hid (by rw [ByteArray.size_append, sz46]; omega)
  have s2 : Hid ((⟨#[97, 46]⟩ ++ s : ByteArray).size < 4294967281) := Lib.hid (by rw [ByteArray.size_append]; have : (ByteArray.mk #[97, 46]).size = 2 := rfl; omega)
  have p0 : Hid (parseL s.toList = some n) := Lib.hid (by rw [hs.out]; exact parse_fourL hn)
  have p1 : Hid (parseL (s ++ ⟨#[46]⟩ : ByteArray).toList = some n) := Lib.hid (by rw [toList_append, to46, hs.out]; exact parse_fourL_point hn)
  have q0 : Hid (endsL s.toList = true) := Lib.hid (parse_ends p0.out)
  have q1 : Hid (endsL (s ++ ⟨#[46]⟩ : ByteArray).toList = true) := Lib.hid (parse_ends p1.out)
  have q2 : Hid (endsL (⟨#[97, 46]⟩ ++ s : ByteArray).toList = true) := Lib.hid (by
    rw [toList_append, to9746]
    exact (ends_behind [97] (by rw [hs.out]; exact fourL_ne n)).trans q0.out)
  clear hz hfl
  go_wp2_with fail
  refine (parse_yes s n _ (hm.next hB) hs0 p0.out).mono ?_
  rintro e w3 ⟨rfl, hb⟩
  replace hB := hB.next hb
  clear hb
  go_wp2_with fail
  refine (parse_yes _ n _ (hm.next hB) s1.out p1.out).mono ?_
  rintro e w4 ⟨rfl, hb⟩
  replace hB := hB.next hb
  clear hb
  go_wp2_with fail
  refine (ends_at s true _ (hm.next hB) hs0 q0.out).mono ?_
  rintro e w5 ⟨rfl, hb⟩
  replace hB := hB.next hb
  clear hb
  go_wp2_with fail
  refine (ends_at _ true _ (hm.next hB) s1.out q1.out).mono ?_
  rintro e w6 ⟨rfl, hb⟩
  replace hB := hB.next hb
  clear hb
  go_wp2_with fail
  refine (ends_at _ true _ (hm.next hB) s2.out q2.out).mono ?_
  rintro e w7 ⟨rfl, hb⟩
  replace hB := hB.next hb
  clear hb
  go_wp2_with fail
  go_ret
  exact ⟨rfl, hB⟩

theorem lit16_at : ∀ d : Fin 16, (([48, 49, 50, 51, 52, 53, 54, 55, 56, 57, 97, 98, 99, 100, 101, 102] : List UInt8).take (d.val + 1)).drop d.val = [hexC d.val] := by decide +kernel
theorem digL_step {b : Nat} (hb : 2 ≤ b) (m : Nat) : digL b m = (if m / b = 0 then [] else digL b (m / b)) ++ [hexC (m % b)] := by
  by_cases h : m < b
  · rw [digL_small h, if_pos (Nat.div_eq_of_lt h), Nat.mod_eq_of_lt h]; rfl
  · rw [digL_big h hb, if_neg]
    have := Nat.div_pos (show b ≤ m by omega) (by omega : 0 < b)
    omega
/-- How the digits stand in the middle of the loop. -/
def DigR (b n m : Nat) (t : List UInt8) : Prop := (t = [] ∧ m = n) ∨ (t ≠ [] ∧ (if m = 0 then [] else digL b m) ++ t = digL b n)
theorem DigR.step {b n m : Nat} {t : List UInt8} (hb : 2 ≤ b) (h : DigR b n m t) (hm : 0 < m ∨ t = []) : DigR b n (m / b) (hexC (m % b) :: t) := by
  refine .inr ⟨by simp, ?_⟩
  rcases h with ⟨rfl, rfl⟩ | ⟨h1, h2⟩
  · exact (digL_step hb m).symm
  · have h0 : m ≠ 0 := by rcases hm with hm | hm; omega; exact absurd hm h1
    rw [if_neg h0, digL_step hb m] at h2
    rw [← h2]; simp
set_option maxRecDepth 100000 in
set_option maxHeartbeats 2000000 in
theorem lawDigits_any (n b k : Nat) (w : World) (hn : n ≤ 4294967296) (hb : b = 8 ∨ b = 10 ∨ b = 16) (hk : k ≤ 20) :
    Calls Tryd.prog 16 #[.int .i64 (n : Int), .int .i64 (b : Int), .int .i64 (k : Int)] w (RetS w (List.replicate k 48 ++ digL b n)) := by
  have hB : Below w.heap.size w w := Below.refl _ _
  have hb2 : 2 ≤ b := by omega
  have hb16 : b ≤ 16 := by omega
  have hbI : (b : Int) ≤ 16 := by omega
  have hbI2 : (2 : Int) ≤ (b : Int) := by omega
  have hb0 : ((b : Int) == 0) = false := by simp only [beq_eq_false_iff_ne, ne_eq]; omega
  go_enter Tryd.func16, Tryd.ntmps16
  go_wp2_with fail
  go_loopw [0, 8] (fun nv sv wr => ∃ (m : Nat) (t : ByteArray), nv = .int .i64 m ∧ sv = .string t ∧ m ≤ 4294967296 ∧ t.size ≤ 33 ∧ Hid (m < 2 ^ (33 - t.size)) ∧ Hid (DigR b n m t.toList) ∧ Below w.heap.size w wr) (fun nv sv _ => 2 * (intOf nv).toNat + (1 - szOf sv))
  case atStart => exact ⟨n, _, rfl, rfl, hn, Nat.zero_le _, Lib.hid (by show n < 2 ^ 33; omega), Lib.hid (.inl ⟨toList_mk [], rfl⟩), hB⟩
  case round =>
    obtain ⟨m, t, rfl, rfl, hm, hts, hsz, hg, hbel⟩ := hrel
    clear hB
    by_cases hgo : 0 < m ∨ t.toList = []
    · have hd := Nat.mod_lt m (show 0 < b by omega)
      have hx0 : (([48, 49, 50, 51, 52, 53, 54, 55, 56, 57, 97, 98, 99, 100, 101, 102] : List UInt8).take (m % b + 1)).drop (m % b) = [hexC (m % b)] := lit16_at ⟨m % b, by omega⟩
      have hdiv : m / b ≤ m / 2 := Nat.div_le_div_left hb2 (by decide)
      have hnew := Lib.hid (hg.out.step hb2 hgo)
      have t1 : (m : Int) % (b : Int) = ((m % b : Nat) : Int) := (Int.natCast_emod m b).symm
      have t3 : (m : Int) / (b : Int) = ((m / b : Nat) : Int) := (Int.natCast_ediv m b).symm
      have t5 : (m : Int).tmod (b : Int) = ((m % b : Nat) : Int) := by rw [Int.tmod_eq_emod_of_nonneg (by omega)]; exact t1
      have t6 : (m : Int).tdiv (b : Int) = ((m / b : Nat) : Int) := by rw [Int.tdiv_eq_ediv_of_nonneg (by omega)]; exact t3
      have hmea : 2 * (m / b) < 2 * m + (1 - t.size) := by
        rcases hgo with h | h
        · omega
        · have : t.size = 0 := by rw [← size_toList, h]; rfl
          omega
      have hsz2 : t.size ≤ 32 := by
        rcases hgo with h | h
        · have := hsz.out
          by_cases hq : t.size = 33
          · rw [hq] at this; simp at this; omega
          · omega
        · have : t.size = 0 := by rw [← size_toList, h]; rfl
          omega
      have hsz3 : Hid (m / b < 2 ^ (33 - (1 + t.size))) := Lib.hid (by
        have h1 := hsz.out
        have h2 : 33 - t.size = (33 - (1 + t.size)) + 1 := by omega
        rw [h2, Nat.pow_succ] at h1
        omega)
      generalize hdd : m % b = d at hd hx0 t1 t5 hnew
      generalize hqq : m / b = q at t3 t6 hdiv hnew hsz3 hmea
      have hqm : q ≤ 4294967296 := by omega
      have e3 : IntKind.i64.wrap ((d : Int) + 1) = (d : Int) + 1 := IntWalk.i64_in _ (by omega)
      have e4 : IntKind.i64.wrap (d : Int) = (d : Int) := IntWalk.i64_in _ (by omega)
      have e5 : IntKind.i64.wrap (q : Int) = (q : Int) := IntWalk.i64_in _ (by omega)
      have hx : ((ByteArray.mk #[48, 49, 50, 51, 52, 53, 54, 55, 56, 57, 97, 98, 99, 100, 101, 102]).extract d (d + 1)).toList = [hexC d] := by rw [toList_extract, toList_mk]; exact hx0
      have hxs : ((ByteArray.mk #[48, 49, 50, 51, 52, 53, 54, 55, 56, 57, 97, 98, 99, 100, 101, 102]).extract d (d + 1)).size = 1 := by rw [← size_toList, hx]; rfl
      have b1 : (0 : Int) ≤ (d : Int) := by omega
      have b2 : (d : Int) < 16 := by omega
      have b3 : (d : Int) + 1 ≤ 16 := by omega
      have b4 : (d : Int) ≤ (d : Int) + 1 := by omega
      have b5 : (0 : Int) ≤ (d : Int) + 1 := by omega
      have z1 : ¬ (9223372036854775807 < 1 + t.size) := by omega
      have hcat : Hid (((ByteArray.mk #[48, 49, 50, 51, 52, 53, 54, 55, 56, 57, 97, 98, 99, 100, 101, 102]).extract d (d + 1) ++ t).toList = hexC d :: t.toList) := Lib.hid (by rw [toList_append, hx]; rfl)
      have hcs : Hid (((ByteArray.mk #[48, 49, 50, 51, 52, 53, 54, 55, 56, 57, 97, 98, 99, 100, 101, 102]).extract d (d + 1) ++ t).size = 1 + t.size) := Lib.hid (by rw [ByteArray.size_append, hxs])
      replace hx := Lib.hid hx
      replace hdd := Lib.hid hdd
      replace hqq := Lib.hid hqq
      replace hmea := Lib.hid hmea
      have hgoI : (0 : Int) < (m : Int) ∨ (m : Int) ≤ 0 ∧ t.toList.isEmpty = true := by
        rcases hgo with h | h
        · exact .inl (by omega)
        · by_cases h0 : 0 < m
          · exact .inl (by omega)
          · exact .inr ⟨by omega, by rw [h]; rfl⟩
      clear hgo hx0 hg hsz
      rcases hgoI with g1 | ⟨g1, g2⟩
      · go_wp2_with fail
        go_quiet (fail)
        go_wp2_with fail
        go_roundw
        case rel => exact ⟨q, _, rfl, rfl, hqm, Nat.le_trans (Nat.le_of_eq hcs.out) (by omega), (congrArg (fun z => Hid (q < 2 ^ (33 - z))) hcs.out).mpr hsz3, (congrArg (fun z => Hid (DigR b n q z)) hcat.out).mpr hnew, below_drewN hbel _⟩
        case measure =>
          have h1 := hmea.out
          have h2 := hcs.out
          simp only [intOf, szOf, Int.toNat_natCast, Int.toNat_zero] at h1 h2 ⊢
          omega
      · obtain rfl : m = 0 := by omega
        obtain rfl : d = 0 := by rw [← hdd.out, Nat.zero_mod]
        obtain rfl : q = 0 := by rw [← hqq.out, Nat.zero_div]
        replace hcs : Hid (((ByteArray.mk #[48, 49, 50, 51, 52, 53, 54, 55, 56, 57, 97, 98, 99, 100, 101, 102]).extract 0 1 ++ t).size = 1 + t.size) := hcs
        replace hcat : Hid (((ByteArray.mk #[48, 49, 50, 51, 52, 53, 54, 55, 56, 57, 97, 98, 99, 100, 101, 102]).extract 0 1 ++ t).toList = hexC 0 :: t.toList) := hcat
        replace hxs : ((ByteArray.mk #[48, 49, 50, 51, 52, 53, 54, 55, 56, 57, 97, 98, 99, 100, 101, 102]).extract 0 1).size = 1 := hxs
        clear t1 t3 t5 t6 e3 e4 e5 b1 b2 b3 b4 b5 hdiv hdd hqq
        go_wp2_with fail
        go_quiet (fail)
        go_wp2_with fail
        go_roundw
        case rel => exact ⟨0, _, rfl, rfl, hqm, Nat.le_trans (Nat.le_of_eq hcs.out) (by omega), (congrArg (fun z => Hid (0 < 2 ^ (33 - z))) hcs.out).mpr hsz3, (congrArg (fun z => Hid (DigR b n 0 z)) hcat.out).mpr hnew, below_drewN hbel _⟩
        case measure =>
          have h1 := hmea.out
          have h2 := hcs.out
          simp only [intOf, szOf, Int.toNat_natCast, Int.toNat_zero] at h1 h2 ⊢
          omega
    · have hm0 : m = 0 := by omega
      subst hm0
      have hne : t.toList.isEmpty = false := by
        cases hq : t.toList.isEmpty
        · rfl
        · exact absurd (.inr (by simpa using hq)) hgo
      have hfin : Hid (t.toList = digL b n) := Lib.hid (by
        rcases hg.out with ⟨h1, _⟩ | ⟨_, h2⟩
        · rw [h1] at hne; cases hne
        · rw [if_pos rfl] at h2; exact h2)
      clear hgo hg hsz
      have hkI : (k : Int) ≤ 20 := by omega
      go_wp2_with fail
      go_loopw [8, 9] (fun sv iv wr => ∃ (j : Nat) (x : ByteArray), iv = .int .i64 j ∧ sv = .string x ∧ j ≤ k ∧ x.size ≤ 33 + j ∧ Hid (x.toList = List.replicate j 48 ++ digL b n) ∧ Below w.heap.size w wr) (fun _ iv _ => k - (intOf iv).toNat)
      case atStart => exact ⟨0, t, rfl, rfl, Nat.zero_le _, by omega, Lib.hid (by rw [hfin.out]; rfl), hbel⟩
      case round =>
        clear hbel
        obtain ⟨j, x, rfl, rfl, hj, hxs, hx, hbel⟩ := hrel
        by_cases hlt : j < k
        · have hltI : (j : Int) < (k : Int) := by omega
          have z2 : ¬ (9223372036854775807 < 1 + x.size) := by omega
          have hnew : Hid ((⟨#[48]⟩ ++ x : ByteArray).toList = List.replicate (j + 1) 48 ++ digL b n) := Lib.hid (by
            rw [toList_append, hx.out, show (ByteArray.mk #[48]).toList = [48] from toList_mk _, List.replicate_succ]; rfl)
          have hns : Hid ((⟨#[48]⟩ ++ x : ByteArray).size = 1 + x.size) := Lib.hid (by rw [ByteArray.size_append]; rfl)
          go_wp2_with fail
          go_roundw
          case rel => exact ⟨j + 1, _, by go_num, rfl, by omega, by rw [hns.out]; omega, hnew, hbel⟩
          case measure => simp [intOf]; omega
        · have hge : (k : Int) ≤ (j : Int) := by omega
          obtain rfl : j = k := by omega
          go_wp2_with fail
          go_ret
          exact retS hx.out hbel
end Go.Proofs.YtceedfhealbdkaaDoor
