/- The contracts of the reference tamisref14. -/
import Derived.Test.YtlohhmckeanegaaParts
namespace Go.Proofs.Ytlohhmckeanegaa
open Go.RowKit
set_option linter.unusedVariables false

set_option maxHeartbeats 400000 in
theorem cleanr_any (s : ByteArray) (w : World) (hs : s.size ≤ 1099511627776) :
    Calls Try.prog 9 #[.string s] w (RetS w (cleanL s.toList)) := by
  go_enter Try.func9, Try.ntmps9
  go_wp2_with fail
  refine (trimr_any s _ hs).mono ?_
  rintro e w1 ⟨t, rfl, ht, hb⟩
  have hl := trimL_len s.toList
  rw [← ht.out, size_toList, size_toList] at hl
  have hl2 : t.size ≤ 1099511627776 := by omega
  go_wp2_with fail
  refine (tightr_any t _ hl2).mono ?_
  rintro e w2 ⟨u, rfl, hu, hb2⟩
  have hq := Lib.hid (hu.out.trans (congrArg tightL ht.out))
  go_wp2_with fail
  go_ret
  exact retS hq.out (hb.next hb2)

def firstN (c : UInt8) (l : List UInt8) : Nat := (cutC c l).1.length
theorem firstN_le (c : UInt8) (l : List UInt8) : firstN c l ≤ l.length := by have := cutC_len c l; unfold firstN; omega
theorem firstN_cons (c d : UInt8) (r : List UInt8) : firstN c (d :: r) = if d = c then 0 else firstN c r + 1 := by
  unfold firstN; rw [cutC]; split <;> simp
theorem firstN_cut (c : UInt8) (l : List UInt8) : (cutC c l).2.2 = decide (firstN c l < l.length) ∧ (cutC c l).1 = l.take (firstN c l) ∧ ((cutC c l).2.2 = true → (cutC c l).2.1 = l.drop (firstN c l + 1)) := by
  induction l with
  | nil => exact ⟨rfl, rfl, fun h => by cases h⟩
  | cons d r ih =>
    rw [firstN_cons, cutC]
    by_cases h : d = c
    · simp [h]
    · simp only [h, if_false]
      obtain ⟨h1, h2, h3⟩ := ih
      refine ⟨by rw [h1]; simp, by rw [h2]; simp, fun h => by rw [h3 h]; simp⟩
theorem beq_byte {a b : UInt8} (h : a = b) : ((a.toNat : Int) == (b.toNat : Int)) = true := by simp [h]
theorem bne_byte {a b : UInt8} (h : ¬ a = b) : ((a.toNat : Int) == (b.toNat : Int)) = false := by
  simp only [beq_eq_false_iff_ne, ne_eq]; intro e; exact h (UInt8.toNat_inj.1 (by omega))
set_option maxHeartbeats 400000 in
theorem first14_any (s : ByteArray) (c : UInt8) (ci : Int) (hci : ci = (c.toNat : Int)) (w : World) (hs : s.size ≤ 1099511627776) :
    Calls Try.prog 20 #[.string s, .int .u8 ci] w fun e w' => e = .returned (.int .i64 (firstN c s.toList : Int)) ∧ w = w' := by
  subst hci
  go_enter Try.func20, Try.ntmps20
  go_wp2_with fail
  go_loop [5] (fun i => ∃ k : Nat, i = .int .i64 k ∧ k ≤ s.size ∧ Hid (k + firstN c (s.toList.drop k) = firstN c s.toList)) (fun i => s.size - (intOf i).toNat)
  case atStart => exact ⟨0, rfl, Nat.zero_le _, Lib.hid (by simp)⟩
  case round =>
    obtain ⟨k, rfl, hk, hr⟩ := hrel
    by_cases hlt : k < s.size
    · have hdc := Lib.hid (drop_cons s k hlt)
      have hlt2 : (k : Int) < (s.size : Int) := by omega
      by_cases hc : s[k] = c
      · have hb := beq_byte hc
        replace hc := Lib.hid hc
        go_wp2_with fail
        go_ret
        exact ⟨ret_int (by rw [← hr.out, hdc.out, firstN_cons, if_pos hc.out]; simp), rfl⟩
      · have hb := bne_byte hc
        replace hc := Lib.hid hc
        go_wp2_with fail
        go_round
        case rel => exact ⟨k + 1, by go_num, by omega, Lib.hid (by rw [← hr.out, hdc.out, firstN_cons, if_neg hc.out]; omega)⟩
        case measure => simp [intOf]; omega
    · have hdc := Lib.hid (drop_end s k (by omega))
      have hfin : Hid (firstN c s.toList = s.size) := Lib.hid (by rw [← hr.out, hdc.out]; simp [firstN, cutC]; omega)
      go_wp2_with fail
      go_ret
      exact ⟨ret_int (by rw [hfin.out]), rfl⟩

set_option maxHeartbeats 1000000 in
theorem scheme14_any (s : ByteArray) (w : World) (hs : s.size ≤ 1099511627776) :
    Calls Try.prog 21 #[.string s] w fun e w' => e = .returned (.bool (schemeB s.toList)) ∧ w = w' := by
  go_enter Try.func21, Try.ntmps21
  go_wp2_with fail
  go_loop [3] (fun i => ∃ k : Nat, i = .int .i64 k ∧ k ≤ s.size ∧ Hid (k = 0 ∨ 0 < k ∧ ((s.toList.drop k).all nameZ) = schemeB s.toList)) (fun i => s.size - (intOf i).toNat)
  case atStart => exact ⟨0, rfl, Nat.zero_le _, Lib.hid (Or.inl rfl)⟩
  case round =>
    obtain ⟨k, rfl, hk, hr⟩ := hrel
    by_cases hlt : k < s.size
    · have c0 := byte_nn s[k]
      have c1 := byte_le s[k]
      have hdc := Lib.hid (drop_cons s k hlt)
      have hlt2 : (k : Int) < (s.size : Int) := by omega
      by_cases hk0 : k = 0
      · have hz : ((k : Int) == 0) = true := by simp [hk0]
        have hse : Hid (schemeB s.toList = (letterZ (s[k].toNat : Int) && (s.toList.drop (k + 1)).all nameZ)) := Lib.hid (by
          subst hk0
          have := hdc.out; rw [List.drop_zero] at this
          rw [this]; rfl)
        replace hk0 := Lib.hid hk0
        cases hl : letterZ (s[k].toNat : Int)
        · go_wp2_with (first
              | (go_at_call 27; refine (letterr_any _ _).mono ?_; rintro e w' ⟨rfl, rfl⟩)
              | (go_at_call 28; refine (digitr_any _ _ _ c0 c1).mono ?_; rintro e w' ⟨rfl, rfl⟩))
          go_ret
          exact ⟨ret_bool (by rw [hse.out, hl]; rfl), rfl⟩
        · go_wp2_with (first
              | (go_at_call 27; refine (letterr_any _ _).mono ?_; rintro e w' ⟨rfl, rfl⟩)
              | (go_at_call 28; refine (digitr_any _ _ _ c0 c1).mono ?_; rintro e w' ⟨rfl, rfl⟩))
          go_round
          case rel => exact ⟨k + 1, by go_num, by omega, Lib.hid (Or.inr ⟨by omega, by rw [hse.out, hl]; rfl⟩)⟩
          case measure => simp [intOf]; omega
      · have hz : ((k : Int) == 0) = false := beq_eq_false_iff_ne.2 (by omega)
        have hr2 : Hid (((s.toList.drop k).all nameZ) = schemeB s.toList) := Lib.hid (by
          rcases hr.out with h | h
          · exact absurd h hk0
          · exact h.2)
        clear hr
        replace hk0 := Lib.hid hk0
        rcases name_ways s[k] with ⟨x1, x2⟩ | ⟨x1, ⟨x3, x2⟩ | ⟨x3, ⟨x4, x2⟩ | ⟨x4, ⟨x5, x2⟩ | ⟨x5, ⟨x6, x2⟩ | ⟨x6, x2⟩⟩⟩⟩⟩
        all_goals
          have hq := Lib.hid x2
          clear x2
          go_wp2_with (first
            | (go_at_call 27; refine (letterr_any _ _).mono ?_; rintro e w' ⟨rfl, rfl⟩)
            | (go_at_call 28; refine (digitr_any _ _ _ c0 c1).mono ?_; rintro e w' ⟨rfl, rfl⟩))
          first
            | (go_ret; exact ⟨ret_bool (by rw [← hr2.out, hdc.out, List.all_cons, hq.out]; simp), rfl⟩)
            | (go_round
               case rel => exact ⟨k + 1, by go_num, by omega, Lib.hid (Or.inr ⟨by omega, by rw [← hr2.out, hdc.out, List.all_cons, hq.out]; simp⟩)⟩
               case measure => simp [intOf]; omega)
    · have hdc := Lib.hid (drop_end s k (by omega))
      by_cases h0 : 0 < s.size
      · have hne : (!s.toList.isEmpty) = true := by rw [extract1 s h0]; rfl
        have hfin : Hid (schemeB s.toList = true) := Lib.hid (by
          rcases hr.out with h | h
          · omega
          · rw [← h.2, hdc.out]; rfl)
        clear hr
        go_wp2_with fail
        go_ret
        exact ⟨ret_bool (by rw [hfin.out]), rfl⟩
      · have hne : (!s.toList.isEmpty) = false := by rw [(toList_empty_iff s).2 (by omega)]; rfl
        have hfin : Hid (schemeB s.toList = false) := Lib.hid (by rw [(toList_empty_iff s).2 (by omega)]; rfl)
        clear hr
        go_wp2_with fail
        go_ret
        exact ⟨ret_bool (by rw [hfin.out]), rfl⟩
theorem first_view (c : UInt8) (s : ByteArray) {n : Nat} (hn : firstN c s.toList = n) :
    (n < s.size ∧ (s.extract 0 n).toList = (cutC c s.toList).1 ∧ (s.extract (n + 1) s.size).toList = (cutC c s.toList).2.1 ∧ (cutC c s.toList).2.2 = true) ∨ (n = s.size ∧ s.toList = (cutC c s.toList).1 ∧ [] = (cutC c s.toList).2.1 ∧ (cutC c s.toList).2.2 = false) := by
  obtain ⟨h1, h2, h3⟩ := firstN_cut c s.toList
  have hle := firstN_le c s.toList
  rw [hn, size_toList] at h1 hle
  rw [hn] at h2 h3
  by_cases h : n < s.size
  · rw [decide_eq_true h] at h1
    refine .inl ⟨h, ?_, ?_, h1⟩
    · rw [toList_extract, h2]; rfl
    · rw [toList_extract, h3 h1, take_all _ _ (Nat.le_refl _)]
  · rw [decide_eq_false h] at h1
    have := cutC_none c s.toList h1
    exact .inr ⟨by omega, this.1.symm, this.2.symm, h1⟩
theorem splitr_cut (s f1 f2 q1 q2 s1 s2 : ByteArray) (fb qb sb : Bool) (hf1 : f1.toList = (cutC 35 s.toList).1) (hf2 : f2.toList = (cutC 35 s.toList).2.1) (hfb : (cutC 35 s.toList).2.2 = fb)
    (hq1 : q1.toList = (cutC 63 f1.toList).1) (hq2 : q2.toList = (cutC 63 f1.toList).2.1) (hqb : (cutC 63 f1.toList).2.2 = qb)
    (hs1 : s1.toList = (cutC 58 q1.toList).1) (hs2 : s2.toList = (cutC 58 q1.toList).2.1) (hsb : (cutC 58 q1.toList).2.2 = sb) :
    splitL s.toList = if sb && schemeB s1.toList then ⟨true, lowerL s1.toList, s2.toList, qb, q2.toList, fb, f2.toList⟩ else ⟨false, [], q1.toList, qb, q2.toList, fb, f2.toList⟩ := by
  unfold splitL
  simp only [← hf1, ← hf2, hfb, ← hq1, ← hq2, hqb, ← hs1, ← hs2, hsb]

set_option maxHeartbeats 1000000 in
theorem splitr_any (s : ByteArray) (w : World) (hs : s.size ≤ 1099511627776) :
    Calls Try.prog 11 #[.string s] w (RetP w (splitL s.toList)) := by
  go_enter Try.func11, Try.ntmps11
  have hv := first_view 35 s rfl
  generalize hn1 : firstN 35 s.toList = n1 at hv
  replace hn1 := Lib.hid hn1
  replace hv := Lib.hid hv
  go_wp2_with fail
  refine (first14_any s 35 35 rfl _ (by omega)).mono ?_
  rintro e w1 ⟨rfl, rfl⟩
  rw [hn1.out]
  go_upto_if 10 with (fail)
  go_cut [0] (fun s0 wx => ∃ (f1 f2 : ByteArray) (fb : Bool), s0 = .string f1 ∧ f1.size ≤ s.size ∧ Hid (f1.toList = (cutC 35 s.toList).1) ∧ Hid (f2.toList = (cutC 35 s.toList).2.1) ∧ Hid ((cutC 35 s.toList).2.2 = fb) ∧
    wx = (w.alloc (.cells #[.bool false, .string ⟨#[]⟩, .string ⟨#[]⟩, .bool false, .string ⟨#[]⟩, .bool false, .string ⟨#[]⟩] 25)).alloc (.cells #[.bool false, .string ⟨#[]⟩, .string ⟨#[]⟩, .bool false, .string ⟨#[]⟩, .bool fb, .string f2] 25))
  case first =>
    rcases hv.out with ⟨h1, h2, h3, h4⟩ | ⟨h1, h2, h3, h4⟩
    · have h5 : (n1 : Int) < (s.size : Int) := by omega
      replace h2 := Lib.hid h2
      replace h3 := Lib.hid h3
      replace h4 := Lib.hid h4
      go_wp2_with fail
      go_meet
      exact ⟨_, _, _, rfl, by rw [← size_toList, toList_extract, List.drop_zero, List.length_take, size_toList]; omega, h2, h3, h4, rfl⟩
    · have h5 : (s.size : Int) ≤ (n1 : Int) := by omega
      replace h1 := Lib.hid h1
      replace h2 := Lib.hid h2
      replace h3 := Lib.hid h3
      replace h4 := Lib.hid h4
      go_wp2_with fail
      go_meet
      exact ⟨_, ⟨#[]⟩, _, rfl, Nat.le_refl _, h2, Lib.hid ((toList_mk []).trans h3.out), h4, rfl⟩
  case' rest =>
    obtain ⟨f1, f2, fb, rfl, hf1s, hf1, hf2, hfb, rfl⟩ := hcut
    clear hv hn1
  have hv := first_view 63 f1 rfl
  generalize hn1 : firstN 63 f1.toList = n1 at hv
  replace hn1 := Lib.hid hn1
  replace hv := Lib.hid hv
  go_wp2_with fail
  refine (first14_any f1 63 63 rfl _ (by omega)).mono ?_
  rintro e w1 ⟨rfl, rfl⟩
  rw [hn1.out]
  go_upto_if 25 with (fail)
  go_cut [0] (fun s0 wx => ∃ (q1 q2 : ByteArray) (qb : Bool), s0 = .string q1 ∧ q1.size ≤ f1.size ∧ Hid (q1.toList = (cutC 63 f1.toList).1) ∧ Hid (q2.toList = (cutC 63 f1.toList).2.1) ∧ Hid ((cutC 63 f1.toList).2.2 = qb) ∧
    wx = (w.alloc (.cells #[.bool false, .string ⟨#[]⟩, .string ⟨#[]⟩, .bool false, .string ⟨#[]⟩, .bool false, .string ⟨#[]⟩] 25)).alloc (.cells #[.bool false, .string ⟨#[]⟩, .string ⟨#[]⟩, .bool qb, .string q2, .bool fb, .string f2] 25))
  case first =>
    rcases hv.out with ⟨h1, h2, h3, h4⟩ | ⟨h1, h2, h3, h4⟩
    · have h5 : (n1 : Int) < (f1.size : Int) := by omega
      replace h2 := Lib.hid h2
      replace h3 := Lib.hid h3
      replace h4 := Lib.hid h4
      go_wp2_with fail
      go_meet
      exact ⟨_, _, _, rfl, by rw [← size_toList, toList_extract, List.drop_zero, List.length_take, size_toList]; omega, h2, h3, h4, rfl⟩
    · have h5 : (f1.size : Int) ≤ (n1 : Int) := by omega
      replace h1 := Lib.hid h1
      replace h2 := Lib.hid h2
      replace h3 := Lib.hid h3
      replace h4 := Lib.hid h4
      go_wp2_with fail
      go_meet
      exact ⟨_, ⟨#[]⟩, _, rfl, Nat.le_refl _, h2, Lib.hid ((toList_mk []).trans h3.out), h4, rfl⟩
  case' rest =>
    obtain ⟨q1, q2, qb, rfl, hq1s, hq1, hq2, hqb, rfl⟩ := hcut
    clear hv hn1
  have hv := first_view 58 q1 rfl
  generalize hn1 : firstN 58 q1.toList = n1 at hv
  replace hn1 := Lib.hid hn1
  replace hv := Lib.hid hv
  go_wp2_with fail
  refine (first14_any q1 58 58 rfl _ (by omega)).mono ?_
  rintro e w1 ⟨rfl, rfl⟩
  rw [hn1.out]
  rcases hv.out with ⟨h1, h2, h3, h4⟩ | ⟨h1, h2, h3, h4⟩
  · have h5 : (n1 : Int) < (q1.size : Int) := by omega
    have hx := Lib.hid (splitr_cut s f1 f2 q1 q2 _ _ fb qb true hf1.out hf2.out hfb.out hq1.out hq2.out hqb.out h2 h3 h4)
    have hls : (q1.extract 0 n1).size ≤ 1099511627776 := by rw [← size_toList, toList_extract, List.drop_zero, List.length_take, size_toList]; omega
    clear h2 h3 h4 hv
    cases hnm : schemeB (q1.extract 0 n1).toList
    · go_wp2_with (go_at_call 21; refine (scheme14_any _ _ hls).mono ?_; rintro e w' ⟨rfl, rfl⟩)
      refine bodyPost_ret (v := .agg #[.bool false, .string ⟨#[]⟩, .string q1, .bool qb, .string q2, .bool fb, .string f2]) (by simp [results, Try.results11, go_sem]) rfl ?_
      rw [hx.out, hnm]
      exact ⟨_, _, _, _, rfl, toList_mk [], rfl, rfl, rfl, ((Below.refl _ _).alloc (Nat.le_refl _) _).alloc (by simp) _⟩
    · go_wp2_with (go_at_call 21; refine (scheme14_any _ _ hls).mono ?_; rintro e w' ⟨rfl, rfl⟩)
      refine (lowerr_any _ _ hls).mono ?_
      rintro e w2 ⟨t, rfl, ht, hb⟩
      obtain ⟨E, d, rfl⟩ := hb.ext
      clear hb
      go_wp2_with fail
      refine bodyPost_ret (v := .agg #[.bool true, .string t, .string (q1.extract (n1 + 1) q1.size), .bool qb, .string q2, .bool fb, .string f2]) (by simp [results, Try.results11, go_sem]) rfl ?_
      rw [hx.out, hnm]
      exact ⟨_, _, _, _, rfl, ht, rfl, rfl, rfl, (((Below.refl _ _).alloc (Nat.le_refl _) _).alloc (by simp) _).toExt (by simp <;> omega) _ _⟩
  · have h5 : (q1.size : Int) ≤ (n1 : Int) := by omega
    have hx := Lib.hid (splitr_cut s f1 f2 q1 q2 q1 ⟨#[]⟩ fb qb false hf1.out hf2.out hfb.out hq1.out hq2.out hqb.out h2 ((toList_mk []).trans h3) h4)
    replace h1 := Lib.hid h1
    clear h2 h3 h4 hv
    go_wp2_with fail
    refine bodyPost_ret (v := .agg #[.bool false, .string ⟨#[]⟩, .string q1, .bool qb, .string q2, .bool fb, .string f2]) (by simp [results, Try.results11, go_sem]) rfl ?_
    rw [hx.out]
    exact ⟨_, _, _, _, rfl, toList_mk [], rfl, rfl, rfl, ((Below.refl _ _).alloc (Nat.le_refl _) _).alloc (by simp) _⟩
end Go.Proofs.Ytlohhmckeanegaa
