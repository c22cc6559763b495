/- The contracts of package refresh. -/
import Derived.Test.YtjbfkaniccljnaaDoorRefrP
import Derived.Deep.RegionHeld3
namespace Go.Proofs.YtjbfkaniccljnaaDoor
open Go.RowKit
set_option linter.unusedVariables false
set_option linter.unusedSimpArgs false

/-- A piece of what came in: nothing made. -/
def RetK (s : ByteArray) (w : World) (l : List UInt8) (e : Ending) (w' : World) : Prop := ∃ t : ByteArray, e = .returned (.string t) ∧ Hid (t.toList = l) ∧ t.size ≤ s.size ∧ w = w'
theorem size_ext (s : ByteArray) (a b : Nat) : (s.extract a b).size ≤ s.size := by rw [ByteArray.size_extract]; omega
theorem toList_fromR {s : ByteArray} (k : Nat) : (s.extract k s.size).toList = s.toList.drop k := by
  rw [toList_extract, ← size_toList, List.take_length]
set_option maxRecDepth 100000 in
set_option maxHeartbeats 1000000 in
theorem blanksR_any (s : ByteArray) (w : World) (hs : s.size ≤ 1099511627776) :
    Calls Tryd.prog 13 #[.string s] w (RetK s w (blanksL s.toList)) := by
  go_enter Tryd.func13, Tryd.ntmps13
  go_wp2_with fail
  go_loop [3] (fun iv => ∃ k : Nat, iv = .int .i64 k ∧ k ≤ s.size ∧ Hid (blanksL (s.toList.drop k) = blanksL s.toList)) (fun iv => s.size - (intOf iv).toNat)
  case atStart => exact ⟨0, rfl, Nat.zero_le _, Lib.hid (by rw [List.drop_zero])⟩
  case round =>
    obtain ⟨k, rfl, hk, hg⟩ := hrel
    by_cases hlt : k < s.size
    · have hdr := drop_cons s k hlt
      have hltI : (k : Int) < (s.size : Int) := by omega
      cases hb : blankZ (s[k].toNat : Int)
      · have hfin : Hid ((s.extract k s.size).toList = blanksL s.toList) := Lib.hid (by
          rw [toList_fromR, ← hg.out, hdr]
          unfold blanksL
          rw [List.dropWhile_cons, if_neg (by show ¬ blankZ _ = true; rw [hb]; decide)])
        clear hg hdr
        have hkI : (k : Int) ≤ (s.size : Int) := by omega
        go_wp2_with (go_at_call 10; refine (blank_any _ _).mono ?_; rintro e w' ⟨rfl, rfl⟩)
        go_ret
        exact ⟨_, rfl, hfin, size_ext _ _ _, rfl⟩
      · have hnew : Hid (blanksL (s.toList.drop (k + 1)) = blanksL s.toList) := Lib.hid (by
          rw [← hg.out, hdr]
          unfold blanksL
          rw [List.dropWhile_cons (x := s[k]), if_pos (show isB s[k] = true from hb)])
        clear hg hdr
        go_wp2_with (go_at_call 10; refine (blank_any _ _).mono ?_; rintro e w' ⟨rfl, rfl⟩)
        go_round
        case rel => exact ⟨k + 1, by go_num, by omega, hnew⟩
        case measure => simp [intOf]; omega
    · have hge : (s.size : Int) ≤ (k : Int) := by omega
      obtain rfl : k = s.size := by omega
      have hfin : Hid (ByteArray.empty.toList = blanksL s.toList) := Lib.hid (by rw [← hg.out, drop_end s s.size (Nat.le_refl _)]; exact toList_mk [])
      clear hg
      go_wp2_with fail
      go_ret
      exact ⟨_, rfl, hfin, Nat.zero_le _, rfl⟩
theorem get1 {s : ByteArray} {c : UInt8} {r : List UInt8} (h : s.toList = c :: r) : ∃ h0 : 0 < s.size, s[0] = c := by
  have h0 : 0 < s.size := by rw [← size_toList, h]; simp
  refine ⟨h0, ?_⟩
  have := drop_cons s 0 h0
  rw [List.drop_zero, h] at this
  exact (List.cons.inj this).1.symm
theorem isEmpty1 {s : ByteArray} {c : UInt8} {r : List UInt8} (h : s.toList = c :: r) : s.toList.isEmpty = false := by rw [h]; rfl
theorem isEmpty0 {s : ByteArray} (h : s.toList = []) : s.toList.isEmpty = true := by rw [h]; rfl
theorem u8_yes {c d : UInt8} (h : c = d) : ((c.toNat : Int) == (d.toNat : Int)) = true ∧ ((c.toNat : Int) != (d.toNat : Int)) = false := by subst h; simp
theorem u8_no {c d : UInt8} (h : c ≠ d) : ((c.toNat : Int) == (d.toNat : Int)) = false ∧ ((c.toNat : Int) != (d.toNat : Int)) = true :=
  bne_of (fun h2 => h (UInt8.toNat_inj.1 (by omega)))
set_option maxRecDepth 100000 in
set_option maxHeartbeats 1000000 in
theorem unquotedR_any (s : ByteArray) (w : World) (hs : s.size ≤ 4294967000) (hm : ML w) :
    Calls Tryd.prog 16 #[.string s] w fun e w' => ∃ t : ByteArray, e = .returned (.string t) ∧ Hid (t.toList = unquotedL s.toList) ∧ t.size ≤ s.size ∧ Below w.heap.size w w' := by
  match hL : s.toList with
  | [] =>
    have hem := isEmpty0 hL
    have hy : Hid (s.toList = unquotedL []) := Lib.hid hL
    replace hL := Lib.hid hL
    go_enter Tryd.func16, Tryd.ntmps16
    go_wp2_with fail
    go_ret
    exact ⟨_, rfl, hy, Nat.le_refl _, Below.refl _ _⟩
  | c :: r =>
    have hem := isEmpty1 hL
    obtain ⟨hp, hc⟩ := get1 hL
    have hpI : (1 : Int) ≤ (s.size : Int) := by omega
    have hpI2 : (0 : Int) < (s.size : Int) := by omega
    by_cases hq : c = 34 ∨ c = 39
    · obtain ⟨x, hx⟩ : ∃ x, s.extract 1 s.size = x := ⟨_, rfl⟩
      obtain ⟨q, hqq⟩ : ∃ q, s.extract 0 1 = q := ⟨_, rfl⟩
      have hxl : x.toList = r := by rw [← hx, toList_fromR, hL]; rfl
      have hxz : x.size ≤ s.size := by rw [← hx]; exact size_ext _ _ _
      have hqe : q = ⟨#[c]⟩ := by apply eq_of_toList; rw [← hqq, toList_extract, hL]; exact (toList_mk [c]).symm
      have hct := Lib.hid (fun w hm => cut_any x c w hm (by omega))
      have hy : Hid (unquotedL (c :: r) = (cutC c x.toList).1) := Lib.hid (by rw [hxl]; exact if_pos hq)
      have hcl := cutC_len c x.toList
      rw [size_toList] at hcl
      rw [← hqe] at hct
      have hq2 : (((c.toNat : Int) == 34) = true ∧ ((c.toNat : Int) != 34) = false) ∨ ((((c.toNat : Int) == 34) = false ∧ ((c.toNat : Int) != 34) = true) ∧ (((c.toNat : Int) == 39) = true ∧ ((c.toNat : Int) != 39) = false)) := by
        rcases hq with h | h
        · exact .inl (u8_yes (d := 34) h)
        · exact .inr ⟨u8_no (d := 34) (by rw [h]; decide), u8_yes (d := 39) h⟩
      replace hL := Lib.hid hL
      replace hxl := Lib.hid hxl
      replace hqe := Lib.hid hqe
      replace hq := Lib.hid hq
      rcases hq2 with hq2 | ⟨hq2, hq3⟩
      all_goals
        go_enter Tryd.func16, Tryd.ntmps16
        go_wp2_with fail
        refine wp_region_noPanic ?_
        refine wp_region_held_drew (S := fun w' => Below w.heap.size w w') (by kernel_rfl) ((Below.refl _ _).drew) (fun hHeld => ?_)
        refine wpAnyH_take (i := 0) (v := ?_) rfl (by kernel_rfl) (by kernel_rfl) (by kernel_rfl) (fun _ _ _ h => h) (Or.inl ⟨by rfl, ?_⟩) hHeld ?_
        rotate_left
        · first | (intro w hSw; (try dsimp only at hSw); go_simp; done) | (intro w hSw; (try dsimp only at hSw); go_simp; with_reducible rfl)
        try simp only [Act.put, List.setIfInBounds_toArray, List.set_cons_zero, List.set_cons_succ]
        refine wpAnyH_take (i := 1) (v := ?_) rfl (by kernel_rfl) (by kernel_rfl) (by kernel_rfl) (fun _ _ _ h => h) (Or.inl ⟨by rfl, ?_⟩) hHeld ?_
        rotate_left
        · first | (intro w hSw; (try dsimp only at hSw); go_simp; done) | (intro w hSw; (try dsimp only at hSw); go_simp; with_reducible rfl)
        try simp only [Act.put, List.setIfInBounds_toArray, List.set_cons_zero, List.set_cons_succ]
        refine wpAnyH_take (i := 2) (v := ?_) rfl (by kernel_rfl) (by kernel_rfl) (by kernel_rfl) (fun _ _ _ h => h) (Or.inl ⟨by rfl, ?_⟩) hHeld ?_
        rotate_left
        · first | (intro w hSw; (try dsimp only at hSw); go_simp; done) | (intro w hSw; (try dsimp only at hSw); go_simp; with_reducible rfl)
        try simp only [Act.put, List.setIfInBounds_toArray, List.set_cons_zero, List.set_cons_succ]
        refine wpAnyH_take (i := 3) (v := ?_) rfl (by kernel_rfl) (by kernel_rfl) (by kernel_rfl) (fun _ _ _ h => h) (Or.inl ⟨by rfl, ?_⟩) hHeld ?_
        rotate_left
        · first | (intro w hSw; (try dsimp only at hSw); go_simp; done) | (intro w hSw; (try dsimp only at hSw); go_simp; with_reducible rfl)
        try simp only [Act.put, List.setIfInBounds_toArray, List.set_cons_zero, List.set_cons_succ]
        refine wpAnyH_ready (rs := [4]) (by kernel_rfl) (by simp) ?_
        refine AllReadyH.cons rfl (fun K hK => ?_) AllReadyH.nil
        go_simp
        refine (hct.out _ (hm.next hHeld)).mono ?_
        rintro e w3 ⟨ta, tb, n, rfl, h1, h2, rfl⟩
        have hB := below_drewN (Below.refl w.heap.size w) (1 + n)
        have htz : ta.size ≤ s.size := by rw [← size_toList, h1.out]; omega
        clear hHeld
        go_wp2_with fail
        refine hK.out _ _ (hB) (fun hHeld => ?_)
        clear hK K
        try simp only [Act.put, List.setIfInBounds_toArray, List.set_cons_zero, List.set_cons_succ]
        refine wpAnyH_take (i := 5) (v := ?_) rfl (by kernel_rfl) (by kernel_rfl) (by kernel_rfl) (fun _ _ _ h => h) (Or.inl ⟨by rfl, ?_⟩) hHeld ?_
        rotate_left
        · first | (intro w hSw; (try dsimp only at hSw); go_simp; done) | (intro w hSw; (try dsimp only at hSw); go_simp; with_reducible rfl)
        try simp only [Act.put, List.setIfInBounds_toArray, List.set_cons_zero, List.set_cons_succ]
        refine wpAnyH_take (i := 6) (v := ?_) rfl (by kernel_rfl) (by kernel_rfl) (by kernel_rfl) (fun _ _ _ h => h) (Or.inl ⟨by rfl, ?_⟩) hHeld ?_
        rotate_left
        · first | (intro w hSw; (try dsimp only at hSw); go_simp; done) | (intro w hSw; (try dsimp only at hSw); go_simp; with_reducible rfl)
        try simp only [Act.put, List.setIfInBounds_toArray, List.set_cons_zero, List.set_cons_succ]
        refine wpAnyH_take (i := 7) (v := ?_) rfl (by kernel_rfl) (by kernel_rfl) (by kernel_rfl) (fun _ _ _ h => h) (Or.inl ⟨by rfl, ?_⟩) hHeld ?_
        rotate_left
        · first | (intro w hSw; (try dsimp only at hSw); go_simp; done) | (intro w hSw; (try dsimp only at hSw); go_simp; with_reducible rfl)
        try simp only [Act.put, List.setIfInBounds_toArray, List.set_cons_zero, List.set_cons_succ]
        refine wpAnyH_take (i := 8) (v := ?_) rfl (by kernel_rfl) (by kernel_rfl) (by kernel_rfl) (fun _ _ _ h => h) (Or.inl ⟨by rfl, ?_⟩) hHeld ?_
        rotate_left
        · first | (intro w hSw; (try dsimp only at hSw); go_simp; done) | (intro w hSw; (try dsimp only at hSw); go_simp; with_reducible rfl)
        try simp only [Act.put, List.setIfInBounds_toArray, List.set_cons_zero, List.set_cons_succ]
        refine wpAnyH_take (i := 9) (v := ?_) rfl (by kernel_rfl) (by kernel_rfl) (by kernel_rfl) (fun _ _ _ h => h) (Or.inl ⟨by rfl, ?_⟩) hHeld ?_
        rotate_left
        · first | (intro w hSw; (try dsimp only at hSw); go_simp; done) | (intro w hSw; (try dsimp only at hSw); go_simp; with_reducible rfl)
        try simp only [Act.put, List.setIfInBounds_toArray, List.set_cons_zero, List.set_cons_succ]
        refine wpAnyH_take (i := 10) (v := ?_) rfl (by kernel_rfl) (by kernel_rfl) (by kernel_rfl) (fun _ _ _ h => h) (Or.inl ⟨by rfl, ?_⟩) hHeld ?_
        rotate_left
        · first | (intro w hSw; (try dsimp only at hSw); go_simp; done) | (intro w hSw; (try dsimp only at hSw); go_simp; with_reducible rfl)
        try simp only [Act.put, List.setIfInBounds_toArray, List.set_cons_zero, List.set_cons_succ]
        refine wpAnyH_take (i := 11) (v := ?_) rfl (by kernel_rfl) (by kernel_rfl) (by kernel_rfl) (fun _ _ _ h => h) (Or.inl ⟨by rfl, ?_⟩) hHeld ?_
        rotate_left
        · first | (intro w hSw; (try dsimp only at hSw); go_simp; done) | (intro w hSw; (try dsimp only at hSw); go_simp; with_reducible rfl)
        try simp only [Act.put, List.setIfInBounds_toArray, List.set_cons_zero, List.set_cons_succ]
        refine wpAnyH_done (by kernel_rfl) ?_ _
        refine NoPanic.normal ?_
        go_wp2_with fail
        go_ret
        exact ⟨ta, rfl, Lib.hid (by rw [h1.out, hy.out]), htz, hB⟩
    · have h1 := u8_no (d := 34) (fun h => hq (.inl h))
      have h2 := u8_no (d := 39) (fun h => hq (.inr h))
      replace h1 : ((c.toNat : Int) == 34) = false ∧ ((c.toNat : Int) != 34) = true := h1
      replace h2 : ((c.toNat : Int) == 39) = false ∧ ((c.toNat : Int) != 39) = true := h2
      obtain ⟨h1a, h1b⟩ := h1
      obtain ⟨h2a, h2b⟩ := h2
      have hy : Hid (s.toList = unquotedL (c :: r)) := Lib.hid (by rw [hL]; exact (if_neg hq).symm)
      replace hL := Lib.hid hL
      replace hq := Lib.hid hq
      go_enter Tryd.func16, Tryd.ntmps16
      go_wp2_with fail
      go_ret
      exact ⟨_, rfl, hy, Nat.le_refl _, Below.refl _ _⟩
theorem hasPre1 (c : UInt8) (l : List UInt8) : Lib.hasPrefix l [c] = match l with | x :: _ => (c == x) | [] => false := by
  unfold Lib.hasPrefix
  match l with
  | [] => rfl
  | x :: r => simp [List.isPrefixOf]
set_option maxRecDepth 100000 in
set_option maxHeartbeats 1000000 in
theorem unnamedR_any (s : ByteArray) (w : World) (hs : s.size ≤ 1000000) :
    Calls Tryd.prog 17 #[.string s] w fun e w' => ∃ t : ByteArray, e = .returned (.string t) ∧ Hid (t.toList = unnamedL s.toList) ∧ t.size ≤ s.size ∧ Below w.heap.size w w' := by
  have hlen := size_toList s
  by_cases h3 : s.size < 3
  · have hy : Hid (s.toList = unnamedL s.toList) := Lib.hid (by unfold unnamedL; rw [if_pos (.inl (by omega))])
    have h3I : (s.size : Int) < 3 := by omega
    replace hlen := Lib.hid hlen
    go_enter Tryd.func17, Tryd.ntmps17
    go_wp2_with fail
    go_ret
    exact ⟨_, rfl, hy, Nat.le_refl _, Below.refl _ _⟩
  have h3I : (3 : Int) ≤ (s.size : Int) := by omega
  obtain ⟨q, hq⟩ : ∃ q, s.extract 0 3 = q := ⟨_, rfl⟩
  obtain ⟨x, hx⟩ : ∃ x, s.extract 3 s.size = x := ⟨_, rfl⟩
  have hql : Hid (q.toList = s.toList.take 3) := Lib.hid (by rw [← hq, toList_extract]; rfl)
  have hxl : Hid (x.toList = s.toList.drop 3) := Lib.hid (by rw [← hx, toList_fromR])
  have hxz : x.size ≤ s.size := by rw [← hx]; exact size_ext _ _ _
  have hqz : q.size ≤ s.size := by rw [← hq]; exact size_ext _ _ _
  have hlow := Lib.hid (fun w => lower_any q w (by omega))
  have hbx := Lib.hid (fun w => blanksR_any x w (by omega))
  replace hlen := Lib.hid hlen
  go_enter Tryd.func17, Tryd.ntmps17
  go_wp2_with fail
  refine (hlow.out _).mono ?_
  rintro e w1 ⟨lo, rfl, hlo, hB⟩
  by_cases hu : lo.toList = [117, 114, 108]
  · have huI : (lo.toList == [117, 114, 108]) = true := by rw [hu]; rfl
    have hub : (lo.toList != [117, 114, 108]) = false := by rw [hu]; rfl
    have hun : Hid (lowerL (s.toList.take 3) = [117, 114, 108]) := Lib.hid (by rw [← hql.out, ← hlo.out]; exact hu)
    replace hu := Lib.hid hu
    go_wp2_with fail
    refine (hbx.out _).mono ?_
    rintro e wx ⟨y, rfl, hy, hyz, rfl⟩
    have hcp := Lib.hid (fun w => Tryd.strings_CutPrefix y ⟨#[61]⟩ w)
    have hyd : y.data.toList = y.toList := (ByteArray.toList_eq ..).symm
    match hL : y.toList with
    | [] =>
      have hpf : Lib.hasPrefix y.data.toList [61] = false := by rw [hyd, hL]; rfl
      have hfin : Hid (s.toList = unnamedL s.toList) := Lib.hid (by
        unfold unnamedL
        rw [if_neg (by rintro (h | h); have := hlen.out; omega; exact h hun.out), ← hxl.out, ← hy.out, hL])
      have hcp2 : Hid (∀ w, Calls Tryd.prog 25 #[.string y, .string ⟨#[61]⟩] w fun e w' => ∃ t : ByteArray, e = .returned (.tuple #[.string t, .bool false]) ∧ w' = w) := Lib.hid (fun w => by have := hcp.out w; rw [hpf] at this; exact this.mono fun e w' ⟨h1, h2⟩ => ⟨_, h1, h2⟩)
      clear hcp
      replace hyd := Lib.hid hyd
      replace hL := Lib.hid hL
      replace hpf := Lib.hid hpf
      go_wp2_with fail
      refine (hcp2.out _).mono ?_
      rintro e wx ⟨t, rfl, rfl⟩
      go_wp2_with fail
      go_ret
      exact ⟨_, rfl, hfin, Nat.le_refl _, hB⟩
    | c :: r =>
      have hpf : Lib.hasPrefix y.data.toList [61] = (61 == c) := by rw [hyd, hL]; exact hasPre1 61 (c :: r)
      by_cases hc : c = 61
      · have hpt : Lib.hasPrefix y.data.toList [61] = true := by rw [hpf, hc]; rfl
        have htl : (⟨(Lib.trimPrefix y.data.toList [61]).toArray⟩ : ByteArray).toList = r := by
          rw [toList_mk]; unfold Lib.trimPrefix; rw [if_pos hpt, hyd, hL]; rfl
        obtain ⟨t, ht⟩ : ∃ t : ByteArray, (⟨(Lib.trimPrefix y.data.toList [61]).toArray⟩ : ByteArray) = t := ⟨_, rfl⟩
        have hcp2 : Hid (∀ w, Calls Tryd.prog 25 #[.string y, .string ⟨#[61]⟩] w fun e w' => e = .returned (.tuple #[.string t, .bool true]) ∧ w' = w) := Lib.hid (fun w => by have := hcp.out w; rw [hpt, show (⟨(Lib.trimPrefix y.data.toList (ByteArray.data ⟨#[61]⟩).toList).toArray⟩ : ByteArray) = t from ht] at this; exact this)
        rw [ht] at htl
        have htz : t.size ≤ y.size := by rw [← size_toList, htl, ← size_toList, hL]; simp
        have hbt := Lib.hid (fun w => blanksR_any t w (by omega))
        have hfin : Hid (blanksL t.toList = unnamedL s.toList) := Lib.hid (by
          unfold unnamedL
          rw [if_neg (by rintro (h | h); have := hlen.out; omega; exact h hun.out), ← hxl.out, ← hy.out, hL, htl]
          exact (if_pos hc).symm)
        clear hcp
        replace hyd := Lib.hid hyd
        replace hL := Lib.hid hL
        replace hpf := Lib.hid hpf
        replace hpt := Lib.hid hpt
        replace htl := Lib.hid htl
        replace ht := Lib.hid ht
        go_wp2_with fail
        refine (hcp2.out _).mono ?_
        rintro e wx ⟨rfl, rfl⟩
        go_wp2_with fail
        refine (hbt.out _).mono ?_
        rintro e wx ⟨z, rfl, hz, hzz, rfl⟩
        go_wp2_with fail
        go_ret
        exact ⟨z, rfl, Lib.hid (by rw [hz.out, hfin.out]), by omega, hB⟩
      · have hpt : Lib.hasPrefix y.data.toList [61] = false := by rw [hpf]; simpa using Ne.symm hc
        have hfin : Hid (s.toList = unnamedL s.toList) := Lib.hid (by
          unfold unnamedL
          rw [if_neg (by rintro (h | h); have := hlen.out; omega; exact h hun.out), ← hxl.out, ← hy.out, hL]
          exact (if_neg hc).symm)
        have hcp2 : Hid (∀ w, Calls Tryd.prog 25 #[.string y, .string ⟨#[61]⟩] w fun e w' => ∃ t : ByteArray, e = .returned (.tuple #[.string t, .bool false]) ∧ w' = w) := Lib.hid (fun w => by have := hcp.out w; rw [hpt] at this; exact this.mono fun e w' ⟨h1, h2⟩ => ⟨_, h1, h2⟩)
        clear hcp
        replace hyd := Lib.hid hyd
        replace hL := Lib.hid hL
        replace hpf := Lib.hid hpf
        replace hpt := Lib.hid hpt
        go_wp2_with fail
        refine (hcp2.out _).mono ?_
        rintro e wx ⟨t, rfl, rfl⟩
        go_wp2_with fail
        go_ret
        exact ⟨_, rfl, hfin, Nat.le_refl _, hB⟩
  · have huI : (lo.toList == [117, 114, 108]) = false := by simpa using hu
    have hub : (lo.toList != [117, 114, 108]) = true := by simpa using hu
    have hfin : Hid (s.toList = unnamedL s.toList) := Lib.hid (by
      unfold unnamedL
      rw [if_pos (.inr (by rw [← hql.out, ← hlo.out]; exact hu))])
    replace hu := Lib.hid hu
    go_wp2_with fail
    go_ret
    exact ⟨_, rfl, hfin, Nat.le_refl _, hB⟩
end Go.Proofs.YtjbfkaniccljnaaDoor
