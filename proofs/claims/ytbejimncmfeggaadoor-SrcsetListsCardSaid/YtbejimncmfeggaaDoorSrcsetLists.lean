/- The walk of SrcsetLists. -/
import Derived.Test.YtbejimncmfeggaaDoorSrcO
namespace Go.Proofs.YtbejimncmfeggaaDoor
open Go.RowKit
set_option linter.unusedVariables false
set_option linter.unusedSimpArgs false

theorem u8lit (c : UInt8) (n : Nat) (d : UInt8) (hd : d.toNat = n) : (c = d → ((c.toNat : Int) == (n : Int)) = true) ∧ (c ≠ d → ((c.toNat : Int) == (n : Int)) = false) := by
  subst hd; exact u8c
set_option maxRecDepth 100000 in
set_option maxHeartbeats 4000000 in
theorem srcsetLists_walk (s word t : ByteArray) (w : World) (ws : s.size ≤ maxLen) (wd : word.size ≤ maxLen) (wt : t.size ≤ maxLen) :
    Calls Tryd.prog 8 #[.string s, .string word, .string t] w (RetB w true) := by
  have hB : Below w.heap.size w w := Below.refl _ _
  unfold maxLen at ws wd wt
  go_enter Tryd.func8, Tryd.ntmps8
  go_wp2_with fail
  refine (small19_any _).mono ?_
  rintro e w1 ⟨rfl, hb⟩
  replace hB := hB.next hb
  clear hb
  by_cases hbig : 300 < s.size ∨ 50 < word.size ∨ 300 < t.size
  · have hway : (300 : Int) < (s.size : Int) ∨ ((s.size : Int) ≤ 300 ∧ (50 : Int) < (word.size : Int)) ∨ ((s.size : Int) ≤ 300 ∧ (word.size : Int) ≤ 50 ∧ (300 : Int) < (t.size : Int)) := by omega
    clear hbig
    rcases hway with q1 | ⟨q1, q2⟩ | ⟨q1, q2, q3⟩
    all_goals
      go_wp2_with fail
      go_ret
      exact ⟨rfl, hB⟩
  have q1 : (s.size : Int) ≤ 300 := by omega
  have q2 : (word.size : Int) ≤ 50 := by omega
  have q3 : (t.size : Int) ≤ 300 := by omega
  clear hbig
  go_wp2_with fail
  refine (words_any word _ (by omega)).mono ?_
  rintro e w2 ⟨v, lw, rfl, hlw, how, hb⟩
  obtain ⟨pw, cw, rfl, -⟩ := how.read
  replace hB := hB.next hb
  clear hb how
  by_cases hw1 : lw.length = 1
  rotate_left
  · obtain ⟨-, n1⟩ : True ∧ ((lw.length : Int) != 1) = true := ⟨trivial, by rw [bne_iff_ne]; omega⟩
    go_wp2_with fail
    go_ret
    exact ⟨rfl, hB⟩
  have n1 : ((lw.length : Int) != 1) = false := by rw [hw1]; rfl
  replace hw1 := Lib.hid hw1
  go_wp2_with fail
  refine (strip_any word _ (by omega)).mono ?_
  rintro e w3 ⟨st, rfl, hst, hb⟩
  replace hB := hB.next hb
  clear hb
  by_cases hs1 : word.size = st.size
  rotate_left
  · have n2 : ((word.size : Int) != (st.size : Int)) = true := by rw [bne_iff_ne]; omega
    go_wp2_with fail
    go_ret
    exact ⟨rfl, hB⟩
  have n2 : ((word.size : Int) != (st.size : Int)) = false := by rw [hs1]; simp
  replace hs1 := Lib.hid hs1
  clear hlw hst
  go_upto_region 5 with fail
  obtain ⟨A, hA⟩ : ∃ A, s ++ ⟨#[32, 97, 32]⟩ ++ word = A := ⟨_, rfl⟩
  have hAl : Hid (A.toList = s.toList ++ 32 :: 97 :: 32 :: word.toList) := Lib.hid (by
    rw [← hA, toList_append, toList_append, show (ByteArray.mk #[32, 97, 32]).toList = [32, 97, 32] from toList_mk _]; simp)
  have hAz : A.size ≤ 353 := by
    rw [← hA]; simp only [ByteArray.size_append]; show s.size + 3 + word.size ≤ _; omega
  rw [hA]
  clear hA
  go_wp2_with fail
  go_loop [9] (fun iv => ∃ (k : Nat), iv = .int .i64 k ∧ k ≤ A.size ∧ Hid (∀ c ∈ A.toList.take k, cleanC c)) (fun iv => A.size - (intOf iv).toNat)
  case atStart => exact ⟨0, rfl, by omega, Lib.hid (by intro c hc; simp at hc)⟩
  case round =>
    obtain ⟨k, rfl, hk, hno⟩ := hrel
    by_cases hkl : k < A.size
    · have hkI : (k : Int) < (A.size : Int) := by omega
      by_cases he : A[k] = 40
      · have q : ((A[k].toNat : Int) == 40) = true := u8c.1 he
        replace he := Lib.hid he
        go_wp2_with fail
        go_ret
        exact ⟨rfl, hB⟩
      · have q : ((A[k].toNat : Int) == 40) = false := u8c.2 he
        by_cases he2 : A[k] = 44
        · have q' : ((A[k].toNat : Int) == 44) = true := u8c.1 he2
          replace he := Lib.hid he
          replace he2 := Lib.hid he2
          go_wp2_with fail
          go_ret
          exact ⟨rfl, hB⟩
        · have q' : ((A[k].toNat : Int) == 44) = false := u8c.2 he2
          have hnew : Hid (∀ c ∈ A.toList.take (k + 1), cleanC c) := Lib.hid (by
            rw [take_snoc A k hkl]
            intro c hc
            rcases List.mem_append.1 hc with hc | hc
            · exact hno.out c hc
            · rw [List.mem_singleton.1 hc]; exact ⟨he, he2⟩)
          replace he := Lib.hid he
          replace he2 := Lib.hid he2
          go_wp2_with fail
          go_round
          case rel => exact ⟨k + 1, by go_num, by omega, hnew⟩
          case measure => simp [intOf]; omega
    · have hkI : (A.size : Int) ≤ (k : Int) := by omega
      have hall : ∀ c ∈ A.toList, cleanC c := by
        have := hno.out
        rwa [List.take_of_length_le (by rw [size_toList]; omega)] at this
      clear hno
      have e1 := splL_lists s.toList word.toList t.toList (by rw [← hAl.out]; exact hall)
      rw [← hAl.out] at e1
      obtain ⟨T, hT⟩ : ∃ T, ⟨#[32, 44, 9, 44]⟩ ++ A ++ ⟨#[32, 44, 32, 44, 10]⟩ ++ t = T := ⟨_, rfl⟩
      have hTl : T.toList = [32, 44, 9, 44] ++ A.toList ++ [32, 44, 32, 44, 10] ++ t.toList := by
        rw [← hT, toList_append, toList_append, toList_append, show (ByteArray.mk #[32, 44, 9, 44]).toList = [32, 44, 9, 44] from toList_mk _, show (ByteArray.mk #[32, 44, 32, 44, 10]).toList = [32, 44, 32, 44, 10] from toList_mk _]
      have hTz : T.size ≤ 900000 := by
        rw [← hT]; simp only [ByteArray.size_append]; show 4 + A.size + 5 + t.size ≤ _; omega
      rw [← hTl] at e1
      subst hT
      replace e1 := Lib.hid e1
      replace hall := Lib.hid hall
      clear hTl
      go_wp2_with fail
      refine (split_own _ _ (by omega)).mono ?_
      rintro e w4 ⟨pa, na, ca, la, rfl, h1, x1, m1, hb⟩
      replace hB := hB.next hb
      clear hb
      go_wp2_with fail
      refine (split_own _ _ (by omega)).mono ?_
      rintro e w5 ⟨pb, nb, cb, lb, rfl, h2, x2, m2, hb⟩
      replace hB := hB.next hb
      replace h1 := h1.below hb (Nat.le_refl _)
      clear hb
      go_wp2_with fail
      refine (split_own _ _ hTz).mono ?_
      rintro e w6 ⟨pc, nc, cc, lc, rfl, h3, x3, m3, hb⟩
      rw [e1.out] at h3
      replace hB := hB.next hb
      replace h1 := h1.below hb (Nat.le_refl _)
      replace h2 := h2.below hb (Nat.le_refl _)
      clear hb
      have hlit := World.ownsRow_lit (size := 8) (e := 27) w6 #[] 0 (Nat.le_refl _) (by decide) rfl
      have hbl : Below w6.heap.size w6 (w6.alloc (.cells #[] 27)) := (Below.refl _ _).alloc (Nat.le_refl _) _
      go_upto_region 13 with fail
      go_wp2_with (first
        | (refine wpList_unguard (by rfl) ?_; refine wpList_addC rfl (.tmp 76) (.tmp 77) rfl (W := w6) rfl hlit hbl rfl h1 x1.out (by omega) ?_; intro v1 w7 hr1 hb1; simp only [Nat.zero_add, List.nil_append] at hr1)
        | (refine wpList_unguard (by rfl) ?_; refine wpList_addC rfl (.tmp 78) (.tmp 79) rfl (W := w6) rfl hr1 hb1 rfl h2 x2.out (by omega) ?_; intro v2 w8 hw2 hb2; obtain ⟨pd, cd, rfl, h4⟩ := h1.both h2 hb2 hw2 (by omega)))
      refine (same_at (h3.below hb2 (Nat.le_refl _)) h4).mono ?_
      rintro e w9 ⟨rfl, hb⟩
      replace hB := (hB.next hb2).next hb
      clear hb h1 h2 h3 h4 hlit hbl hr1 hw2 hb1 hb2
      go_wp2_with fail
      go_ret
      exact ⟨rfl, hB⟩
end Go.Proofs.YtbejimncmfeggaaDoor
