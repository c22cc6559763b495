/- The walk of MimeToken. -/
import Derived.Test.YtdlgpmihjecdlaaDoorMimeCoded
import Derived.Test.YtdlgpmihjecdlaaDoorMimeT
import Derived.Test.YtdlgpmihjecdlaaDoorMimeV
namespace Go.Proofs.YtdlgpmihjecdlaaDoor
open Go.RowKit
set_option linter.unusedVariables false
set_option linter.unusedSimpArgs false

theorem off_yes {m : Nat} {c : UInt8} (h : offC m c = true) :
    (((m : Int) == 0) = true ∧ ((m : Int) == 4) = false ∧ ((((c.toNat : Int) == 9) = true) ∨ (((c.toNat : Int) == 9) = false ∧ ((c.toNat : Int) == 10) = true) ∨ (((c.toNat : Int) == 9) = false ∧ ((c.toNat : Int) == 10) = false ∧ ((c.toNat : Int) == 13) = true) ∨
      (((c.toNat : Int) == 9) = false ∧ ((c.toNat : Int) == 10) = false ∧ ((c.toNat : Int) == 13) = false ∧ ((c.toNat : Int) == 32) = true))) ∨ (((m : Int) == 0) = false ∧ ((m : Int) == 4) = true ∧ ((c.toNat : Int) == 59) = true) := by
  simp only [offC, Bool.or_eq_true, Bool.and_eq_true, decide_eq_true_eq] at h
  simp only [beq_iff_eq, beq_eq_false_iff_ne, ne_eq]
  omega
theorem off_no {m : Nat} {c : UInt8} (h : offC m c = false) :
    (((m : Int) == 0) = true ∧ ((m : Int) == 4) = false ∧ ((c.toNat : Int) == 9) = false ∧ ((c.toNat : Int) == 10) = false ∧ ((c.toNat : Int) == 13) = false ∧ ((c.toNat : Int) == 32) = false) ∨
    (((m : Int) == 0) = false ∧ ((m : Int) == 4) = true ∧ ((c.toNat : Int) == 59) = false) ∨ (((m : Int) == 0) = false ∧ ((m : Int) == 4) = false) := by
  have h' : ¬ offC m c = true := by rw [h]; decide
  simp only [offC, Bool.or_eq_true, Bool.and_eq_true, decide_eq_true_eq] at h'
  simp only [beq_iff_eq, beq_eq_false_iff_ne, ne_eq]
  omega
set_option maxRecDepth 100000 in
set_option maxHeartbeats 4000000 in
theorem mimeToken_walk (ci : Int) (a : Int) (w : World) (wc : (Lit.int .u8 ci).wf = true) (wa : (Lit.int .i64 a).wf = true) (ht : Tabs w) (hm : ML w) : Calls Tryd.prog 6 #[.int .u8 ci, .int .i64 a] w (RetB w true) := by
  have hB : Below w.heap.size w w := Below.refl _ _
  obtain ⟨c, rfl⟩ : ∃ c : UInt8, ci = (c.toNat : Int) := ⟨UInt8.ofNat ci.toNat, by have := bounds_u8 wc; simp; omega⟩
  clear wc wa
  go_enter Tryd.func6, Tryd.ntmps6
  go_wp2_with fail
  refine (small18_any _ hm ht).mono ?_
  rintro e w1 ⟨rfl, hb⟩
  replace hB := hB.next hb
  clear hb
  by_cases hout : a < 0 ∨ 4 < a ∨ a = 2
  · have hway : a < 0 ∨ (0 ≤ a ∧ 4 < a) ∨ (0 ≤ a ∧ a ≤ 4 ∧ (a == 2) = true) := by
      rcases hout with h | h | rfl
      · exact .inl h
      · exact .inr (.inl ⟨by omega, h⟩)
      · exact .inr (.inr ⟨by omega, by omega, by decide⟩)
    clear hout
    rcases hway with q1 | ⟨q1, q2⟩ | ⟨q1, q2, q3⟩
    all_goals
      go_wp2_with fail
      go_ret
      exact ⟨rfl, hB⟩
  obtain ⟨m, rfl⟩ : ∃ m : Nat, a = (m : Int) := ⟨a.toNat, by omega⟩
  have hm4 : m ≤ 4 := by omega
  have hm2 : m ≠ 2 := by omega
  have q0 : (0 : Int) ≤ (m : Int) := by omega
  have q1 : (m : Int) ≤ 4 := by omega
  have q2 : ((m : Int) == 2) = false := by rw [beq_eq_false_iff_ne]; omega
  have q3 : (m : Int) ≤ 5 := by omega
  clear hout
  obtain ⟨ch, hch, hch1, hcv⟩ := conv_one (P := Tryd.prog) (S := 9) Tryd.underlying40 Tryd.underlying5 Tryd.underlying9 c
  go_upto_region 5 with fail
  have hcd1 : ∀ v : World, (convert 40 9 (.slice (some ⟨v.heap.size, 0, none⟩) 1 1)).run Tryd.prog (v.alloc (.cells #[.int .u8 (c.toNat : Int)] 5)).drew = .ok (.string ch) (v.alloc (.cells #[.int .u8 (c.toNat : Int)] 5)).drew := fun v => hcv (v.drew)
  have hcd2 : ∀ v : World, (convert 40 9 (.slice (some ⟨v.heap.size, 0, none⟩) 1 1)).run Tryd.prog (v.alloc (.cells #[.int .u8 (c.toNat : Int)] 5)).drew.drew = .ok (.string ch) (v.alloc (.cells #[.int .u8 (c.toNat : Int)] 5)).drew.drew := fun v => hcv (v.drew.drew)
  have hcd3 : ∀ v : World, (convert 40 9 (.slice (some ⟨v.heap.size, 0, none⟩) 1 1)).run Tryd.prog (v.alloc (.cells #[.int .u8 (c.toNat : Int)] 5)).drew.drew.drew = .ok (.string ch) (v.alloc (.cells #[.int .u8 (c.toNat : Int)] 5)).drew.drew.drew := fun v => hcv (v.drew.drew.drew)
  have hcd4 : ∀ v : World, (convert 40 9 (.slice (some ⟨v.heap.size, 0, none⟩) 1 1)).run Tryd.prog (v.alloc (.cells #[.int .u8 (c.toNat : Int)] 5)).drew.drew.drew.drew = .ok (.string ch) (v.alloc (.cells #[.int .u8 (c.toNat : Int)] 5)).drew.drew.drew.drew := fun v => hcv (v.drew.drew.drew.drew)
  go_region
  clear hcv hcd1 hcd2 hcd3 hcd4
  have hB2 : Below w.heap.size w ((w1.alloc (.cells #[.int .u8 (c.toNat : Int)] 5)).drew) := below_drewN (hB.alloc hB.size _) 1
  generalize ((w1.alloc (.cells #[.int .u8 (c.toNat : Int)] 5)).drew) = w2 at hB2 ⊢
  clear hB
  have eT : Hid ((ByteArray.extract ⟨#[97, 98, 47, 99, 100]⟩ 0 m ++ ch ++ ByteArray.extract ⟨#[97, 98, 47, 99, 100]⟩ m 5).toList = insL m c) := Lib.hid (by
    rw [toList_append, toList_append, toList_extract, toList_extract, hch.out, toList_mk]
    show List.drop 0 (List.take m abcdL) ++ [c] ++ List.drop m abcdL = insL m c
    unfold insL
    simp)
  generalize (ByteArray.extract ⟨#[97, 98, 47, 99, 100]⟩ 0 m ++ ch ++ ByteArray.extract ⟨#[97, 98, 47, 99, 100]⟩ m 5) = T at eT ⊢
  have zT : T.size ≤ 100 := by rw [← size_toList, eT.out]; unfold insL; rw [List.length_append, List.length_cons, List.length_take, List.length_drop]; show _ ≤ _; have : abcdL.length = 5 := rfl; omega
  have hI := Lib.hid (ins_at hm4 hm2 c)
  generalize ho : essL T.toList = o
  replace ho := Lib.hid ho
  go_wp2_with fail
  refine (ess_at _ (hm.next hB2) (by omega) ho.out).mono ?_
  rintro e w3 ⟨t0, rfl, ht0, hb⟩
  have hB := hB2.next hb
  clear hb hB2
  have n0 : 0 ≤ (c.toNat : Int) := by omega
  have n1 : (c.toNat : Int) ≤ 255 := by have := c.toNat_lt; omega
  obtain ⟨b, hb1, hb2, hway⟩ := lead_ways c
  replace hb1 := Lib.hid hb1
  replace hb2 := Lib.hid hb2
  obtain ⟨S, hS⟩ : ∃ S, S = signsB := ⟨_, rfl⟩
  have hSz : S.size = 15 := by rw [hS]; rfl
  have hat : Hid (∀ (b : Bool) (c : UInt8) (j : Nat) (h : j < S.size), ((S[j]'h = c) → (b || (signsL.take (j + 1)).contains c) = true) ∧ (S[j]'h ≠ c → (b || (signsL.take (j + 1)).contains c) = (b || (signsL.take j).contains c))) := Lib.hid (by subst hS; exact signs_at)
  replace hS := Lib.hid hS
  replace hSz := Lib.hid hSz
  rcases hway with ⟨r1, rfl⟩ | ⟨r1, r2, rfl⟩ | ⟨r1, r2, rfl⟩
  all_goals
    go_wp2_with (first
      | (go_at_call 16; refine (letter_any _ _).mono ?_; rintro e w' ⟨rfl, rfl⟩)
      | (go_at_call 17; refine (digit_any _ _ _ n0 n1).mono ?_; rintro e w' ⟨rfl, rfl⟩))
    clear r1
    try clear r2
    rw [show (ByteArray.mk #[33, 35, 36, 37, 38, 39, 42, 43, 45, 46, 94, 95, 96, 124, 126]) = S from hS.out.symm]
    go_loop [10, 12] (fun fv iv => ∃ (k : Nat) (f : Bool), iv = .int .i64 k ∧ fv = .bool f ∧ k ≤ 15 ∧ Hid (((letterZ (c.toNat : Int) || decide (0 ≤ digitZ (c.toNat : Int) 10)) || (signsL.take k).contains c) = f)) (fun _ iv => 15 - (intOf iv).toNat)
    case atStart => exact ⟨0, _, rfl, rfl, by omega, Lib.hid (by rw [hb1.out]; rfl)⟩
    case round =>
      obtain ⟨j, f, rfl, rfl, hj, hf⟩ := hrel
      have hz : (S.size : Int) = 15 := by rw [hSz.out]; rfl
      by_cases hjl : j < 15
      · have hjI : (j : Int) < (S.size : Int) := by omega
        have hjN : j < S.size := by omega
        have hstep := hat.out (letterZ (c.toNat : Int) || decide (0 ≤ digitZ (c.toNat : Int) 10)) c j hjN
        have hkeep := signs_true (letterZ (c.toNat : Int) || decide (0 ≤ digitZ (c.toNat : Int) 10)) c j hjl
        replace hz := Lib.hid hz
        replace hkeep := Lib.hid hkeep
        cases f
        · by_cases he : S[j] = c
          · have hnew := Lib.hid (hstep.1 he)
            have q := u8q.1 he
            replace he := Lib.hid he
            replace hstep := Lib.hid hstep
            go_wp2_with fail
            go_round
            case rel => exact ⟨j + 1, true, by go_num, rfl, by omega, hnew⟩
            case measure => simp [intOf]; omega
          · have hnew := Lib.hid ((hstep.2 he).trans hf.out)
            have q := u8q.2 he
            replace he := Lib.hid he
            replace hstep := Lib.hid hstep
            go_wp2_with fail
            go_round
            case rel => exact ⟨j + 1, false, by go_num, rfl, by omega, hnew⟩
            case measure => simp [intOf]; omega
        · have hnew := Lib.hid (hkeep.out hf.out)
          replace hstep := Lib.hid hstep
          go_wp2_with fail
          go_round
          case rel => exact ⟨j + 1, true, by go_num, rfl, by omega, hnew⟩
          case measure => simp [intOf]; omega
      · have hjE : j = 15 := by omega
        have htok : tokC c = f := by rw [hb2.out, ← hf.out, hb1.out, hjE]; rfl
        have hjI : (S.size : Int) ≤ (j : Int) := by omega
        replace hjE := Lib.hid hjE
        replace hz := Lib.hid hz
        obtain ⟨i1, i2, i3⟩ := hI.out
        rw [htok] at i1 i2 i3
        rw [← eT.out, ho.out] at i1 i2 i3
        replace htok := Lib.hid htok
        cases f
        · replace i1 := Lib.hid i1
          cases hoff : offC m c
          · have hnone := i3 rfl hoff
            have hw := off_no hoff
            subst hnone
            obtain rfl : t0 = ⟨#[]⟩ := bytesM (l := []) ht0.out
            replace i2 := Lib.hid i2
            replace i3 := Lib.hid i3
            replace hoff := Lib.hid hoff
            rcases hw with ⟨a0, a4, c1, c2, c3, c4⟩ | ⟨a0, a4, c1⟩ | ⟨a0, a4⟩
            all_goals
              go_wp2_with fail
              go_ret
              exact ⟨rfl, hB⟩
          · have hsome := i2 rfl hoff
            have hw := off_yes hoff
            cases o with
            | none => cases hsome
            | some l =>
              replace i2 := Lib.hid i2
              replace i3 := Lib.hid i3
              replace hoff := Lib.hid hoff
              clear hsome
              rcases hw with ⟨a0, a4, c1 | ⟨c1, c2⟩ | ⟨c1, c2, c3⟩ | ⟨c1, c2, c3, c4⟩⟩ | ⟨a0, a4, c1⟩
              all_goals
                go_wp2_with fail
                go_ret
                exact ⟨rfl, hB⟩
        · have hyes := i1 rfl
          subst hyes
          clear i1 i2 i3
          go_wp2_with fail
          refine (lower_any T _ (by omega)).mono ?_
          rintro e w5 ⟨t3, rfl, ht3, hb⟩
          have hB5 := hB.next hb
          clear hb
          obtain rfl : t3 = t0 := eq_of_toList (ht3.out.trans ht0.out.symm)
          clear ht3
          go_wp2_with fail
          go_ret
          exact ⟨rfl, hB5⟩
end Go.Proofs.YtdlgpmihjecdlaaDoor
