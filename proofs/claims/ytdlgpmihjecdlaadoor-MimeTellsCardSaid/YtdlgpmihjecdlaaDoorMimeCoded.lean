/- The walk of MimeCoded. -/
import Derived.Test.YtdlgpmihjecdlaaDoorMimeF
import Derived.Test.YtdlgpmihjecdlaaDoorMimeR
namespace Go.Proofs.YtdlgpmihjecdlaaDoor
open Go.RowKit
set_option linter.unusedVariables false
set_option linter.unusedSimpArgs false

theorem data_cut {X a : List UInt8} (h : ∀ c ∈ X, c ≠ 44) : (if (cutC 44 (X ++ 44 :: a)).2.2 = true then some (typeL (cutC 44 (X ++ 44 :: a)).1) else none) = some (typeL X) := by
  rw [cutC_has X a h]; rfl
theorem u8n {c d : UInt8} : (c = d → ((c.toNat : Int) == (d.toNat : Int)) = true) ∧ (c ≠ d → ((c.toNat : Int) == (d.toNat : Int)) = false) := by
  constructor
  · rintro rfl; simp
  · intro h
    simp only [beq_eq_false_iff_ne, ne_eq]
    intro e; exact h (UInt8.toNat_inj.1 (by omega))
set_option maxRecDepth 100000 in
set_option maxHeartbeats 4000000 in
theorem mimeCoded_walk (s a : ByteArray) (w : World) (ws : s.size ≤ 9223372036854775807) (wa : a.size ≤ 9223372036854775807) (ht : Tabs w) (hm : ML w) : Calls Tryd.prog 7 #[.string s, .string a] w (RetB w true) := by
  have hB : Below w.heap.size w w := Below.refl _ _
  go_enter Tryd.func7, Tryd.ntmps7
  go_wp2_with fail
  refine (small18_any _ hm ht).mono ?_
  rintro e w1 ⟨rfl, hb⟩
  replace hB := hB.next hb
  clear hb
  by_cases h200 : 200 < s.size ∨ 200 < a.size
  · have hway : (200 : Int) < (s.size : Int) ∨ ((s.size : Int) ≤ 200 ∧ (200 : Int) < (a.size : Int)) := by omega
    clear h200
    rcases hway with q1 | ⟨q1, q2⟩
    all_goals
      go_wp2_with fail
      go_ret
      exact ⟨rfl, hB⟩
  have q1 : (s.size : Int) ≤ 200 := by omega
  have q2 : (a.size : Int) ≤ 200 := by omega
  clear h200
  go_wp2_with fail
  go_loop [6] (fun iv => ∃ k : Nat, iv = .int .i64 k ∧ k ≤ s.size ∧ Hid (∀ c ∈ s.toList.take k, c ≠ 44 ∧ c ≠ 12)) (fun iv => s.size - (intOf iv).toNat)
  case atStart => exact ⟨0, rfl, Nat.zero_le _, Lib.hid (by simp)⟩
  case round =>
    obtain ⟨k, rfl, hk, hg⟩ := hrel
    by_cases hlt : k < s.size
    · have hltI : (k : Int) < (s.size : Int) := by omega
      have hnew : s[k] ≠ 44 ∧ s[k] ≠ 12 → Hid (∀ c ∈ s.toList.take (k + 1), c ≠ 44 ∧ c ≠ 12) := fun h => Lib.hid (by
        rw [take_snoc s k hlt]
        intro c hc
        rcases List.mem_append.1 hc with hc | hc
        · exact hg.out c hc
        · simp at hc; rw [hc]; exact h)
      replace hnew := Lib.hid hnew
      have hway : ((s[k].toNat : Int) == 44) = true ∨ ((((s[k].toNat : Int) == 44) = false) ∧ ((s[k].toNat : Int) == 12) = true) ∨ ((((s[k].toNat : Int) == 44) = false) ∧ ((s[k].toNat : Int) == 12) = false ∧ (s[k] ≠ 44 ∧ s[k] ≠ 12)) := by
        by_cases h1 : s[k] = 44
        · exact .inl (u8n (d := 44) |>.1 h1)
        · by_cases h2 : s[k] = 12
          · exact .inr (.inl ⟨u8n (d := 44) |>.2 h1, u8n (d := 12) |>.1 h2⟩)
          · exact .inr (.inr ⟨u8n (d := 44) |>.2 h1, u8n (d := 12) |>.2 h2, h1, h2⟩)
      rcases hway with r1 | ⟨r1, r2⟩ | ⟨r1, r2, r3⟩
      · go_wp2_with fail
        go_ret
        exact ⟨rfl, hB⟩
      · go_wp2_with fail
        go_ret
        exact ⟨rfl, hB⟩
      · have hn := hnew.out r3
        clear r3
        go_wp2_with fail
        go_round
        case rel => exact ⟨k + 1, by go_num, by omega, hn⟩
        case measure => simp [intOf]; omega
    · have hgeI : (s.size : Int) ≤ (k : Int) := by omega
      have hall : ∀ c ∈ s.toList, c ≠ 44 ∧ c ≠ 12 := by have := hg.out; rw [take_all s k (by omega)] at this; exact this
      have h44 : ∀ c ∈ s.toList, c ≠ 44 := fun c hc => (hall c hc).1
      have h12 : ∀ c ∈ s.toList, c ≠ 12 := fun c hc => (hall c hc).2
      have b1 : (ByteArray.mk #[44]).toList = [44] := toList_mk _
      have b2 : (ByteArray.mk #[59, 98, 97, 115, 101, 54, 52, 44]).toList = [59, 98, 97, 115, 101, 54, 52, 44] := toList_mk _
      have b3 : (ByteArray.mk #[32, 59, 32, 32, 98, 65, 115, 69, 54, 52, 9, 44]).toList = [32, 59, 32, 32, 98, 65, 115, 69, 54, 52, 9, 44] := toList_mk _
      have d1 : Hid ((if (cutC 44 (s ++ ⟨#[44]⟩ ++ a : ByteArray).toList).2.2 = true then some (typeL (cutC 44 (s ++ ⟨#[44]⟩ ++ a : ByteArray).toList).1) else none) = some (typeL s.toList)) := Lib.hid (by
        have e : (s ++ ⟨#[44]⟩ ++ a : ByteArray).toList = s.toList ++ 44 :: a.toList := by rw [toList_append, toList_append, b1]; simp
        rw [e]; exact data_cut h44)
      have d2 : Hid ((if (cutC 44 (s ++ ⟨#[59, 98, 97, 115, 101, 54, 52, 44]⟩ ++ a : ByteArray).toList).2.2 = true then some (typeL (cutC 44 (s ++ ⟨#[59, 98, 97, 115, 101, 54, 52, 44]⟩ ++ a : ByteArray).toList).1) else none) = some (typeL s.toList)) := Lib.hid (by
        have e : (s ++ ⟨#[59, 98, 97, 115, 101, 54, 52, 44]⟩ ++ a : ByteArray).toList = (s.toList ++ 59 :: [98, 97, 115, 101, 54, 52]) ++ 44 :: a.toList := by rw [toList_append, toList_append, b2]; simp
        rw [e, data_cut (by
          intro c hc
          rcases List.mem_append.1 hc with hc | hc
          · exact h44 c hc
          · rintro rfl; exact absurd hc (by decide)), typeL_semi _ _ h12 (by decide)])
      have d3 : Hid ((if (cutC 44 (s ++ ⟨#[32, 59, 32, 32, 98, 65, 115, 69, 54, 52, 9, 44]⟩ ++ a : ByteArray).toList).2.2 = true then some (typeL (cutC 44 (s ++ ⟨#[32, 59, 32, 32, 98, 65, 115, 69, 54, 52, 9, 44]⟩ ++ a : ByteArray).toList).1) else none) = some (typeL s.toList)) := Lib.hid (by
        have e : (s ++ ⟨#[32, 59, 32, 32, 98, 65, 115, 69, 54, 52, 9, 44]⟩ ++ a : ByteArray).toList = ((s.toList ++ [32]) ++ 59 :: [32, 32, 98, 65, 115, 69, 54, 52, 9]) ++ 44 :: a.toList := by rw [toList_append, toList_append, b3]; simp
        have hs32 : ∀ c ∈ s.toList ++ [32], c ≠ 12 := by
          intro c hc
          rcases List.mem_append.1 hc with hc | hc
          · exact h12 c hc
          · rintro rfl; exact absurd hc (by decide)
        rw [e, data_cut (by
          intro c hc
          rcases List.mem_append.1 hc with hc | hc
          · rcases List.mem_append.1 hc with hc | hc
            · exact h44 c hc
            · rintro rfl; exact absurd hc (by decide)
          · rintro rfl; exact absurd hc (by decide)), typeL_semi _ _ hs32 (by decide), typeL_sp _ h12])
      have z1 : Hid ((s ++ ⟨#[44]⟩ ++ a : ByteArray).size ≤ 800000) := Lib.hid (by rw [ByteArray.size_append, ByteArray.size_append]; have : (ByteArray.mk #[44]).size = 1 := rfl; omega)
      have z2 : Hid ((s ++ ⟨#[59, 98, 97, 115, 101, 54, 52, 44]⟩ ++ a : ByteArray).size ≤ 800000) := Lib.hid (by rw [ByteArray.size_append, ByteArray.size_append]; have : (ByteArray.mk #[59, 98, 97, 115, 101, 54, 52, 44]).size = 8 := rfl; omega)
      have z3 : Hid ((s ++ ⟨#[32, 59, 32, 32, 98, 65, 115, 69, 54, 52, 9, 44]⟩ ++ a : ByteArray).size ≤ 800000) := Lib.hid (by rw [ByteArray.size_append, ByteArray.size_append]; have : (ByteArray.mk #[32, 59, 32, 32, 98, 65, 115, 69, 54, 52, 9, 44]).size = 12 := rfl; omega)
      clear hall h44 h12 hg hlt b1 b2 b3
      go_wp2_with fail
      refine (of_any _ _).mono ?_
      rintro e w2 ⟨rfl, hb⟩
      replace hB := hB.next hb
      clear hb
      go_wp2_with fail
      refine (dataOf_at _ z1.out (ht.next hB) (hm.next hB) d1.out).mono ?_
      rintro e w3 ⟨t1, rfl, ht1, hb⟩
      replace hB := hB.next hb
      clear hb
      go_wp2_with fail
      refine (of_any _ _).mono ?_
      rintro e w4 ⟨rfl, hb⟩
      replace hB := hB.next hb
      clear hb
      go_wp2_with fail
      refine (dataOf_at _ z2.out (ht.next hB) (hm.next hB) d2.out).mono ?_
      rintro e w5 ⟨t2, rfl, ht2, hb⟩
      replace hB := hB.next hb
      clear hb
      obtain rfl : t2 = t1 := eq_of_toList (ht2.out.trans ht1.out.symm)
      go_wp2_with fail
      refine (of_any _ _).mono ?_
      rintro e w6 ⟨rfl, hb⟩
      replace hB := hB.next hb
      clear hb
      go_wp2_with fail
      refine (dataOf_at _ z3.out (ht.next hB) (hm.next hB) d3.out).mono ?_
      rintro e w7 ⟨t3, rfl, ht3, hb⟩
      replace hB := hB.next hb
      clear hb
      obtain rfl : t3 = t2 := eq_of_toList (ht3.out.trans ht2.out.symm)
      go_wp2_with fail
      go_ret
      exact ⟨rfl, hB⟩
end Go.Proofs.YtdlgpmihjecdlaaDoor
