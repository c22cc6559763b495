/- The walk of MimeData. -/
import Derived.Test.YtdlgpmihjecdlaaDoorMimeCoded
import Derived.Test.YtdlgpmihjecdlaaDoorMimeS
namespace Go.Proofs.YtdlgpmihjecdlaaDoor
open Go.RowKit
set_option linter.unusedVariables false
set_option linter.unusedSimpArgs false

set_option maxRecDepth 100000 in
set_option maxHeartbeats 4000000 in
theorem mimeData_walk (s a b : ByteArray) (w : World) (ws : s.size ≤ 9223372036854775807) (wa : a.size ≤ 9223372036854775807) (wb : b.size ≤ 9223372036854775807) (ht : Tabs w) (hm : ML w) : Calls Tryd.prog 5 #[.string s, .string a, .string b] w (RetB w true) := by
  have hB : Below w.heap.size w w := Below.refl _ _
  go_enter Tryd.func5, Tryd.ntmps5
  go_wp2_with fail
  refine (small18_any _ hm ht).mono ?_
  rintro e w1 ⟨rfl, hb⟩
  replace hB := hB.next hb
  clear hb
  by_cases h200 : 200 < s.size ∨ 200 < a.size ∨ 200 < b.size
  · have hway : (200 : Int) < (s.size : Int) ∨ ((s.size : Int) ≤ 200 ∧ (200 : Int) < (a.size : Int)) ∨ ((s.size : Int) ≤ 200 ∧ (a.size : Int) ≤ 200 ∧ (200 : Int) < (b.size : Int)) := by omega
    clear h200
    rcases hway with q1 | ⟨q1, q2⟩ | ⟨q1, q2, q3⟩
    all_goals
      go_wp2_with fail
      go_ret
      exact ⟨rfl, hB⟩
  have q1 : (s.size : Int) ≤ 200 := by omega
  have q2 : (a.size : Int) ≤ 200 := by omega
  have q3 : (b.size : Int) ≤ 200 := by omega
  clear h200
  go_wp2_with fail
  refine (essence_any s _ (hm.next hB) (by omega)).mono ?_
  rintro e w2 ⟨t0, rfl, ht0, hb⟩
  replace hB := hB.next hb
  clear hb
  replace ht0 := Lib.hid ht0.out
  generalize ho : essL s.toList = o at ht0
  replace ho := Lib.hid ho
  go_wp2_with fail
  go_loop [10] (fun iv => ∃ k : Nat, iv = .int .i64 k ∧ k ≤ s.size ∧ Hid (∀ c ∈ s.toList.take k, c ≠ 44 ∧ c ≠ 59 ∧ c ≠ 12)) (fun iv => s.size - (intOf iv).toNat)
  case atStart => exact ⟨0, rfl, Nat.zero_le _, Lib.hid (by simp)⟩
  case round =>
    obtain ⟨k, rfl, hk, hg⟩ := hrel
    by_cases hlt : k < s.size
    · have hltI : (k : Int) < (s.size : Int) := by omega
      have hnew : s[k] ≠ 44 ∧ s[k] ≠ 59 ∧ s[k] ≠ 12 → Hid (∀ c ∈ s.toList.take (k + 1), c ≠ 44 ∧ c ≠ 59 ∧ c ≠ 12) := fun h => Lib.hid (by
        rw [take_snoc s k hlt]
        intro c hc
        rcases List.mem_append.1 hc with hc | hc
        · exact hg.out c hc
        · simp at hc; rw [hc]; exact h)
      replace hnew := Lib.hid hnew
      have hway : ((s[k].toNat : Int) == 44) = true ∨ ((((s[k].toNat : Int) == 44) = false) ∧ ((s[k].toNat : Int) == 59) = true) ∨ ((((s[k].toNat : Int) == 44) = false) ∧ ((s[k].toNat : Int) == 59) = false ∧ ((s[k].toNat : Int) == 12) = true) ∨ ((((s[k].toNat : Int) == 44) = false) ∧ ((s[k].toNat : Int) == 59) = false ∧ ((s[k].toNat : Int) == 12) = false ∧ (s[k] ≠ 44 ∧ s[k] ≠ 59 ∧ s[k] ≠ 12)) := by
        by_cases h1 : s[k] = 44
        · exact .inl (u8n (d := 44) |>.1 h1)
        · by_cases h2 : s[k] = 59
          · exact .inr (.inl ⟨u8n (d := 44) |>.2 h1, u8n (d := 59) |>.1 h2⟩)
          · by_cases h3 : s[k] = 12
            · exact .inr (.inr (.inl ⟨u8n (d := 44) |>.2 h1, u8n (d := 59) |>.2 h2, u8n (d := 12) |>.1 h3⟩))
            · exact .inr (.inr (.inr ⟨u8n (d := 44) |>.2 h1, u8n (d := 59) |>.2 h2, u8n (d := 12) |>.2 h3, h1, h2, h3⟩))
      rcases hway with r1 | ⟨r1, r2⟩ | ⟨r1, r2, r3⟩ | ⟨r1, r2, r3, r4⟩
      · go_wp2_with fail
        go_ret
        exact ⟨rfl, hB⟩
      · go_wp2_with fail
        go_ret
        exact ⟨rfl, hB⟩
      · go_wp2_with fail
        go_ret
        exact ⟨rfl, hB⟩
      · have hn := hnew.out r4
        clear r4
        go_wp2_with fail
        go_round
        case rel => exact ⟨k + 1, by go_num, by omega, hn⟩
        case measure => simp [intOf]; omega
    · have hgeI : (s.size : Int) ≤ (k : Int) := by omega
      have hall : ∀ c ∈ s.toList, c ≠ 44 ∧ c ≠ 59 ∧ c ≠ 12 := by have := hg.out; rw [take_all s k (by omega)] at this; exact this
      have h44 : ∀ c ∈ s.toList, c ≠ 44 := fun c hc => (hall c hc).1
      have h59 : ∀ c ∈ s.toList, c ≠ 59 := fun c hc => (hall c hc).2.1
      have h12 : ∀ c ∈ s.toList, c ≠ 12 := fun c hc => (hall c hc).2.2
      have b1 : (ByteArray.mk #[44]).toList = [44] := toList_mk _
      have b2 : (ByteArray.mk #[59, 120, 61, 121, 32, 32, 59, 32, 32, 66, 97, 115, 101, 54, 52, 44]).toList = [59, 120, 61, 121, 32, 32, 59, 32, 32, 66, 97, 115, 101, 54, 52, 44] := toList_mk _
      have b3 : (ByteArray.mk #[32]).toList = [32] := toList_mk _
      have b4 : (ByteArray.mk #[9, 59, 98, 97, 115, 101, 54, 52, 44]).toList = [9, 59, 98, 97, 115, 101, 54, 52, 44] := toList_mk _
      have hty : Hid (typeL s.toList = o.getD plainL) := Lib.hid (by rw [typeL_ess h12 h59, ho.out])
      have d1 : Hid ((if (cutC 44 (s ++ ⟨#[44]⟩ ++ a : ByteArray).toList).2.2 = true then some (typeL (cutC 44 (s ++ ⟨#[44]⟩ ++ a : ByteArray).toList).1) else none) = some (o.getD plainL)) := Lib.hid (by
        have e : (s ++ ⟨#[44]⟩ ++ a : ByteArray).toList = s.toList ++ 44 :: a.toList := by rw [toList_append, toList_append, b1]; simp
        rw [e, ← hty.out]; exact data_cut h44)
      have d2 : Hid ((if (cutC 44 (s ++ ⟨#[59, 120, 61, 121, 32, 32, 59, 32, 32, 66, 97, 115, 101, 54, 52, 44]⟩ ++ b : ByteArray).toList).2.2 = true then some (typeL (cutC 44 (s ++ ⟨#[59, 120, 61, 121, 32, 32, 59, 32, 32, 66, 97, 115, 101, 54, 52, 44]⟩ ++ b : ByteArray).toList).1) else none) = some (o.getD plainL)) := Lib.hid (by
        have e : (s ++ ⟨#[59, 120, 61, 121, 32, 32, 59, 32, 32, 66, 97, 115, 101, 54, 52, 44]⟩ ++ b : ByteArray).toList = (s.toList ++ 59 :: [120, 61, 121, 32, 32, 59, 32, 32, 66, 97, 115, 101, 54, 52]) ++ 44 :: b.toList := by rw [toList_append, toList_append, b2]; simp
        rw [e, ← hty.out, data_cut (by
          intro c hc
          rcases List.mem_append.1 hc with hc | hc
          · exact h44 c hc
          · rintro rfl; exact absurd hc (by decide)), typeL_long h12])
      have d3 : Hid ((if (cutC 44 s.toList).2.2 = true then some (typeL (cutC 44 s.toList).1) else none) = none) := Lib.hid (by
        rw [cutC_hasnot s.toList h44]; rfl)
      have d4 : Hid ((if (cutC 44 (⟨#[32]⟩ ++ s ++ ⟨#[9, 59, 98, 97, 115, 101, 54, 52, 44]⟩ ++ a : ByteArray).toList).2.2 = true then some (typeL (cutC 44 (⟨#[32]⟩ ++ s ++ ⟨#[9, 59, 98, 97, 115, 101, 54, 52, 44]⟩ ++ a : ByteArray).toList).1) else none) = some (o.getD plainL)) := Lib.hid (by
        have e : (⟨#[32]⟩ ++ s ++ ⟨#[9, 59, 98, 97, 115, 101, 54, 52, 44]⟩ ++ a : ByteArray).toList = ((32 :: s.toList ++ [9]) ++ 59 :: [98, 97, 115, 101, 54, 52]) ++ 44 :: a.toList := by rw [toList_append, toList_append, toList_append, b3, b4]; simp
        rw [e, ← hty.out, data_cut (by
          intro c hc
          rcases List.mem_append.1 hc with hc | hc
          · rcases List.mem_append.1 hc with hc | hc
            · rcases List.mem_cons.1 hc with rfl | hc
              · decide
              · exact h44 c hc
            · rintro rfl; exact absurd hc (by decide)
          · rintro rfl; exact absurd hc (by decide)), typeL_round h12])
      have z1 : Hid ((s ++ ⟨#[44]⟩ ++ a : ByteArray).size ≤ 800000) := Lib.hid (by rw [ByteArray.size_append, ByteArray.size_append]; have : (ByteArray.mk #[44]).size = 1 := rfl; omega)
      have z2 : Hid ((s ++ ⟨#[59, 120, 61, 121, 32, 32, 59, 32, 32, 66, 97, 115, 101, 54, 52, 44]⟩ ++ b : ByteArray).size ≤ 800000) := Lib.hid (by rw [ByteArray.size_append, ByteArray.size_append]; have : (ByteArray.mk #[59, 120, 61, 121, 32, 32, 59, 32, 32, 66, 97, 115, 101, 54, 52, 44]).size = 16 := rfl; omega)
      have z3 : Hid (s.size ≤ 800000) := Lib.hid (by omega)
      have z4 : Hid ((⟨#[32]⟩ ++ s ++ ⟨#[9, 59, 98, 97, 115, 101, 54, 52, 44]⟩ ++ a : ByteArray).size ≤ 800000) := Lib.hid (by rw [ByteArray.size_append, ByteArray.size_append, ByteArray.size_append]; have : (ByteArray.mk #[9, 59, 98, 97, 115, 101, 54, 52, 44]).size = 9 := rfl; have : (ByteArray.mk #[32]).size = 1 := rfl; omega)
      clear hall h44 h12 h59 hg hlt b1 b2 b3 b4
      have hway : (o = none ∧ Hid (∀ t : ByteArray, t.toList = (some (o.getD plainL)).getD [] → t = ⟨#[116, 101, 120, 116, 47, 112, 108, 97, 105, 110]⟩)) ∨ (∃ l, o = some l ∧ Hid (∀ t : ByteArray, t.toList = (some (o.getD plainL)).getD [] → t = t0)) := by
        cases o with
        | none => exact .inl ⟨rfl, Lib.hid fun t h => bytesM (l := [116, 101, 120, 116, 47, 112, 108, 97, 105, 110]) h⟩
        | some l => exact .inr ⟨l, rfl, Lib.hid fun t h => eq_of_toList (h.trans ht0.out.symm)⟩
      rcases hway with ⟨rfl, fin⟩ | ⟨l, rfl, fin⟩
      all_goals
        go_wp2_with fail
        refine (of_any _ _).mono ?_
        rintro e w2 ⟨rfl, hb⟩
        replace hB := hB.next hb
        clear hb
        go_wp2_with fail
        refine (dataOf_at _ z1.out (ht.next hB) (hm.next hB) d1.out).mono ?_
        rintro e w3 ⟨t1, rfl, ht1, hb⟩
        replace hB := hB.next hb
        clear hb
        obtain rfl := fin.out t1 ht1.out
        go_wp2_with fail
        refine (of_any _ _).mono ?_
        rintro e w4 ⟨rfl, hb⟩
        replace hB := hB.next hb
        clear hb
        go_wp2_with fail
        refine (dataOf_at _ z2.out (ht.next hB) (hm.next hB) d2.out).mono ?_
        rintro e w5 ⟨t2, rfl, ht2, hb⟩
        replace hB := hB.next hb
        clear hb
        obtain rfl := fin.out t2 ht2.out
        go_wp2_with fail
        refine (of_any _ _).mono ?_
        rintro e w6 ⟨rfl, hb⟩
        replace hB := hB.next hb
        clear hb
        go_wp2_with fail
        refine (dataOf_at _ z3.out (ht.next hB) (hm.next hB) d3.out).mono ?_
        rintro e w7 ⟨t3, rfl, ht3, hb⟩
        replace hB := hB.next hb
        clear hb
        obtain rfl : t3 = ⟨#[]⟩ := bytesM (l := []) ht3.out
        go_wp2_with fail
        refine (of_any _ _).mono ?_
        rintro e w8 ⟨rfl, hb⟩
        replace hB := hB.next hb
        clear hb
        go_wp2_with fail
        refine (dataOf_at _ z4.out (ht.next hB) (hm.next hB) d4.out).mono ?_
        rintro e w9 ⟨t4, rfl, ht4, hb⟩
        replace hB := hB.next hb
        clear hb
        obtain rfl := fin.out t4 ht4.out
        go_wp2_with fail
        go_ret
        exact ⟨rfl, hB⟩
end Go.Proofs.YtdlgpmihjecdlaaDoor
