/- The contracts of the reference's Essence and bare. -/
import Derived.Test.YtdlgpmihjecdlaaDoorMimeV
import Derived.Test.YtdlgpmihjecdlaaDoorMimeC
import Derived.Test.YtdlgpmihjecdlaaDoorTightW
namespace Go.Proofs.YtdlgpmihjecdlaaDoor
open Go.RowKit
set_option linter.unusedVariables false
set_option linter.unusedSimpArgs false

theorem cutC_take (c : UInt8) : ∀ l, l.take (cutC c l).1.length = (cutC c l).1 := fun l => by
  conv => lhs; rw [cutC_all c l]
  have : (cutC c ((cutC c l).1 ++ (if (cutC c l).2.2 then c :: (cutC c l).2.1 else []))).1.length = (cutC c l).1.length := by rw [← cutC_all]
  rw [this, List.take_append_of_le_length (Nat.le_refl _), List.take_length]
theorem cutC_drop {c : UInt8} {l : List UInt8} (h : (cutC c l).2.2 = true) : l.drop ((cutC c l).1.length + 1) = (cutC c l).2.1 := by
  have e := cutC_has' h
  have : l.drop ((cutC c l).1.length + 1) = (((cutC c l).1 ++ c :: (cutC c l).2.1)).drop ((cutC c l).1.length + 1) := by rw [← e]
  rw [this, List.drop_append]
  simp
theorem cutC_size1 {c : UInt8} {l : List UInt8} (h : (cutC c l).2.2 = true) : (cutC c l).1.length < l.length := by
  have e := congrArg List.length (cutC_has' h)
  rw [List.length_append, List.length_cons] at e
  omega
theorem cutC_size0 {c : UInt8} {l : List UInt8} (h : (cutC c l).2.2 = false) : (cutC c l).1.length = l.length := by rw [(cutC_none c l h).1]
theorem cutC_le (c : UInt8) (l : List UInt8) : (cutC c l).1.length ≤ l.length := by have := cutC_len c l; omega
theorem toList_upto (s : ByteArray) (k : Nat) : (s.extract 0 k).toList = s.toList.take k := by rw [toList_extract, List.drop_zero]
theorem toList_from (s : ByteArray) (k : Nat) : (s.extract k s.size).toList = s.toList.drop k := by rw [toList_extract, take_all _ _ (Nat.le_refl _)]
set_option maxRecDepth 100000 in
set_option maxHeartbeats 4000000 in
theorem essenceR_any (s : ByteArray) (w : World) (hs : s.size ≤ 1000000) :
    Calls Tryd.prog 11 #[.string s] w (RetE w (essL s.toList)) := by
  have hB : Below w.heap.size w w := Below.refl _ _
  have e0 : (ByteArray.mk #[]).toList = [] := toList_mk []
  go_enter Tryd.func11, Tryd.ntmps11
  go_wp2_with fail
  refine (behindR_any s _ (by omega)).mono ?_
  rintro e w1 ⟨t, rfl, ht, htz, rfl⟩
  replace e0 := Lib.hid e0
  go_wp2_with fail
  go_loop [0] (fun v => ∃ u : ByteArray, v = .string u ∧ u.size ≤ s.size ∧ Hid (dropZ spZ u.toList = dropZ spZ t.toList)) (fun v => szOf v)
  case atStart => exact ⟨t, rfl, htz, rfl⟩
  case round =>
    obtain ⟨u, rfl, hus, hu⟩ := hrel
    by_cases hgo : ∃ h : 0 < u.size, spZ (u[0].toNat : Int) = true
    · obtain ⟨h0, hp⟩ := hgo
      have hne : (!u.toList.isEmpty) = true := by
        rw [extract1 u h0]; rfl
      have hx := Lib.hid (extract1 u h0)
      go_wp2_with ((with_reducible refine (spaceR_any _ _).mono ?_); rintro e w' ⟨rfl, rfl⟩)
      go_round
      case rel => exact ⟨_, rfl, by rw [← size_toList, toList_extract, List.length_drop, take_all _ _ (Nat.le_refl _), size_toList]; omega, Lib.hid (by rw [← hu.out, hx.out, dropZ_yes hp])⟩
      case measure => simp [szOf]; omega
    · have hd : Hid (essL s.toList = essT u.toList) := Lib.hid (by
        unfold essL
        rw [← ht.out, ← hu.out]
        by_cases h0 : 0 < u.size
        · rw [extract1 u h0, dropZ_no (by simpa using fun h => hgo ⟨h0, h⟩)]
        · rw [(toList_empty_iff u).2 (by omega)]; rfl)
      have hor : (∃ h0 : 0 < u.size, (!u.toList.isEmpty) = true ∧ spZ (u[0].toNat : Int) = false) ∨ u.toList.isEmpty = true := by
        by_cases h0 : 0 < u.size
        · exact .inl ⟨h0, by rw [extract1 u h0]; rfl, by simpa using fun h => hgo ⟨h0, h⟩⟩
        · exact .inr (by rw [(toList_empty_iff u).2 (by omega)]; rfl)
      clear hgo ht hu
      have hfd := Lib.hid (fun w => findR_any u 47 w (by omega))
      have hlen := size_toList u
      have hle := cutC_le 47 u.toList
      have hupto : Hid ((u.extract 0 (cutC 47 u.toList).1.length).toList = (cutC 47 u.toList).1) := Lib.hid (by rw [toList_upto, cutC_take])
      have hfrom : (cutC 47 u.toList).2.2 = true → Hid ((u.extract ((cutC 47 u.toList).1.length + 1) u.size).toList = (cutC 47 u.toList).2.1) := fun h => Lib.hid (by rw [toList_from, cutC_drop h])
      have hl1 : (cutC 47 u.toList).2.2 = true → (cutC 47 u.toList).1.length < u.size := fun h => by rw [← hlen]; exact cutC_size1 h
      have hl0 : (cutC 47 u.toList).2.2 = false → (cutC 47 u.toList).1.length = u.size := fun h => by rw [← hlen]; exact cutC_size0 h
      have hE0 : (cutC 47 u.toList).2.2 = false → Hid (essL s.toList = none) := fun h => Lib.hid (by rw [hd.out]; unfold essT; rw [if_pos h])
      have hE1 : (cutC 47 u.toList).2.2 = true → Hid (essL s.toList = if tokB (cutC 47 u.toList).1 = true ∧ tokB (rdropZ spZ (cutC 59 (cutC 47 u.toList).2.1).1) = true then some (lowerL (cutC 47 u.toList).1 ++ 47 :: lowerL (rdropZ spZ (cutC 59 (cutC 47 u.toList).2.1).1)) else none) := fun h => Lib.hid (by
        rw [hd.out]; unfold essT; rw [if_neg (by rw [h]; decide)])
      obtain ⟨n, hn⟩ : ∃ n, (cutC 47 u.toList).1.length = n := ⟨_, rfl⟩
      rw [hn] at hle hfd hupto hfrom hl1 hl0
      rw [hlen] at hle
      replace hlen := Lib.hid hlen
      replace hn := Lib.hid hn
      clear hd
      cases hm : (cutC 47 u.toList).2.2
      · have hno := hE0 hm
        obtain rfl := hl0 hm
        clear hl1 hl0 hE1 hE0 hfrom
        replace hm := Lib.hid hm
        rcases hor with ⟨h0, hne, hp⟩ | hne
        all_goals
          go_wp2_with ((with_reducible refine (spaceR_any _ _).mono ?_); rintro e w' ⟨rfl, rfl⟩)
          refine (hfd.out _).mono ?_
          rintro e w' ⟨rfl, rfl⟩
          go_wp2_with fail
          go_ret2
          exact ⟨⟨#[]⟩, by rw [hno.out]; rfl, Lib.hid (by rw [hno.out]; exact e0.out), hB⟩
      · have hE := hE1 hm
        have hlt := hl1 hm
        have hF := hfrom hm
        clear hl1 hl0 hE1 hE0 hfrom
        replace hm := Lib.hid hm
        have hneq : ((n : Int) == (u.size : Int)) = false := by rw [beq_eq_false_iff_ne]; omega
        have hn1 : (n : Int) ≤ (u.size : Int) := by omega
        have hn2 : (n : Int) + 1 ≤ (u.size : Int) := by omega
        rw [← hupto.out, ← hF.out] at hE
        clear hupto hF
        have hz1 : (u.extract 0 n).size ≤ 1000000 := by rw [ByteArray.size_extract]; omega
        have hz2 : (u.extract (n + 1) u.size).size ≤ 1000000 := by rw [ByteArray.size_extract]; omega
        obtain ⟨A, hA⟩ : ∃ A, u.extract 0 n = A := ⟨_, rfl⟩
        obtain ⟨Bb, hBb⟩ : ∃ B, u.extract (n + 1) u.size = B := ⟨_, rfl⟩
        rw [hA] at hE hz1
        rw [hBb] at hE hz2
        have hfd2 := Lib.hid (fun w => findR_any Bb 59 w (by omega))
        have hle2 := cutC_le 59 Bb.toList
        rw [size_toList] at hle2
        have hupto2 : Hid ((Bb.extract 0 (cutC 59 Bb.toList).1.length).toList = (cutC 59 Bb.toList).1) := Lib.hid (by rw [toList_upto, cutC_take])
        rw [← hupto2.out] at hE
        obtain ⟨m, hm2⟩ : ∃ m, (cutC 59 Bb.toList).1.length = m := ⟨_, rfl⟩
        rw [hm2] at hfd2 hle2 hE
        clear hupto2
        replace hm2 := Lib.hid hm2
        have hm1 : (m : Int) ≤ (Bb.size : Int) := by omega
        obtain ⟨C, hC⟩ : ∃ C, Bb.extract 0 m = C := ⟨_, rfl⟩
        have hz3 : C.size ≤ 1000000 := by rw [← hC, ByteArray.size_extract]; omega
        rw [hC] at hE
        rcases hor with ⟨h0, hne, hp⟩ | hne
        all_goals
          go_wp2_with ((with_reducible refine (spaceR_any _ _).mono ?_); rintro e w' ⟨rfl, rfl⟩)
          refine (hfd.out _).mono ?_
          rintro e w' ⟨rfl, rfl⟩
          go_wp2_with fail
          refine (hfd2.out _).mono ?_
          rintro e w' ⟨rfl, rfl⟩
          go_wp2_with fail
          refine (behindR_any C _ (by omega)).mono ?_
          rintro e w' ⟨D, rfl, hD, hDz, rfl⟩
          rw [← hD.out] at hE
          clear hD
          have hA' := Lib.hid hA
          have hB' := Lib.hid hBb
          have hC' := Lib.hid hC
          clear hA hBb hC
          have htA := Lib.hid (fun w => tokenR_any A w (by omega))
          have htD := Lib.hid (fun w => tokenR_any D w (by omega))
          have hlA := Lib.hid (fun w => lowerr_any A w (by omega))
          have hlD := Lib.hid (fun w => lowerr_any D w (by omega))
          obtain ⟨qa, hqa⟩ : ∃ q, tokB A.toList = q := ⟨_, rfl⟩
          obtain ⟨qd, hqd⟩ : ∃ q, tokB D.toList = q := ⟨_, rfl⟩
          rw [hqa] at htA hE
          rw [hqd] at htD hE
          replace hqa := Lib.hid hqa
          replace hqd := Lib.hid hqd
          cases qa
          · have hno : Hid (essL s.toList = none) := Lib.hid (by rw [hE.out]; simp)
            go_wp2_with fail
            refine (htA.out _).mono ?_
            rintro e w2 ⟨rfl, hb⟩
            have hB2 := hB.next hb
            clear hb
            go_wp2_with fail
            go_ret2
            exact ⟨⟨#[]⟩, by rw [hno.out]; rfl, Lib.hid (by rw [hno.out]; exact e0.out), hB2⟩
          cases qd
          · have hno : Hid (essL s.toList = none) := Lib.hid (by rw [hE.out]; simp)
            go_wp2_with fail
            refine (htA.out _).mono ?_
            rintro e w2 ⟨rfl, hb⟩
            have hB2 := hB.next hb
            clear hb
            go_wp2_with fail
            refine (htD.out _).mono ?_
            rintro e w3 ⟨rfl, hb⟩
            have hB3 := hB2.next hb
            clear hb
            go_wp2_with fail
            go_ret2
            exact ⟨⟨#[]⟩, by rw [hno.out]; rfl, Lib.hid (by rw [hno.out]; exact e0.out), hB3⟩
          · have hyes : Hid (essL s.toList = some (lowerL A.toList ++ 47 :: lowerL D.toList)) := Lib.hid (by rw [hE.out]; simp)
            go_wp2_with fail
            refine (htA.out _).mono ?_
            rintro e w2 ⟨rfl, hb⟩
            have hB2 := hB.next hb
            clear hb
            go_wp2_with fail
            refine (htD.out _).mono ?_
            rintro e w3 ⟨rfl, hb⟩
            have hB3 := hB2.next hb
            clear hb
            go_wp2_with fail
            refine (hlA.out _).mono ?_
            rintro e w4 ⟨x1, rfl, hx1, hb⟩
            have hx1z : x1.size ≤ 1000000 := by rw [← size_toList, hx1.out, lowerL_len, size_toList]; exact hz1
            have hB4 := hB3.next hb
            clear hb
            go_wp2_with fail
            refine (hlD.out _).mono ?_
            rintro e w5 ⟨x2, rfl, hx2, hb⟩
            have hB5 := hB4.next hb
            clear hb
            have hx2z : x2.size ≤ 1000000 := by rw [← size_toList, hx2.out, lowerL_len, size_toList]; omega
            have b1 : Hid ((ByteArray.mk #[47]).toList = [47]) := Lib.hid (toList_mk _)
            go_wp2_with fail
            go_ret2
            exact ⟨x1 ++ ⟨#[47]⟩ ++ x2, by rw [hyes.out]; rfl, Lib.hid (by rw [hyes.out, toList_append, toList_append, hx1.out, hx2.out, b1.out]; simp), hB5⟩
set_option maxRecDepth 100000 in
set_option maxHeartbeats 2000000 in
theorem bareR_any (s : ByteArray) (w : World) (hs : s.size ≤ 1000000) :
    Calls Tryd.prog 33 #[.string s] w (RetS w (bareL s.toList)) := by
  have hB : Below w.heap.size w w := Below.refl _ _
  have hlen := size_toList s
  by_cases h7 : s.size < 7
  · have hV : Hid (s.toList = bareL s.toList) := Lib.hid (by
      unfold bareL
      split
      · rename_i h
        have : s.toList.length - 6 = 0 := by omega
        rw [this, List.take_zero, if_neg (by unfold rdropZ dropZ; simp)]
      · rfl)
    have hI : (s.size : Int) < 7 := by omega
    replace hlen := Lib.hid hlen
    go_enter Tryd.func33, Tryd.ntmps33
    go_wp2_with fail
    go_ret
    exact retS hV.out hB
  obtain ⟨k, hk⟩ : ∃ k, s.size = k + 6 := ⟨s.size - 6, by omega⟩
  have hI : (7 : Int) ≤ (s.size : Int) := by omega
  have hkI : (s.size : Int) - 6 = (k : Int) := by omega
  have hk1 : (k : Int) ≤ (s.size : Int) := by omega
  have hV : Hid (bareL s.toList = if lowerL (s.toList.drop k) = base64L then (if (rdropZ sp20 (s.toList.take k)).getLast? = some 59 then (rdropZ sp20 (s.toList.take k)).dropLast else s.toList) else s.toList) := Lib.hid (by
    unfold bareL
    have e : s.toList.length - 6 = k := by omega
    rw [e]
    by_cases h : lowerL (s.toList.drop k) = base64L
    · rw [if_pos ⟨by omega, h⟩, if_pos h]
    · rw [if_neg (fun x => h x.2), if_neg h])
  obtain ⟨T, hT⟩ : ∃ T, s.extract k s.size = T := ⟨_, rfl⟩
  have hTl : Hid (T.toList = s.toList.drop k) := Lib.hid (by rw [← hT, toList_from])
  have hTz : T.size ≤ 6 := by rw [← hT, ByteArray.size_extract]; omega
  replace hlen := Lib.hid hlen
  replace hk := Lib.hid hk
  go_enter Tryd.func33, Tryd.ntmps33
  go_wp2_with fail
  replace hT := Lib.hid hT
  refine (lowerr_any T _ (by omega)).mono ?_
  rintro e w1 ⟨x, rfl, hx, hb⟩
  replace hB := hB.next hb
  clear hb
  by_cases hq : x.toList = base64L
  · have hqb : (x.toList == [98, 97, 115, 101, 54, 52]) = true := by simpa [base64L] using hq
    have hqn : (x.toList != [98, 97, 115, 101, 54, 52]) = false := by simpa [base64L] using hq
    have hW : Hid (bareL s.toList = if (rdropZ sp20 (s.toList.take k)).getLast? = some 59 then (rdropZ sp20 (s.toList.take k)).dropLast else s.toList) := Lib.hid (by
      rw [hV.out, if_pos (by rw [← hTl.out, ← hx.out]; exact hq)])
    replace hq := Lib.hid hq
    go_wp2_with fail
    go_loop [4] (fun iv => ∃ j : Nat, iv = .int .i64 j ∧ j ≤ k ∧ Hid (rdropZ sp20 (s.toList.take j) = rdropZ sp20 (s.toList.take k))) (fun iv => (intOf iv).toNat)
    case atStart => exact ⟨k, rfl, Nat.le_refl _, Lib.hid rfl⟩
    case round =>
      obtain ⟨j, rfl, hj, hr⟩ := hrel
      by_cases h0 : j = 0
      · subst h0
        have hfin : Hid (s.toList = bareL s.toList) := Lib.hid (by
          rw [hW.out, ← hr.out, List.take_zero, if_neg (by unfold rdropZ dropZ; simp)])
        clear hr
        go_wp2_with fail
        go_ret
        exact retS hfin.out hB
      · obtain ⟨i, rfl⟩ : ∃ i, j = i + 1 := ⟨j - 1, by omega⟩
        have hiz : i < s.size := by have := hk.out; omega
        have hsn := take_snoc s i hiz
        have hi0 : (0 : Int) ≤ (i : Int) := by omega
        have hi1 : (i : Int) < (s.size : Int) := by omega
        have hi2 : (0 : Int) < (i : Int) + 1 := by omega
        by_cases h32 : s[i] = 32
        · have q : ((s[i].toNat : Int) == 32) = true := by rw [h32]; rfl
          have hnew : Hid (rdropZ sp20 (s.toList.take i) = rdropZ sp20 (s.toList.take k)) := Lib.hid (by
            rw [← hr.out, hsn, rdropZ_yes (by rw [h32]; rfl)])
          replace hsn := Lib.hid hsn
          replace h32 := Lib.hid h32
          go_wp2_with fail
          go_round
          case rel => exact ⟨i, rfl, by omega, hnew⟩
          case measure => simp [intOf]
        · have q : ((s[i].toNat : Int) == 32) = false := (u8q (d := 32)).2 h32
          have hR : rdropZ sp20 (s.toList.take k) = s.toList.take i ++ [s[i]] := by
            rw [← hr.out, hsn, rdropZ_no (by unfold sp20; rw [decide_eq_false_iff_not]; intro x; rw [x] at q; exact absurd q (by decide))]
          have hlast : (s.toList.take i ++ [s[i]]).getLast? = some s[i] := by rw [List.getLast?_append]; rfl
          clear hr
          by_cases h59 : s[i] = 59
          · have q2 : ((s[i].toNat : Int) == 59) = true := by rw [h59]; rfl
            have hfin : Hid ((s.extract 0 i).toList = bareL s.toList) := Lib.hid (by
              rw [hW.out, hR, hlast, h59, if_pos rfl, List.dropLast_concat, toList_upto])
            clear hR hlast
            replace hsn := Lib.hid hsn
            replace h32 := Lib.hid h32
            replace h59 := Lib.hid h59
            go_wp2_with fail
            go_ret
            exact retS hfin.out hB
          · have q2 : ((s[i].toNat : Int) == 59) = false := (u8q (d := 59)).2 h59
            have hfin : Hid (s.toList = bareL s.toList) := Lib.hid (by
              rw [hW.out, hR, hlast, if_neg (fun x => h59 (Option.some.inj x))])
            clear hR hlast
            replace hsn := Lib.hid hsn
            replace h32 := Lib.hid h32
            replace h59 := Lib.hid h59
            go_wp2_with fail
            go_ret
            exact retS hfin.out hB
  · have hqb : (x.toList == [98, 97, 115, 101, 54, 52]) = false := by simpa [base64L] using hq
    have hqn : (x.toList != [98, 97, 115, 101, 54, 52]) = true := by simpa [base64L] using hq
    have hno : Hid (s.toList = bareL s.toList) := Lib.hid (by
      rw [hV.out, if_neg (by rw [← hTl.out, ← hx.out]; exact hq)])
    replace hq := Lib.hid hq
    go_wp2_with fail
    go_ret
    exact retS hno.out hB
end Go.Proofs.YtdlgpmihjecdlaaDoor
