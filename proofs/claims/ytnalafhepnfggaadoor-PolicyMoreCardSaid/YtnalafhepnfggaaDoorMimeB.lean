/- The contracts of mime.Essence, mime.bare. -/
import Derived.Test.YtnalafhepnfggaaDoorMimeA
namespace Go.Proofs.YtnalafhepnfggaaDoor
open Go.RowKit
set_option linter.unusedVariables false
set_option linter.unusedSimpArgs false

/-- A text, and whether there is one. -/
def RetE (w : World) (o : Option (List UInt8)) (e : Ending) (w' : World) : Prop :=
  ∃ t : ByteArray, e = .returned (.tuple #[.string t, .bool o.isSome]) ∧ Hid (t.toList = o.getD []) ∧ Below w.heap.size w w'
theorem trimSp_any (s : ByteArray) (w : World) (hs : s.size ≤ 1099511627776) :
    Calls Tryd.prog 45 #[.string s, .string ⟨#[9, 10, 13, 32]⟩] w (RetS w (dropZ spZ (rdropZ spZ s.toList))) :=
  (Any.strings_Trim_laid Tryd.lays160 (by kernel_rfl) s ⟨#[9, 10, 13, 32]⟩ w (by omega) (by decide) (ascii_of_all (by decide))).mono (by
    rintro e w' ⟨rfl, hb⟩
    exact retS_mk (by rw [← ByteArray.toList_eq]; exact trimS_sp _) hb)
theorem trimRightSp_any (s : ByteArray) (w : World) (hs : s.size ≤ 1099511627776) :
    Calls Tryd.prog 41 #[.string s, .string ⟨#[9, 10, 13, 32]⟩] w (RetS w (rdropZ spZ s.toList)) :=
  (Any.strings_TrimRight_laid Tryd.lays162 (by kernel_rfl) s ⟨#[9, 10, 13, 32]⟩ w (by omega) (by decide) (ascii_of_all (by decide))).mono (by
    rintro e w' ⟨rfl, hb⟩
    exact retS_mk (by rw [← ByteArray.toList_eq]; exact trimRightS_sp _) hb)
theorem rdropZ_len (p : Int → Bool) (l : List UInt8) : (rdropZ p l).length ≤ l.length := by
  unfold rdropZ dropZ
  rw [List.length_reverse]
  exact Nat.le_trans (List.dropWhile_sublist _).length_le (by rw [List.length_reverse]; exact Nat.le_refl _)
theorem dropZ_len (p : Int → Bool) (l : List UInt8) : (dropZ p l).length ≤ l.length := (List.dropWhile_sublist _).length_le
set_option maxRecDepth 100000 in
set_option maxHeartbeats 2000000 in
theorem essence_any (s : ByteArray) (w : World) (hm : ML w) (hs : s.size ≤ 1000000) :
    Calls Tryd.prog 26 #[.string s] w (RetE w (essL s.toList)) := by
  have hB : Below w.heap.size w w := Below.refl _ _
  have e0 : (ByteArray.mk #[]).toList = [] := toList_mk []
  go_enter Tryd.func26, Tryd.ntmps26
  go_wp2_with fail
  refine (trimSp_any s _ (by omega)).mono ?_
  rintro e w1 ⟨t, rfl, ht, hb⟩
  replace hB := hB.next hb
  clear hb
  have htz : t.size ≤ 1000000 := by
    rw [← size_toList, ht.out]
    have h1 := dropZ_len spZ (rdropZ spZ s.toList)
    have h2 := rdropZ_len spZ s.toList
    rw [size_toList] at h2; omega
  have hE : Hid (essL s.toList = essT t.toList) := Lib.hid (by rw [ht.out]; rfl)
  clear ht
  have hct := Lib.hid (fun w hm => cut_any t 47 w hm (by omega))
  have hl := cutC_len 47 t.toList
  rw [size_toList] at hl
  go_wp2_with fail
  refine (hct.out _ (hm.next hB)).mono ?_
  rintro e w2 ⟨ta, tb, nd, rfl, h1, h2, hw⟩
  have hB2 : Below w.heap.size w w2 := by rw [hw]; exact below_drewN hB nd
  have haz : ta.size ≤ 1000000 := by rw [← size_toList, h1.out]; omega
  have hbz : tb.size ≤ 1000000 := by rw [← size_toList, h2.out]; omega
  obtain ⟨mo, hmo⟩ : ∃ mo, (cutC 47 t.toList).2.2 = mo := ⟨_, rfl⟩
  rw [hmo]
  clear hw hB hl hct
  cases mo
  · have hno : Hid (essL s.toList = none) := Lib.hid (by rw [hE.out]; unfold essT; rw [if_pos hmo])
    replace hmo := Lib.hid hmo
    go_wp2_with fail
    go_ret2
    exact ⟨⟨#[]⟩, by rw [hno.out]; rfl, Lib.hid (by rw [hno.out]; exact e0), hB2⟩
  · have hT : Hid (essL s.toList = if tokB ta.toList = true ∧ tokB (rdropZ spZ (cutC 59 tb.toList).1) = true then some (lowerL ta.toList ++ 47 :: lowerL (rdropZ spZ (cutC 59 tb.toList).1)) else none) := Lib.hid (by
      rw [hE.out]; unfold essT; rw [if_neg (by rw [hmo]; decide), h1.out, h2.out])
    replace hmo := Lib.hid hmo
    clear hE
    have hct := Lib.hid (fun w hm => cut_any tb 59 w hm (by omega))
    have hl := cutC_len 59 tb.toList
    rw [size_toList] at hl
    go_wp2_with fail
    refine (hct.out _ (hm.next hB2)).mono ?_
    rintro e w3 ⟨tc, td, nd2, rfl, h3, h4, hw⟩
    have hB3 : Below w.heap.size w w3 := by rw [hw]; exact below_drewN hB2 nd2
    have hcz : tc.size ≤ 1000000 := by rw [← size_toList, h3.out]; omega
    rw [← h3.out] at hT
    clear hw hB2 hl hct
    go_wp2_with fail
    refine (trimRightSp_any tc _ (by omega)).mono ?_
    rintro e w4 ⟨te, rfl, hte, hb⟩
    have hB4 := hB3.next hb
    have hez : te.size ≤ 1000000 := by
      rw [← size_toList, hte.out]
      have := rdropZ_len spZ tc.toList
      rw [size_toList] at this; omega
    rw [← hte.out] at hT
    clear hb hB3 h1 h2 h3 h4 hte
    have htkA := Lib.hid (fun w => token_any ta w (by omega))
    have htkB := Lib.hid (fun w => token_any te w (by omega))
    cases qa : tokB ta.toList
    · have hno : Hid (essL s.toList = none) := Lib.hid (by rw [hT.out, qa]; simp)
      rw [qa] at htkA
      replace qa := Lib.hid qa
      go_wp2_with (first | (go_at_call 46; refine (htkA.out _).mono ?_; rintro e w' ⟨rfl, rfl⟩))
      go_ret2
      exact ⟨⟨#[]⟩, by rw [hno.out]; rfl, Lib.hid (by rw [hno.out]; exact e0), hB4⟩
    cases qb : tokB te.toList
    · have hno : Hid (essL s.toList = none) := Lib.hid (by rw [hT.out, qb]; simp)
      rw [qa] at htkA
      rw [qb] at htkB
      replace qa := Lib.hid qa
      replace qb := Lib.hid qb
      go_wp2_with fail
      refine (htkA.out _).mono ?_
      rintro e w' ⟨rfl, rfl⟩
      go_wp2_with fail
      refine (htkB.out _).mono ?_
      rintro e w' ⟨rfl, rfl⟩
      go_wp2_with fail
      go_ret2
      exact ⟨⟨#[]⟩, by rw [hno.out]; rfl, Lib.hid (by rw [hno.out]; exact e0), hB4⟩
    · have hyes : Hid (essL s.toList = some (lowerL ta.toList ++ 47 :: lowerL te.toList)) := Lib.hid (by rw [hT.out, qa, qb]; simp)
      rw [qa] at htkA
      rw [qb] at htkB
      replace qa := Lib.hid qa
      replace qb := Lib.hid qb
      go_wp2_with fail
      refine (htkA.out _).mono ?_
      rintro e w' ⟨rfl, rfl⟩
      go_wp2_with fail
      refine (htkB.out _).mono ?_
      rintro e w' ⟨rfl, rfl⟩
      go_wp2_with fail
      refine (lower_any ta _ (by omega)).mono ?_
      rintro e w5 ⟨la, rfl, hla, hb⟩
      have hB5 := hB4.next hb
      have hlaz : la.size ≤ 1000000 := by rw [← size_toList, hla.out]; unfold lowerL; rw [List.length_map, size_toList]; omega
      clear hb hB4
      go_wp2_with fail
      refine (lower_any te _ (by omega)).mono ?_
      rintro e w6 ⟨lb, rfl, hlb, hb⟩
      have hB6 := hB5.next hb
      have hlbz : lb.size ≤ 1000000 := by rw [← size_toList, hlb.out]; unfold lowerL; rw [List.length_map, size_toList]; omega
      clear hb hB5
      go_wp2_with fail
      go_ret2
      exact ⟨la ++ ⟨#[47]⟩ ++ lb, by rw [hyes.out]; rfl, Lib.hid (by rw [hyes.out, toList_append, toList_append, hla.out, hlb.out, show (ByteArray.mk #[47]).toList = [47] from toList_mk _]; simp), hB6⟩
end Go.Proofs.YtnalafhepnfggaaDoor
