/- The contract of mime.Data. -/
import Derived.Test.YtnalafhepnfggaaDoorMimeC
import Derived.Test.YtnalafhepnfggaaDoorSerialW
namespace Go.Proofs.YtnalafhepnfggaaDoor
open Go.RowKit
set_option linter.unusedVariables false
set_option linter.unusedSimpArgs false

def dataW : List UInt8 := [100, 97, 116, 97]
/-- The type of the data of an address. -/
def dataU (u : UrlS) : Option (List UInt8) := if u.scheme.toList = dataW then dataL (writeX u false) else none
theorem writeX_data {u : UrlS} (h : u.scheme.toList = dataW) : ∃ r, writeX u false = [100, 97, 116, 97, 58] ++ r := by
  unfold writeX
  rw [h]
  exact ⟨aheadX u ++ pathX u ++ optB u.hasQuery ([63] ++ u.query.toList) ++ optB (u.hasFrag && false) ([35] ++ u.frag.toList), by simp [dataW]⟩
theorem cut_data (r : List UInt8) : cutC 44 ([100, 97, 116, 97, 58] ++ r) = ([100, 97, 116, 97, 58] ++ (cutC 44 r).1, (cutC 44 r).2.1, (cutC 44 r).2.2) := by
  show cutC 44 (100 :: 97 :: 116 :: 97 :: 58 :: r) = _
  rw [cutC, if_neg (by decide), cutC, if_neg (by decide), cutC, if_neg (by decide), cutC, if_neg (by decide), cutC, if_neg (by decide)]
  rfl
theorem trimPrefix_data (r : List UInt8) : Lib.trimPrefix ([100, 97, 116, 97, 58] ++ r) [100, 97, 116, 97, 58] = r := by
  unfold Lib.trimPrefix Lib.hasPrefix
  rw [if_pos (by simp [List.isPrefixOf])]
  rfl
theorem hasPrefix_one (l : List UInt8) (c : UInt8) : Lib.hasPrefix l [c] = decide (l.head? = some c) := by
  unfold Lib.hasPrefix
  cases l with
  | nil => rfl
  | cons d r =>
    show (c == d && true) = decide (some d = some c)
    rw [Bool.and_true, Bool.eq_iff_iff, beq_iff_eq, decide_eq_true_iff]
    exact ⟨fun h => by rw [h], fun h => (Option.some.inj h).symm⟩
theorem strip_len (l : List UInt8) : (stripL l).length ≤ l.length := Nat.le_trans (rdropZ_len _ _) (dropZ_len _ _)
set_option maxRecDepth 100000 in
set_option maxHeartbeats 4000000 in
theorem data_any (u : UrlS) (w : World) (hp : PathIn w u) (fit : UrlFit u) (hz : (writeX u false).length ≤ 900000) (ht : Tabs w) (hm : ML w) :
    Calls Tryd.prog 14 #[.agg (urlC u)] w (RetE w (dataU u)) := by
  have hB : Below w.heap.size w (w.alloc (.cells (urlC u) 31)) := (Below.refl _ _).alloc (Nat.le_refl _) _
  have hblk := Lib.hid (heap_alloc_new w (.cells (urlC u) 31))
  have x0 : (w.alloc (.cells (urlC u) 31)).cell? ⟨w.heap.size, 0, none⟩ = some (.string u.scheme) := (World.cell?_alloc_at _ _ _ _ rfl).trans rfl
  have e0 : (ByteArray.mk #[]).toList = [] := toList_mk []
  have hp1 := hp.below hB (Nat.le_refl _)
  by_cases hd : u.scheme.toList = dataW
  · have hdI : (u.scheme.toList == [100, 97, 116, 97]) = true := by rw [hd]; rfl
    have hV : Hid (dataU u = dataL (writeX u false)) := Lib.hid (by unfold dataU; rw [if_pos hd])
    obtain ⟨r, hr⟩ := writeX_data hd
    replace hd := Lib.hid hd
    have hwr := Lib.hid (write_any u false _ hp1 fit (ht.next hB))
    go_enter Tryd.func14, Tryd.ntmps14
    go_wp2_with (refine wpList_load_row rfl 31 _ rfl w.heap.size rfl _ (urlC u) _ _ hblk.out Tryd.underlying31 rfl urlInfo ?_)
    refine hwr.out.mono ?_
    rintro e w2 ⟨t, rfl, htx, hb⟩
    replace hB := hB.next hb
    clear hb x0 hblk hwr
    have htz : t.size ≤ 900000 := by rw [← size_toList, htx.out]; exact hz
    have hct := Lib.hid (fun w hm => cut_any t 44 w hm (by omega))
    go_wp2_with fail
    refine (hct.out _ (hm.next hB)).mono ?_
    rintro e w3 ⟨ta, tb, nd, rfl, h1, h2, hw⟩
    have hB2 : Below w.heap.size w w3 := by rw [hw]; exact below_drewN hB nd
    have hcut : cutC 44 t.toList = ([100, 97, 116, 97, 58] ++ (cutC 44 r).1, (cutC 44 r).2.1, (cutC 44 r).2.2) := by rw [htx.out, hr]; exact cut_data r
    rw [hcut] at h1 ⊢
    have hD : Hid (dataU u = if (cutC 44 r).2.2 = true then some (typeL (cutC 44 r).1) else none) := Lib.hid (by rw [hV.out, hr]; rfl)
    have hcz : (cutC 44 r).1.length ≤ 900000 := by
      have := cutC_len 44 r
      have h3 := congrArg List.length hr
      simp only [List.length_append, List.length_cons] at h3
      omega
    obtain ⟨mo, hmo⟩ : ∃ mo, (cutC 44 r).2.2 = mo := ⟨_, rfl⟩
    dsimp only at h1 ⊢
    rw [hmo] at hD ⊢
    clear hw hB hct hcut hV htx
    replace hmo := Lib.hid hmo
    replace hr := Lib.hid hr
    cases mo
    · have hno : Hid (dataU u = none) := Lib.hid (by rw [hD.out]; simp)
      go_wp2_with fail
      go_ret2
      exact ⟨⟨#[]⟩, by rw [hno.out]; rfl, Lib.hid (by rw [hno.out]; exact e0), hB2⟩
    · have hyes : Hid (dataU u = some (typeL (cutC 44 r).1)) := Lib.hid (by rw [hD.out]; simp)
      have htp := fun w => Tryd.strings_TrimPrefix ta ⟨#[100, 97, 116, 97, 58]⟩ w
      have etp : Lib.trimPrefix ta.data.toList (ByteArray.mk #[100, 97, 116, 97, 58]).data.toList = (cutC 44 r).1 := by
        rw [← ByteArray.toList_eq, h1.out]; exact trimPrefix_data _
      simp only [etp] at htp
      replace htp := Lib.hid htp
      clear etp hD
      obtain ⟨H, hH⟩ : ∃ H, (cutC 44 r).1 = H := ⟨_, rfl⟩
      rw [hH] at htp hyes hcz
      clear hH h1
      obtain ⟨th, hth⟩ : ∃ q : ByteArray, (⟨H.toArray⟩ : ByteArray) = q := ⟨_, rfl⟩
      rw [hth] at htp
      have hthl : th.toList = H := by rw [← hth]; exact toList_mk _
      have hthz : th.size ≤ 900000 := by rw [← size_toList, hthl]; exact hcz
      rw [← hthl] at hyes
      clear hth hthl hcz
      go_wp2_with fail
      refine (htp.out _).mono ?_
      rintro e w4 ⟨rfl, rfl⟩
      go_wp2_with fail
      refine (strip_any th _ (by omega)).mono ?_
      rintro e w5 ⟨ts, rfl, hts, hb⟩
      have hB3 := hB2.next hb
      have htsz : ts.size ≤ 900000 := by
        rw [← size_toList, hts.out]
        have := strip_len th.toList
        rw [size_toList] at this; omega
      clear hb hB2 htp
      go_wp2_with fail
      refine (bare_any ts _ (by omega)).mono ?_
      rintro e w6 ⟨tq, rfl, htq, hb⟩
      have hB4 := hB3.next hb
      have htqz : tq.size ≤ 900000 := by
        rw [← size_toList, htq.out]
        have := bareL_len ts.toList
        rw [size_toList] at this; omega
      have hty : Hid (typeL th.toList = (essL (if tq.toList.head? = some 59 then plainL ++ tq.toList else tq.toList)).getD plainL) := Lib.hid (by
        unfold typeL; rw [htq.out, hts.out])
      clear hb hB3 hts htq
      have hpf := fun w => Tryd.strings_HasPrefix tq ⟨#[59]⟩ w
      have epf : Lib.hasPrefix tq.data.toList (ByteArray.mk #[59]).data.toList = decide (tq.toList.head? = some 59) := by rw [← ByteArray.toList_eq]; exact hasPrefix_one _ _
      simp only [epf] at hpf
      have hplain : (ByteArray.mk #[116, 101, 120, 116, 47, 112, 108, 97, 105, 110]).toList = plainL := toList_mk _
      obtain ⟨tx, htx, htxz, hway⟩ : ∃ tx : ByteArray, Hid (typeL th.toList = (essL tx.toList).getD plainL) ∧ tx.size ≤ 900010 ∧ ((decide (tq.toList.head? = some 59) = true ∧ tx = ⟨#[116, 101, 120, 116, 47, 112, 108, 97, 105, 110]⟩ ++ tq) ∨ (decide (tq.toList.head? = some 59) = false ∧ tx = tq)) := by
        by_cases h : tq.toList.head? = some 59
        · refine ⟨⟨#[116, 101, 120, 116, 47, 112, 108, 97, 105, 110]⟩ ++ tq, Lib.hid ?_, ?_, .inl ⟨decide_eq_true h, rfl⟩⟩
          · rw [hty.out, if_pos h, toList_append, hplain]
          · rw [ByteArray.size_append]; show 10 + tq.size ≤ _; omega
        · exact ⟨tq, Lib.hid (by rw [hty.out, if_neg h]), by omega, .inr ⟨decide_eq_false h, rfl⟩⟩
      replace hplain := Lib.hid hplain
      clear epf hty
      obtain ⟨o, ho⟩ : ∃ o, essL tx.toList = o := ⟨_, rfl⟩
      have hes := Lib.hid (fun w hm => ho ▸ essence_any tx w hm (by omega))
      have hfin : Hid (dataU u = some (o.getD plainL)) := Lib.hid (by rw [hyes.out, htx.out, ho])
      replace ho := Lib.hid ho
      have hplain2 := hplain
      rcases hway with ⟨q1, rfl⟩ | ⟨q1, rfl⟩
      all_goals
        rw [q1] at hpf
        replace hpf := Lib.hid hpf
        replace q1 := Lib.hid q1
        go_wp2_with fail
        refine (hpf.out _).mono ?_
        rintro e w7 ⟨rfl, rfl⟩
        go_wp2_with fail
        refine (hes.out _ (hm.next hB4)).mono ?_
        rintro e w8 ⟨tr, rfl, htr, hb⟩
        have hB5 := hB4.next hb
        clear hb hes
        cases o with
        | none =>
          go_wp2_with fail
          go_ret2
          exact ⟨⟨#[116, 101, 120, 116, 47, 112, 108, 97, 105, 110]⟩, by rw [hfin.out]; rfl, Lib.hid (by rw [hfin.out]; exact hplain.out), hB5⟩
        | some l =>
          go_wp2_with fail
          go_ret2
          exact ⟨tr, by rw [hfin.out]; rfl, Lib.hid (by rw [hfin.out]; exact htr.out), hB5⟩
  · have hdI : (u.scheme.toList == [100, 97, 116, 97]) = false := by simpa [dataW] using hd
    have hno : Hid (dataU u = none) := Lib.hid (by unfold dataU; rw [if_neg hd])
    replace hd := Lib.hid hd
    go_enter Tryd.func14, Tryd.ntmps14
    go_wp2_with fail
    go_ret2
    exact ⟨⟨#[]⟩, by rw [hno.out]; rfl, Lib.hid (by rw [hno.out]; exact e0), hB⟩
end Go.Proofs.YtnalafhepnfggaaDoor
