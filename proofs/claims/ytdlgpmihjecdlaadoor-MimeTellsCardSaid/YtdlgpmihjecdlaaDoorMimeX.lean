/- The contract of the reference's Data. -/
import Derived.Test.YtdlgpmihjecdlaaDoorMimeW
import Derived.Test.YtdlgpmihjecdlaaDoorMimeD
import Derived.Test.YtdlgpmihjecdlaaDoorRef13
namespace Go.Proofs.YtdlgpmihjecdlaaDoor
open Go.RowKit
set_option linter.unusedVariables false
set_option linter.unusedSimpArgs false

set_option maxRecDepth 100000 in
set_option maxHeartbeats 4000000 in
theorem dataR_any (u : UrlS) (w : World) (hp : PathIn w u) (fit : UrlFit u) (hz : (writeX u false).length ≤ 900000) :
    Calls Tryd.prog 13 #[.agg (urlC u)] w (RetE w (dataU u)) := by
  have hB : Below w.heap.size w (w.alloc (.cells (urlC u) 29)) := (Below.refl _ _).alloc (Nat.le_refl _) _
  have hblk := Lib.hid (heap_alloc_new w (.cells (urlC u) 29))
  have x0 : (w.alloc (.cells (urlC u) 29)).cell? ⟨w.heap.size, 0, none⟩ = some (.string u.scheme) := (World.cell?_alloc_at _ _ _ _ rfl).trans rfl
  have e0 : (ByteArray.mk #[]).toList = [] := toList_mk []
  have hp1 := hp.below hB (Nat.le_refl _)
  by_cases hd : u.scheme.toList = dataW
  · have hdI : (u.scheme.toList == [100, 97, 116, 97]) = true := by rw [hd]; rfl
    have hdN : (u.scheme.toList != [100, 97, 116, 97]) = false := by rw [hd]; rfl
    have hV : Hid (dataU u = dataL (writeX u false)) := Lib.hid (by unfold dataU; rw [if_pos hd])
    obtain ⟨r, hr⟩ := writeX_data hd
    replace hd := Lib.hid hd
    replace e0 := Lib.hid e0
    have hwr := Lib.hid (writeR_any u false _ hp1 fit)
    go_enter Tryd.func13, Tryd.ntmps13
    go_wp2_with (refine wpList_load_row rfl 29 _ rfl w.heap.size rfl _ (urlC u) _ _ hblk.out Tryd.underlying29 rfl urlInfo ?_)
    refine hwr.out.mono ?_
    rintro e w2 ⟨t, rfl, htx, hb⟩
    replace hB := hB.next hb
    clear hb x0 hblk hwr
    have htz : t.size ≤ 900000 := by rw [← size_toList, htx.out]; exact hz
    have hrl : r.length + 5 = t.size := by rw [← size_toList, htx.out, hr, List.length_append]; simp; omega
    have h5 : (5 : Int) ≤ (t.size : Int) := by omega
    obtain ⟨T, hT⟩ : ∃ T, t.extract 5 t.size = T := ⟨_, rfl⟩
    have hTl : T.toList = r := by rw [← hT, toList_from, htx.out, hr]; rfl
    have hTz : T.size ≤ 900000 := by rw [← hT, ByteArray.size_extract]; omega
    have hD : Hid (dataU u = if (cutC 44 T.toList).2.2 = true then some (typeL (cutC 44 T.toList).1) else none) := Lib.hid (by rw [hV.out, hr, hTl]; rfl)
    replace hr := Lib.hid hr
    replace hrl := Lib.hid hrl
    replace hTl := Lib.hid hTl
    clear hV htx
    have hlen := size_toList T
    have hfd := Lib.hid (fun w => findR_any T 44 w (by omega))
    have hle := cutC_le 44 T.toList
    have hupto : Hid ((T.extract 0 (cutC 44 T.toList).1.length).toList = (cutC 44 T.toList).1) := Lib.hid (by rw [toList_upto, cutC_take])
    have hl1 : (cutC 44 T.toList).2.2 = true → (cutC 44 T.toList).1.length < T.size := fun h => by rw [← hlen]; exact cutC_size1 h
    have hl0 : (cutC 44 T.toList).2.2 = false → (cutC 44 T.toList).1.length = T.size := fun h => by rw [← hlen]; exact cutC_size0 h
    obtain ⟨n, hn⟩ : ∃ n, (cutC 44 T.toList).1.length = n := ⟨_, rfl⟩
    rw [hn] at hle hfd hupto hl1 hl0
    rw [hlen] at hle
    replace hlen := Lib.hid hlen
    replace hn := Lib.hid hn
    cases hm : (cutC 44 T.toList).2.2
    · have hno : Hid (dataU u = none) := Lib.hid (by rw [hD.out, if_neg (by rw [hm]; decide)])
      have hq : ((n : Int) == (T.size : Int)) = true := by rw [hl0 hm]; simp
      clear hl1 hl0 hupto
      replace hm := Lib.hid hm
      go_wp2_with fail
      refine (hfd.out _).mono ?_
      rintro e w' ⟨rfl, rfl⟩
      go_wp2_with fail
      go_ret2
      exact ⟨⟨#[]⟩, by rw [hno.out]; rfl, Lib.hid (by rw [hno.out]; exact e0.out), hB⟩
    · obtain ⟨H, hH⟩ : ∃ H, T.extract 0 n = H := ⟨_, rfl⟩
      have hHz : H.size ≤ 900000 := by rw [← hH, ByteArray.size_extract]; omega
      rw [hH] at hupto
      have hyes : Hid (dataU u = some (typeL H.toList)) := Lib.hid (by rw [hD.out, if_pos hm, hupto.out])
      have hq : ((n : Int) == (T.size : Int)) = false := by have := hl1 hm; rw [beq_eq_false_iff_ne]; omega
      have hn1 : (n : Int) ≤ (T.size : Int) := by omega
      clear hl1 hl0 hD hupto
      replace hm := Lib.hid hm
      go_wp2_with fail
      refine (hfd.out _).mono ?_
      rintro e w' ⟨rfl, rfl⟩
      go_wp2_with fail
      refine (stripr_any H _ (by omega)).mono ?_
      rintro e w5 ⟨ts, rfl, hts, hb⟩
      have hB3 := hB.next hb
      have htsz : ts.size ≤ 900000 := by
        rw [← size_toList, hts.out]
        have := strip_len H.toList
        rw [size_toList] at this; omega
      clear hb hB
      go_wp2_with fail
      refine (bareR_any ts _ (by omega)).mono ?_
      rintro e w6 ⟨tq, rfl, htq, hb⟩
      have hB4 := hB3.next hb
      have htqz : tq.size ≤ 900000 := by
        rw [← size_toList, htq.out]
        have := bareL_len ts.toList
        rw [size_toList] at this; omega
      have hty : Hid (typeL H.toList = (essL (if tq.toList.head? = some 59 then plainL ++ tq.toList else tq.toList)).getD plainL) := Lib.hid (by
        unfold typeL; rw [htq.out, hts.out])
      clear hb hB3 hts htq
      have hplain : (ByteArray.mk #[116, 101, 120, 116, 47, 112, 108, 97, 105, 110]).toList = plainL := toList_mk _
      obtain ⟨tx, htx, htxz, hway⟩ : ∃ tx : ByteArray, Hid (typeL H.toList = (essL tx.toList).getD plainL) ∧ tx.size ≤ 900010 ∧
          ((tq.toList.isEmpty = true ∧ tx = tq) ∨ (∃ h : 0 < tq.size, (!tq.toList.isEmpty) = true ∧ ((tq[0].toNat : Int) == 59) = true ∧ tx = ⟨#[116, 101, 120, 116, 47, 112, 108, 97, 105, 110]⟩ ++ tq) ∨ (∃ h : 0 < tq.size, (!tq.toList.isEmpty) = true ∧ ((tq[0].toNat : Int) == 59) = false ∧ tx = tq)) := by
        by_cases h0 : 0 < tq.size
        · have he := extract1 tq h0
          by_cases h : tq[0] = 59
          · refine ⟨⟨#[116, 101, 120, 116, 47, 112, 108, 97, 105, 110]⟩ ++ tq, Lib.hid ?_, ?_, .inr (.inl ⟨h0, by rw [he]; rfl, by rw [h]; rfl, rfl⟩)⟩
            · rw [hty.out, if_pos (by rw [he, h]; rfl), toList_append, hplain]
            · rw [ByteArray.size_append]; show 10 + tq.size ≤ _; omega
          · refine ⟨tq, Lib.hid ?_, by omega, .inr (.inr ⟨h0, by rw [he]; rfl, (u8q (d := 59)).2 h, rfl⟩)⟩
            rw [hty.out, if_neg (by rw [he]; exact fun x => h (Option.some.inj x))]
        · have he := (toList_empty_iff tq).2 (by omega)
          exact ⟨tq, Lib.hid (by rw [hty.out, he]; rfl), by omega, .inl ⟨by rw [he]; rfl, rfl⟩⟩
      replace hplain := Lib.hid hplain
      clear hty
      obtain ⟨o, ho⟩ : ∃ o, essL tx.toList = o := ⟨_, rfl⟩
      have hes := Lib.hid (fun w => ho ▸ essenceR_any tx w (by omega))
      have hfin : Hid (dataU u = some (o.getD plainL)) := Lib.hid (by rw [hyes.out, htx.out, ho])
      replace ho := Lib.hid ho
      rcases hway with ⟨q1, rfl⟩ | ⟨h0, q1, q2, rfl⟩ | ⟨h0, q1, q2, rfl⟩
      all_goals
        go_wp2_with fail
        refine (hes.out _).mono ?_
        rintro e w8 ⟨tr, rfl, htr, hb⟩
        have hB5 := hB4.next hb
        clear hb hes
        cases o with
        | none =>
          go_wp2_with fail
          go_ret2
          exact ⟨⟨#[116, 101, 120, 116, 47, 112, 108, 97, 105, 110]⟩, by rw [hfin.out]; rfl, Lib.hid (by rw [hfin.out]; exact hplain.out), hB5⟩
        | some l =>
          go_wp2_with fail
          go_ret2
          exact ⟨tr, by rw [hfin.out]; rfl, Lib.hid (by rw [hfin.out]; exact htr.out), hB5⟩
  · have hdI : (u.scheme.toList == [100, 97, 116, 97]) = false := by simpa [dataW] using hd
    have hdN : (u.scheme.toList != [100, 97, 116, 97]) = true := by simpa [dataW] using hd
    have hno : Hid (dataU u = none) := Lib.hid (by unfold dataU; rw [if_neg hd])
    replace hd := Lib.hid hd
    go_enter Tryd.func13, Tryd.ntmps13
    go_wp2_with fail
    go_ret2
    exact ⟨⟨#[]⟩, by rw [hno.out]; rfl, Lib.hid (by rw [hno.out]; exact e0), hB⟩
end Go.Proofs.YtdlgpmihjecdlaaDoor
