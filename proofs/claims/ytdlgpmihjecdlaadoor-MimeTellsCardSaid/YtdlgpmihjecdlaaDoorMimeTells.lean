/- The walk of MimeTells. -/
import Derived.Test.YtdlgpmihjecdlaaDoorMimeX
import Derived.Test.YtdlgpmihjecdlaaDoorMimeCoded
namespace Go.Proofs.YtdlgpmihjecdlaaDoor
open Go.RowKit
set_option linter.unusedVariables false
set_option linter.unusedSimpArgs false

/-- The text of an address of few, and short, pieces is short. -/
theorem writeX_few {w : World} {u : UrlS} (hu : UrlIn w u) (hf : FewP u) (f : Bool) : (writeX u f).length ≤ 9000 := by
  have f1 := hf.scheme
  have f2 := hf.user
  have f3 := hf.pass
  have f4 := hf.flat
  have f5 := hf.query
  have f6 := hf.frag
  have f7 := hf.name
  have f8 := hf.path
  have hw : (whoL u).length ≤ 1002 := by
    unfold whoL; split
    · simp
    · split <;> simp only [List.length_append, List.length_cons, List.length_nil, size_toList] <;> omega
  have hh : (hostL u.host).length ≤ 500 := by
    have h1 := fourL_len u.host.four
    have h2 := sixL_len u.host.six
    unfold hostL; split
    · rw [size_toList]; exact f7
    · split
      · omega
      · split <;> simp <;> omega
  have ha : (aheadX u).length ≤ 1600 := by
    have h3 := itoa_len u.port hu.port.1 hu.port.2
    unfold aheadX portL optB; split
    · split <;> simp
    · split <;> simp <;> omega
  have hp : (pathX u).length ≤ 2050 := by
    unfold pathX; split
    · rw [size_toList]; omega
    · exact f8
  have ho : ∀ (b : Bool) (l : List UInt8) (n : Nat), l.length ≤ n → (optB b l).length ≤ n := by
    intro b l n h; unfold optB; split
    · exact h
    · exact Nat.zero_le _
  have o1 := ho u.hasQuery ([63] ++ u.query.toList) 1001 (by simp only [List.length_append, List.length_cons, List.length_nil, size_toList]; omega)
  have o2 := ho (u.hasFrag && f) ([35] ++ u.frag.toList) 1001 (by simp only [List.length_append, List.length_cons, List.length_nil, size_toList]; omega)
  unfold writeX
  simp only [List.length_append, List.length_cons, List.length_nil, size_toList] at o1 o2 ⊢
  omega
/-- The same text, the same yes. -/
theorem retE_same {t t' : ByteArray} {o : Option (List UInt8)} (h : Hid (t.toList = o.getD [])) (h' : Hid (t'.toList = o.getD [])) : t' = t := eq_of_toList (h'.out.trans h.out.symm)
set_option maxRecDepth 100000 in
set_option maxHeartbeats 4000000 in
theorem mimeTells_walk (s : ByteArray) (u : UrlS) (W : World) (ws : s.size ≤ 9223372036854775807) (hu : UrlIn W u) (ht : Tabs W) (hm : ML W) : Calls Tryd.prog 3 #[.string s, .agg (urlC u)] W (RetB W true) := by
  have hI := UIn.start W u
  go_enter Tryd.func3, Tryd.ntmps3
  go_wp2_with fail
  refine (small18_any _ (hm.next hI.below) (ht.next hI.below)).mono ?_
  rintro e w1 ⟨rfl, hb⟩
  replace hI := hI.keep hb
  clear hb
  go_wp2_with (refine wpList_load_row rfl 29 _ rfl W.heap.size rfl _ (urlC u) _ _ hI.blk Tryd.underlying29 rfl urlInfo ?_)
  refine (few_in u W _ hu hI).mono ?_
  rintro e w2 ⟨b, rfl, hf, hb⟩
  replace hI := hI.keep hb
  clear hb
  by_cases h500 : 500 < s.size
  · have q : (500 : Int) < (s.size : Int) := by omega
    clear h500
    cases b
    all_goals
      go_wp2_with fail
      go_ret
      exact ⟨rfl, hI.below⟩
  have q : (s.size : Int) ≤ 500 := by omega
  clear h500
  cases b
  · go_wp2_with fail
    go_ret
    exact ⟨rfl, hI.below⟩
  replace hf := hf rfl
  have hfit := fit_of hu hf
  have hz : (writeX u false).length ≤ 900000 := Nat.le_trans (writeX_few hu hf false) (by decide)
  have zs : Hid (s.size ≤ 800000) := Lib.hid (by omega)
  have zs2 : Hid (s.size ≤ 1000000) := Lib.hid (by omega)
  replace hz := Lib.hid hz
  go_wp2_with fail
  refine (essence_any s _ (hm.next hI.below) zs2.out).mono ?_
  rintro e w3 ⟨t0, rfl, ht0, hb⟩
  replace hI := hI.keep hb
  clear hb
  go_wp2_with fail
  refine (essenceR_any s _ zs2.out).mono ?_
  rintro e w4 ⟨t1, rfl, ht1, hb⟩
  replace hI := hI.keep hb
  clear hb
  obtain rfl := retE_same ht0 ht1
  clear ht0 ht1
  generalize (essL s.toList).isSome = y0
  go_wp2_with (refine wpList_load_row rfl 29 _ rfl W.heap.size rfl _ (urlC u) _ _ hI.blk Tryd.underlying29 rfl urlInfo ?_)
  refine (data_any u _ (hu.path.below hI.below (Nat.le_refl _)) hfit hz.out (ht.next hI.below) (hm.next hI.below)).mono ?_
  rintro e w5 ⟨t2, rfl, ht2, hb⟩
  replace hI := hI.keep hb
  clear hb
  go_wp2_with (refine wpList_load_row rfl 29 _ rfl W.heap.size rfl _ (urlC u) _ _ hI.blk Tryd.underlying29 rfl urlInfo ?_)
  refine (dataR_any u _ (hu.path.below hI.below (Nat.le_refl _)) hfit hz.out).mono ?_
  rintro e w6 ⟨t3, rfl, ht3, hb⟩
  replace hI := hI.keep hb
  clear hb
  obtain rfl := retE_same ht2 ht3
  clear ht2 ht3
  generalize (dataU u).isSome = y1
  go_wp2_with fail
  refine (of_any s _).mono ?_
  rintro e w7 ⟨rfl, hb⟩
  replace hI := hI.keep hb
  clear hb
  have hJ := UIn.start w7 (ofU s)
  have hB : Below W.heap.size W (w7.alloc (.cells (urlC (ofU s)) 29)) := (hI.alloc _).below
  go_wp2_with (first
    | (refine wpList_store_newM rfl 29 _ _ rfl rfl (urlC (ofU s)) _ _ _ rfl (by simp) rfl urlInfo rfl (urlC_cellsM _) ?_)
    | (refine wpList_load_row rfl 29 _ rfl w7.heap.size rfl _ (urlC (ofU s)) _ _ hJ.blk Tryd.underlying29 rfl urlInfo ?_))
  refine (data_any (ofU s) _ (ofU_path _ s) (ofU_fit s zs2.out) (by rw [ofU_text, List.length_append, size_toList]; have := zs.out; show 5 + s.size ≤ _; omega) (ht.next hB) (hm.next hB)).mono ?_
  rintro e w8 ⟨t4, rfl, ht4, hb⟩
  replace hJ := hJ.keep hb
  replace hB := hB.next hb
  clear hb
  go_wp2_with (refine wpList_load_row rfl 29 _ rfl w7.heap.size rfl _ (urlC (ofU s)) _ _ hJ.blk Tryd.underlying29 rfl urlInfo ?_)
  refine (dataR_any (ofU s) _ (ofU_path _ s) (ofU_fit s zs2.out) (by rw [ofU_text, List.length_append, size_toList]; have := zs.out; show 5 + s.size ≤ _; omega)).mono ?_
  rintro e w9 ⟨t5, rfl, ht5, hb⟩
  replace hB := hB.next hb
  clear hb
  obtain rfl := retE_same ht4 ht5
  clear ht4 ht5 hJ hI
  generalize (dataU (ofU s)).isSome = y2
  go_wp2_with fail
  go_ret
  exact ⟨rfl, hB⟩
end Go.Proofs.YtdlgpmihjecdlaaDoor
