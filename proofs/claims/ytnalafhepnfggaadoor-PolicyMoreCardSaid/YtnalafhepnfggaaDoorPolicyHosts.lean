/- The walk of PolicyHosts. -/
import Derived.Test.YtnalafhepnfggaaDoorPolG
namespace Go.Proofs.YtnalafhepnfggaaDoor
open Go.RowKit
set_option linter.unusedVariables false
set_option linter.unusedSimpArgs false

/-- A policy of one host. -/
def polE (g : Nat) (t : ByteArray) : PolS := ⟨⟨none, 0, []⟩, ⟨some ⟨g, 0, none⟩, 1, [t]⟩, ⟨none, 0, []⟩, 0⟩
theorem polE_in {w : World} {g : Nat} {t : ByteArray} {E : TypeId} (h : w.heap[g]? = some (.cells #[.string t] E (0, 0))) (ht : t.size ≤ maxLen) : PolIn w (polE g t) :=
  ⟨strsOk_nil _, strsOk_row 1 (l := [t]) h (by show 1 ≤ maxLen; decide) (fun x hx => by simp at hx; rw [hx]; exact ht), strsOk_nil _, rfl⟩
def polN : PolS := ⟨⟨none, 0, []⟩, ⟨none, 0, []⟩, ⟨none, 0, []⟩, 0⟩
theorem polN_in (w : World) : PolIn w polN := ⟨strsOk_nil _, strsOk_nil _, strsOk_nil _, rfl⟩
theorem host_own {h : HostS} {t : ByteArray} (e : t.toList = hostL h) : hostA [t] h = true := by
  unfold hostA
  have : hostE h t = true := by unfold hostE; rw [e, beq_self_eq_true]; rfl
  rw [List.any_cons, this]; simp
theorem host_none (h : HostS) : hostA [] h = noHost h := by unfold hostA; simp
theorem dot_list (t : ByteArray) : (⟨#[46]⟩ ++ t : ByteArray).toList = 46 :: t.toList := by rw [toList_append, show (ByteArray.mk #[46]).toList = [46] from toList_mk _]; rfl
theorem host_long (s t : ByteArray) : hostA [⟨#[46]⟩ ++ t] (kH 2 (s ++ ⟨#[46]⟩ ++ t) 0) = true := by
  have hL : (s ++ ⟨#[46]⟩ ++ t : ByteArray).toList = s.toList ++ 46 :: t.toList := by rw [toList_append, toList_append, show (ByteArray.mk #[46]).toList = [46] from toList_mk _]; simp
  have hh : hostL (kH 2 (s ++ ⟨#[46]⟩ ++ t) 0) = s.toList ++ 46 :: t.toList := by unfold hostL; rw [if_pos (.inl rfl)]; exact hL
  by_cases h0 : s.size = 0
  · have e : s.toList = [] := (toList_empty_iff s).2 h0
    exact host_own (by rw [dot_list, hh, e]; rfl)
  · have hE : hostE (kH 2 (s ++ ⟨#[46]⟩ ++ t) 0) (⟨#[46]⟩ ++ t) = true := by
      unfold hostE
      have a1 : Lib.hasPrefix (⟨#[46]⟩ ++ t : ByteArray).toList [46] = true := by rw [dot_list]; unfold Lib.hasPrefix; simp [List.isPrefixOf]
      have a2 : decide ((kH 2 (s ++ ⟨#[46]⟩ ++ t) 0).kind = 2) = true := rfl
      have a3 : decide ((⟨#[46]⟩ ++ t : ByteArray).size < (kH 2 (s ++ ⟨#[46]⟩ ++ t) 0).name.size) = true := by
        rw [decide_eq_true_eq]
        show (⟨#[46]⟩ ++ t : ByteArray).size < (s ++ ⟨#[46]⟩ ++ t : ByteArray).size
        rw [ByteArray.size_append, ByteArray.size_append, ByteArray.size_append]; omega
      have a4 : Lib.hasSuffix (kH 2 (s ++ ⟨#[46]⟩ ++ t) 0).name.toList (⟨#[46]⟩ ++ t : ByteArray).toList = true := by
        show Lib.hasSuffix (s ++ ⟨#[46]⟩ ++ t : ByteArray).toList _ = true
        rw [hL, dot_list]
        unfold Lib.hasSuffix
        rw [List.isSuffixOf_iff_suffix]
        exact ⟨s.toList, rfl⟩
      rw [a1, a2, a3, a4]; simp
    unfold hostA
    rw [List.any_cons, hE]; simp
theorem host_short (t : ByteArray) : hostA [⟨#[46]⟩ ++ t] (kH 2 t 0) = false := by
  have hh : hostL (kH 2 t 0) = t.toList := by unfold hostL; rw [if_pos (.inl rfl)]; rfl
  have hE : hostE (kH 2 t 0) (⟨#[46]⟩ ++ t) = false := by
    unfold hostE
    have a1 : ((⟨#[46]⟩ ++ t : ByteArray).toList == hostL (kH 2 t 0)) = false := by
      rw [hh, dot_list, beq_eq_false_iff_ne]
      intro e; have := congrArg List.length e; simp at this
    have a2 : ((⟨#[46]⟩ ++ t : ByteArray).toList == [42]) = false := by
      rw [dot_list, beq_eq_false_iff_ne]
      intro e; cases e
    have a3 : decide ((⟨#[46]⟩ ++ t : ByteArray).size < (kH 2 t 0).name.size) = false := by
      rw [decide_eq_false_iff_not]
      show ¬ (⟨#[46]⟩ ++ t : ByteArray).size < t.size
      rw [ByteArray.size_append]; omega
    rw [a1, a2, a3]; simp
  unfold hostA noHost
  rw [List.any_cons, hE]
  rfl
/-- The host in its box, at the law's first block. -/
structure HIn (w wx : World) (h : HostS) : Prop where
  below : Below w.heap.size w wx
  blk : wx.heap[w.heap.size]? = some (.cells (hostC h) 29 (0, 0))
  size : w.heap.size + 1 ≤ wx.heap.size
theorem HIn.start (w : World) (h : HostS) : HIn w (w.alloc (.cells (hostC h) 29)) h := ⟨(Below.refl _ _).alloc (Nat.le_refl _) _, heap_new rfl, by simp⟩
theorem HIn.keep {w wx w' : World} {h : HostS} (k : HIn w wx h) (hb : Below wx.heap.size wx w') : HIn w w' h :=
  ⟨k.below.next hb, (hb.block _ k.size).trans k.blk, by have := hb.size; have := k.size; omega⟩
theorem HIn.drew {w wx : World} {h : HostS} (k : HIn w wx h) : HIn w wx.drew h := ⟨k.below.drew, k.blk, k.size⟩
theorem HIn.range {w wx : World} {h : HostS} (k : HIn w wx h) : wx.rangeAt w.heap.size 0 (hostC h).toList := fun j v hv => by
  rw [Nat.zero_add, cell_of_row wx _ j _ _ _ k.blk]
  simpa using hv
set_option maxRecDepth 100000 in
set_option maxHeartbeats 4000000 in
theorem policyHosts_walk (h : HostS) (s t : ByteArray) (W : World) (hh : HostOk h) (hk : (Lit.int .i64 h.kind).wf = true) (ws : s.size ≤ 9223372036854775807) (wt : t.size ≤ 9223372036854775807) (ht : Tabs W) (hm : ML W) :
    Calls Tryd.prog 4 #[.agg (hostC h), .string s, .string t] W (RetB W true) := by
  have hI := HIn.start W h
  have hmx := hh.name
  unfold maxLen at hmx
  clear hk
  go_enter Tryd.func4, Tryd.ntmps4
  go_wp2_with fail
  refine (small23_any _ (ht.next hI.below) (hm.next hI.below)).mono ?_
  rintro e w1 ⟨rfl, hb⟩
  replace hI := hI.keep hb
  clear hb
  have y1 := (cell_of_row _ _ 1 _ _ _ hI.blk).trans (show (hostC h)[1]? = some (.string h.name) from rfl)
  by_cases hbig : 200 < h.name.size ∨ 100 < s.size ∨ 100 < t.size
  · have hway : (200 : Int) < (h.name.size : Int) ∨ ((h.name.size : Int) ≤ 200 ∧ (100 : Int) < (s.size : Int)) ∨ ((h.name.size : Int) ≤ 200 ∧ (s.size : Int) ≤ 100 ∧ (100 : Int) < (t.size : Int)) := by omega
    clear hbig
    rcases hway with q1 | ⟨q1, q2⟩ | ⟨q1, q2, q3⟩
    all_goals
      go_wp2_with fail
      go_ret
      exact ⟨rfl, hI.below⟩
  have q1 : (h.name.size : Int) ≤ 200 := by omega
  have q2 : (s.size : Int) ≤ 100 := by omega
  have q3 : (t.size : Int) ≤ 100 := by omega
  clear hbig
  go_upto_region 4 with (fail)
  refine wp_region_noPanic ?_
  refine wp_region_held_drew (S := fun w' => HIn W w' h) (by kernel_rfl) (hI.drew) (fun hHeld => ?_)
  clear hI y1
  refine wpAnyH_take (i := 0) (v := .agg (hostC h).toList.toArray) rfl (by kernel_rfl) (by kernel_rfl) (by kernel_rfl) (fun _ _ _ h => h) (yieldsIf_load_mid (by rfl) 29 _ rfl W.heap.size 0 rfl (hostC h).toList _ (fun _ h => h.range) Tryd.underlying29 rfl (hostInfoL _)) hHeld ?_
  try simp only [Act.put, List.setIfInBounds_toArray, List.set_cons_zero, List.set_cons_succ]
  refine wpAnyH_take (i := 4) (v := .agg (hostC h).toList.toArray) rfl (by kernel_rfl) (by kernel_rfl) (by kernel_rfl) (fun _ _ _ h => h) (yieldsIf_load_mid (by rfl) 29 _ rfl W.heap.size 0 rfl (hostC h).toList _ (fun _ h => h.range) Tryd.underlying29 rfl (hostInfoL _)) hHeld ?_
  try simp only [Act.put, List.setIfInBounds_toArray, List.set_cons_zero, List.set_cons_succ]
  refine wpAnyH_ready (rs := [1]) (by kernel_rfl) (by simp) ?_
  refine AllReadyH.cons rfl (fun K hK => ?_) AllReadyH.nil
  go_simp
  refine (hostWrite_any h hh _ (ht.next hHeld.below)).mono ?_
  rintro e w2 ⟨a, rfl, ha, hb⟩
  have hT := hHeld.keep hb
  clear hb hHeld
  go_wp2_with fail
  refine hK.out _ _ (hT) (fun hHeld => ?_)
  clear hK K
  try simp only [Act.put, List.setIfInBounds_toArray, List.set_cons_zero, List.set_cons_succ]
  have haz : a.size ≤ maxLen := by
    rw [← size_toList, ha.out]
    have h1 := fourL_len h.four
    have h2 := sixL_len h.six
    unfold maxLen
    unfold hostL; split
    · rw [size_toList]; omega
    · split
      · omega
      · split <;> simp <;> omega
  refine wpAnyH_ready (rs := [2]) (by kernel_rfl) (by simp) ?_
  refine AllReadyH.cons rfl (fun K hK => ?_) AllReadyH.nil
  go_simp
  have hP : PolIn (w2.alloc (.cells #[.string a] 9)) (polE w2.heap.size a) := polE_in (heap_new rfl) haz
  refine hK.out _ _ (hHeld.keep ((Below.refl _ _).alloc (Nat.le_refl _) _)) (fun hHeld2 => ?_)
  clear hK K hHeld
  have hHeld := hHeld2
  clear hHeld2
  try simp only [Act.put, List.setIfInBounds_toArray, List.set_cons_zero, List.set_cons_succ]
  refine wpAnyH_take (i := 3) (v := ?_) rfl (by kernel_rfl) (by kernel_rfl) (by kernel_rfl) (fun _ _ _ h => h) (Or.inl ⟨by rfl, ?_⟩) hHeld ?_
  rotate_left
  · first | (intro w hSw; (try dsimp only at hSw); go_simp; done) | (intro w hSw; (try dsimp only at hSw); go_simp; with_reducible rfl)
  try simp only [Act.put, List.setIfInBounds_toArray, List.set_cons_zero, List.set_cons_succ]
  refine wpAnyH_ready (rs := [5]) (by kernel_rfl) (by simp) ?_
  refine AllReadyH.cons rfl (fun K hK => ?_) AllReadyH.nil
  go_simp
  refine (hostP_any (polE w2.heap.size a) h _ hP hh (ht.next hHeld.below)).mono ?_
  rintro e w3 ⟨rfl, hb⟩
  rw [show hostA (polE w2.heap.size a).hosts.l h = true from host_own ha.out]
  have hT := hHeld.keep hb
  clear hb hHeld hP
  go_wp2_with fail
  refine hK.out _ _ (hT) (fun hHeld => ?_)
  clear hK K
  try simp only [Act.put, List.setIfInBounds_toArray, List.set_cons_zero, List.set_cons_succ]
  refine wpAnyH_ready (rs := [6]) (by kernel_rfl) (by simp) ?_
  refine AllReadyH.cons rfl (fun K hK => ?_) AllReadyH.nil
  go_simp
  refine hK.out _ _ (hHeld) (fun hHeld => ?_)
  clear hK K
  try simp only [Act.put, List.setIfInBounds_toArray, List.set_cons_zero, List.set_cons_succ]
  refine wpAnyH_done (by kernel_rfl) ?_ _
  refine NoPanic.normal ?_
  have hI := hHeld
  clear hHeld ha haz
  go_wp2_with (refine wpList_load_row rfl 29 _ rfl W.heap.size rfl _ (hostC h) _ _ hI.blk Tryd.underlying29 rfl hostInfo ?_)
  refine (hostP_any polN h _ (polN_in _) hh (ht.next hI.below)).mono ?_
  rintro e w4 ⟨rfl, hb⟩
  rw [show hostA polN.hosts.l h = noHost h from host_none h]
  replace hI := hI.keep hb
  clear hb
  have y0 := (cell_of_row _ _ 0 _ _ _ hI.blk).trans (show (hostC h)[0]? = some (.int .i64 h.kind) from rfl)
  have hway : ∃ b, noHost h = b ∧ (((h.kind == 0) = true ∧ b = true) ∨ ((h.kind == 0) = false ∧ (h.kind == 1) = true ∧ b = true) ∨ ((h.kind == 0) = false ∧ (h.kind == 1) = false ∧ b = false)) := by
    refine ⟨_, rfl, ?_⟩
    unfold noHost
    by_cases e0 : h.kind = 0
    · exact .inl ⟨by rw [e0]; rfl, by rw [e0]; rfl⟩
    · by_cases e1 : h.kind = 1
      · exact .inr (.inl ⟨by rw [e1]; rfl, by rw [e1]; rfl, by rw [e1]; rfl⟩)
      · exact .inr (.inr ⟨beq_eq_false_iff_ne.2 e0, beq_eq_false_iff_ne.2 e1, by rw [decide_eq_false e0, decide_eq_false e1]; rfl⟩)
  obtain ⟨b, hb, hway⟩ := hway
  rw [hb]
  replace hb := Lib.hid hb
  obtain ⟨L, hL⟩ : ∃ L : ByteArray, s ++ ⟨#[46]⟩ ++ t = L := ⟨_, rfl⟩
  obtain ⟨D, hD⟩ : ∃ D : ByteArray, ⟨#[46]⟩ ++ t = D := ⟨_, rfl⟩
  have d1 : (ByteArray.mk #[46]).size = 1 := rfl
  have hLz : L.size ≤ 1000 := by rw [← hL, ByteArray.size_append, ByteArray.size_append]; omega
  have hDz : D.size ≤ 1000 := by rw [← hD, ByteArray.size_append]; omega
  have vL : Hid (hostA [D] (kH 2 L 0) = true) := Lib.hid (by rw [← hL, ← hD]; exact host_long s t)
  have vS : Hid (hostA [D] (kH 2 t 0) = false) := Lib.hid (by rw [← hD]; exact host_short t)
  have okL : HostOk (kH 2 L 0) := kH_ok _ _ _ (by decide) (by unfold maxLen; omega)
  have okT : HostOk (kH 2 t 0) := kH_ok _ _ _ (by decide) (by unfold maxLen; omega)
  have hDm : D.size ≤ maxLen := by unfold maxLen; omega
  clear d1
  rcases hway with ⟨k0, rfl⟩ | ⟨k0, k1, rfl⟩ | ⟨k0, k1, rfl⟩
  all_goals
    go_upto_region 9 with (first
      | (refine wpList_store_newM rfl 29 _ _ rfl rfl (hostC (kH 2 L 0)) _ _ _ rfl (by simp) rfl hostInfo rfl (hostC_cells _) ?_)
      | (refine wpList_store_newM rfl 29 _ _ rfl rfl (hostC (kH 2 t 0)) _ _ _ rfl (by simp) rfl hostInfo rfl (hostC_cells _) ?_))
    have hB0 : Below W.heap.size W w4 := hI.below
    refine wp_gen13 (R := fun wx => Box2 w4 wx (hostC (kH 2 L 0)) 29 (hostC (kH 2 t 0)) 29) (Box2.start _ _ _ _ _) ?_
    intro wx hJ
    have hA1 : (wx.alloc (.cells #[.string D] 9)).heap[w4.heap.size]? = some (.cells (hostC (kH 2 L 0)) 29 (0, 0)) := heap_old (by have := hJ.size; omega) hJ.a
    replace hL := Lib.hid hL
    go_wp2_with (refine wpList_load_row rfl 29 _ rfl w4.heap.size rfl _ (hostC (kH 2 L 0)) _ _ hA1 Tryd.underlying29 rfl hostInfo ?_)
    refine (hostP_any (polE wx.heap.size D) (kH 2 L 0) _ (polE_in (heap_new rfl) hDm) okL (ht.next ((hB0.next hJ.below).alloc (hB0.next hJ.below).size _))).mono ?_
    rintro e w5 ⟨rfl, hb⟩
    rw [show hostA (polE wx.heap.size D).hosts.l (kH 2 L 0) = true from vL.out]
    replace hJ := (hJ.keep ((Below.refl _ _).alloc (Nat.le_refl _) _)).keep hb
    clear hb hA1
    have hA2 : (w5.alloc (.cells #[.string D] 9)).heap[w4.heap.size + 1]? = some (.cells (hostC (kH 2 t 0)) 29 (0, 0)) := heap_old (by have := hJ.size; omega) hJ.b
    go_wp2_with (refine wpList_load_row rfl 29 _ rfl (w4.heap.size + 1) rfl _ (hostC (kH 2 t 0)) _ _ hA2 Tryd.underlying29 rfl hostInfo ?_)
    refine (hostP_any (polE w5.heap.size D) (kH 2 t 0) _ (polE_in (heap_new rfl) hDm) okT (ht.next ((hB0.next hJ.below).alloc (hB0.next hJ.below).size _))).mono ?_
    rintro e w6 ⟨rfl, hb⟩
    rw [show hostA (polE w5.heap.size D).hosts.l (kH 2 t 0) = false from vS.out]
    replace hJ := (hJ.keep ((Below.refl _ _).alloc (Nat.le_refl _) _)).keep hb
    clear hb hA2
    go_wp2_with fail
    go_ret
    exact ⟨rfl, hB0.next hJ.below⟩
end Go.Proofs.YtnalafhepnfggaaDoor
