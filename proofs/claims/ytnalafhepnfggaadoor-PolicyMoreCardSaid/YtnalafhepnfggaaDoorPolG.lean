/- The small case of layer 23 comes out right. -/
import Derived.Test.YtnalafhepnfggaaDoorPolF
import Derived.Test.YtnalafhepnfggaaDoorMimeE
import Derived.Deep.RegionHeld3
namespace Go.Proofs.YtnalafhepnfggaaDoor
open Go.RowKit
set_option linter.unusedVariables false
set_option linter.unusedSimpArgs false

def kH (k : Int) (s : ByteArray) (f : Nat) : HostS := ⟨k, s, f, [0, 0, 0, 0, 0, 0, 0, 0]⟩
theorem kH_ok (k : Int) (s : ByteArray) (f : Nat) (hf : f < 4294967296) (hs : s.size ≤ maxLen) : HostOk (kH k s f) := ⟨hf, ⟨rfl, by dsimp only [kH]; decide⟩, hs⟩
def urlH (s : ByteArray) (h : HostS) : UrlS := ⟨s, ⟨#[]⟩, ⟨#[]⟩, h, false, 0, false, ⟨#[]⟩, none, 0, [], false, ⟨#[]⟩, false, ⟨#[]⟩⟩
theorem urlH_path (w : World) (s : ByteArray) (h : HostS) : PathIn w (urlH s h) := fun x => absurd x (by simp [urlH])
theorem urlH_fit (s : ByteArray) (h : HostS) (hs : s.size ≤ 1000) (ok : HostOk h) (hn : h.name.size ≤ 1000) : UrlFit (urlH s h) :=
  ⟨by dsimp only [urlH]; omega, by dsimp only [urlH]; decide, by dsimp only [urlH]; decide, by dsimp only [urlH]; omega, by dsimp only [urlH]; decide, by dsimp only [urlH]; decide, by dsimp only [urlH]; decide, by simp [urlH, pathT], by dsimp only [urlH]; decide, by dsimp only [urlH]; decide, ok⟩
theorem urlH_text (s : ByteArray) (h : HostS) (hs : s.size ≤ 1000) (hn : h.name.size ≤ 1000) : (writeX (urlH s h) false).length ≤ 900000 := by
  have e : (ByteArray.mk #[]).toList = [] := toList_mk _
  have hh : (hostL h).length ≤ 1000 := by
    have h1 := fourL_len h.four
    have h2 := sixL_len h.six
    unfold hostL; split
    · rw [size_toList]; exact hn
    · split
      · omega
      · split <;> simp <;> omega
  have ha : (aheadX (urlH s h)).length ≤ 1010 := by
    unfold aheadX
    split
    · unfold optB; split <;> simp
    · simp [whoL, portL, optB, urlH, e]; omega
  have hp : pathX (urlH s h) = [] := by simp [pathX, urlH, pathT]
  unfold writeX
  rw [hp]
  simp [optB, urlH, size_toList] at ha ⊢
  omega
def polS : List ByteArray := [⟨#[104, 116, 116, 112]⟩, ⟨#[100, 97, 116, 97]⟩]
def polH : List ByteArray := [⟨#[46, 97, 46, 98]⟩, ⟨#[49, 50, 55, 46, 48, 46, 48, 46, 49]⟩, ⟨#[91, 58, 58, 93]⟩]
def polT : List ByteArray := [⟨#[105, 109, 97, 103, 101, 47, 112, 110, 103]⟩]
def pol0 (g : Nat) : PolS := ⟨⟨some ⟨g, 0, none⟩, 2, polS⟩, ⟨some ⟨g + 1, 0, none⟩, 3, polH⟩, ⟨some ⟨g + 1 + 1, 0, none⟩, 1, polT⟩, 0⟩
def polQ (g : Nat) : PolS := ⟨⟨none, 0, []⟩, ⟨some ⟨g, 0, none⟩, 1, [⟨#[42]⟩]⟩, ⟨none, 0, []⟩, 0⟩
theorem strsOk_nil (w : World) : StrsOk w ⟨none, 0, []⟩ := ⟨fun h => absurd h (by simp), by dsimp only; decide, fun t h => absurd h (by simp), fun _ => rfl⟩
theorem strsOk_row {w : World} {g : Nat} {l : List ByteArray} {E : TypeId} (c : Nat) (h : w.heap[g]? = some (.cells (l.map Value.string).toArray E (0, 0))) (hn : l.length ≤ maxLen) (he : ∀ t ∈ l, t.size ≤ maxLen) : StrsOk w ⟨some ⟨g, 0, none⟩, c, l⟩ :=
  ⟨fun _ => ⟨g, 0, rfl, fun i hi => by
    rw [cell_of_row w g (0 + i) _ _ _ h, Nat.zero_add]
    have hi2 : i < l.length := hi
    simp [hi2]⟩, hn, he, fun h => by cases h⟩
theorem four_local : fourL 2130706433 = [49, 50, 55, 46, 48, 46, 48, 46, 49] := by
  simp [fourL, fourP, byte4, Lib.decDigits]
theorem six_none : sixL [0, 0, 0, 0, 0, 0, 0, 0] = [58, 58] := by decide
theorem ha0 : hostA polH (kH 2 ⟨#[120, 46, 97, 46, 98]⟩ 0) = true := by
  unfold hostA noHost polH
  simp only [List.any_cons, List.any_nil, hostE, hostL, kH, toList_mk, four_local, six_none]
  decide +kernel
theorem ha1 : hostA polH (kH 2 ⟨#[97, 46, 98]⟩ 0) = false := by
  unfold hostA noHost polH
  simp only [List.any_cons, List.any_nil, hostE, hostL, kH, toList_mk, four_local, six_none]
  decide +kernel
theorem ha2 : hostA polH (kH 2 ⟨#[46, 99, 46, 98]⟩ 0) = false := by
  unfold hostA noHost polH
  simp only [List.any_cons, List.any_nil, hostE, hostL, kH, toList_mk, four_local, six_none]
  decide +kernel
theorem ha3 : hostA polH (kH 3 ⟨#[]⟩ 2130706433) = true := by
  unfold hostA noHost polH
  simp only [List.any_cons, List.any_nil, hostE, hostL, kH, toList_mk, four_local, six_none]
  decide +kernel
theorem ha4 : hostA polH (kH 4 ⟨#[]⟩ 0) = true := by
  unfold hostA noHost polH
  simp only [List.any_cons, List.any_nil, hostE, hostL, kH, toList_mk, four_local, six_none]
  decide +kernel
theorem ha5 : hostA polH (kH 0 ⟨#[]⟩ 0) = true := by
  unfold hostA noHost polH
  simp only [List.any_cons, List.any_nil, hostE, hostL, kH, toList_mk, four_local, six_none]
  decide +kernel
theorem ha6 : hostA polH (kH 5 ⟨#[120, 46, 97, 46, 98]⟩ 0) = false := by
  unfold hostA noHost polH
  simp only [List.any_cons, List.any_nil, hostE, hostL, kH, toList_mk, four_local, six_none]
  decide +kernel
theorem haq : hostA [⟨#[42]⟩] (kH 2 ⟨#[113]⟩ 0) = true := by
  unfold hostA noHost
  simp only [List.any_cons, List.any_nil, hostE, hostL, kH, toList_mk]
  decide +kernel
theorem hac (b : Bool) (s : ByteArray) (l : List UInt8) (h : s.toList = l) (hz : s.size = l.length) (hb : hostA polH (kH 2 ⟨l.toArray⟩ 0) = b) : hostA polH (kH 2 s 0) = b := by
  obtain rfl : s = ⟨l.toArray⟩ := eq_of_toList (h.trans (toList_mk l).symm)
  exact hb
theorem hb0 : hostA polH (kH 2 ⟨#[99, 46, 97, 46, 98]⟩ 0) = true := by
  unfold hostA noHost polH
  simp only [List.any_cons, List.any_nil, hostE, hostL, kH, toList_mk]
  decide +kernel
theorem hb1 : hostA polH (kH 2 ⟨#[99]⟩ 0) = false := by
  unfold hostA noHost polH
  simp only [List.any_cons, List.any_nil, hostE, hostL, kH, toList_mk]
  decide +kernel
theorem one0 : oneOf polS [104, 116, 116, 112] = true := by unfold oneOf polS; simp only [List.any_cons, List.any_nil, toList_mk]; decide
theorem one1 : oneOf polS [72, 84, 84, 80] = false := by unfold oneOf polS; simp only [List.any_cons, List.any_nil, toList_mk]; decide
theorem one2 : oneOf polS [100, 97, 116, 97] = true := by unfold oneOf polS; simp only [List.any_cons, List.any_nil, toList_mk]; decide
theorem one3 : oneOf polS [120] = false := by unfold oneOf polS; simp only [List.any_cons, List.any_nil, toList_mk]; decide
theorem one4 : oneOf polT [105, 109, 97, 103, 101, 47, 112, 110, 103] = true := by unfold oneOf polT; simp only [List.any_cons, List.any_nil, toList_mk]; decide
theorem one5 : oneOf polT [116, 101, 120, 116, 47, 112, 108, 97, 105, 110] = false := by unfold oneOf polT; simp only [List.any_cons, List.any_nil, toList_mk]; decide
def okT (T : List ByteArray) : Option (List UInt8) → Bool | none => false | some e => oneOf T e
theorem typeA_okT (T : List ByteArray) (u : UrlS) (h : u.scheme.toList = dataW) : typeA T u = okT T (dataU u) := by
  unfold typeA
  rw [if_pos h]
  cases dataU u <;> rfl
theorem allows_of {l : List UInt8} {o : Option (List UInt8)} (h : (if (cutC 44 l).2.2 = true then some (typeL (cutC 44 l).1) else none) = o) : allowsA polS polH polT (ofU ⟨l.toArray⟩) = okT polT o := by
  have e1 : (ofU ⟨l.toArray⟩).scheme.toList = dataW := toList_mk _
  unfold allowsA
  rw [typeA_okT _ _ e1]
  have e2 : oneOf polS dataW = true := one2
  have e3 : hostA polH (ofU ⟨l.toArray⟩).host = true := rfl
  rw [e1, ofU_data, toList_mk, h, e2, e3]
  rfl
theorem allows_http {h : HostS} {b : Bool} (e : hostA polH h = b) : allowsA polS polH polT (urlH ⟨#[104, 116, 116, 112]⟩ h) = b := by
  unfold allowsA typeA
  have e1 : (urlH ⟨#[104, 116, 116, 112]⟩ h).scheme.toList = [104, 116, 116, 112] := toList_mk _
  have e3 : hostA polH (urlH ⟨#[104, 116, 116, 112]⟩ h).host = b := e
  rw [e1, if_neg (by decide), one0, e3]
  simp
theorem allows_x : allowsA polS polH polT (urlH ⟨#[120]⟩ (kH 0 ⟨#[]⟩ 0)) = false := by
  unfold allowsA
  have e1 : (urlH ⟨#[120]⟩ (kH 0 ⟨#[]⟩ 0)).scheme.toList = [120] := toList_mk _
  rw [e1, one3]; rfl
theorem da0 : (if (cutC 44 [73, 109, 97, 103, 101, 47, 80, 78, 71, 44, 120]).2.2 = true then some (typeL (cutC 44 [73, 109, 97, 103, 101, 47, 80, 78, 71, 44, 120]).1) else none) = some [105, 109, 97, 103, 101, 47, 112, 110, 103] := by decide +kernel
theorem al0 : allowsA polS polH polT (ofU ⟨#[73, 109, 97, 103, 101, 47, 80, 78, 71, 44, 120]⟩) = true := (allows_of (l := [73, 109, 97, 103, 101, 47, 80, 78, 71, 44, 120]) da0).trans one4
theorem da1 : (if (cutC 44 [44, 120]).2.2 = true then some (typeL (cutC 44 [44, 120]).1) else none) = some [116, 101, 120, 116, 47, 112, 108, 97, 105, 110] := by decide +kernel
theorem al1 : allowsA polS polH polT (ofU ⟨#[44, 120]⟩) = false := (allows_of (l := [44, 120]) da1).trans one5
theorem da2 : (if (cutC 44 [105, 109, 97, 103, 101, 47, 112, 110, 103]).2.2 = true then some (typeL (cutC 44 [105, 109, 97, 103, 101, 47, 112, 110, 103]).1) else none) = none := by decide +kernel
theorem al2 : allowsA polS polH polT (ofU ⟨#[105, 109, 97, 103, 101, 47, 112, 110, 103]⟩) = false := (allows_of (l := [105, 109, 97, 103, 101, 47, 112, 110, 103]) da2).trans rfl
theorem hostC_cells (h : HostS) : (hostC h).all (·.oneCell') = true := by kernel_rfl
theorem polC_cells (p : PolS) : (polC p).all (·.oneCell') = true := by kernel_rfl
set_option maxRecDepth 100000 in
theorem nm_any (s : ByteArray) (w : World) : Calls Tryd.prog 11 #[.string s] w fun e w' => e = .returned (.agg (hostC (kH 2 s 0))) ∧ Below w.heap.size w w' := by
  go_enter Tryd.func11, Tryd.ntmps11
  go_wp2_with (refine wpList_store_newM rfl 29 _ _ rfl rfl (hostC (kH 2 s 0)) _ _ _ rfl (by simp) rfl hostInfo rfl (hostC_cells _) ?_)
  refine bodyPost_ret (v := .agg (hostC (kH 2 s 0))) (results_cell_row rfl _ _ w.heap.size _ (hostC (kH 2 s 0)) _ _ rfl (heap_alloc_new _ _) Tryd.underlying29 rfl hostInfo) rfl ⟨rfl, (Below.refl _ _).alloc (Nat.le_refl _) _⟩
set_option maxRecDepth 100000 in
set_option maxHeartbeats 2000000 in
theorem dt_any (s : ByteArray) (w : World) : Calls Tryd.prog 12 #[.string s] w fun e w' => e = .returned (.agg (urlC (ofU s))) ∧ Below w.heap.size w w' := by
  go_enter Tryd.func12, Tryd.ntmps12
  go_wp2_with (refine wpList_store_newM rfl 31 _ _ rfl rfl (urlC (ofU s)) _ _ _ rfl (by simp) rfl urlInfo rfl (urlC_cellsM _) ?_)
  refine bodyPost_ret (v := .agg (urlC (ofU s))) (results_cell_row rfl _ _ w.heap.size _ (urlC (ofU s)) _ _ rfl (heap_alloc_new _ _) Tryd.underlying31 rfl urlInfo) rfl ⟨rfl, (Below.refl _ _).alloc (Nat.le_refl _) _⟩
/-- The policy of the small case, in its box. -/
structure SmP (w wx : World) : Prop where
  below : Below w.heap.size w wx
  size : w.heap.size + 4 ≤ wx.heap.size
  b : wx.heap[w.heap.size + 1 + 1 + 1]? = some (.cells (polC (pol0 w.heap.size)) 24 (0, 0))
  pol : PolIn wx (pol0 w.heap.size)
theorem SmP.range {w wx : World} (h : SmP w wx) : wx.rangeAt (w.heap.size + 1 + 1 + 1) 0 (polC (pol0 w.heap.size)).toList := fun j v hv => by
  rw [cell_of_row wx _ (0 + j) _ _ _ h.b, Nat.zero_add]
  simpa using hv
theorem SmP.drew {w wx : World} (h : SmP w wx) : SmP w wx.drew := ⟨h.below.drew, h.size, h.b, ⟨⟨h.pol.schemes.cells, h.pol.schemes.n, h.pol.schemes.each, h.pol.schemes.nilC⟩, ⟨h.pol.hosts.cells, h.pol.hosts.n, h.pol.hosts.each, h.pol.hosts.nilC⟩, ⟨h.pol.types.cells, h.pol.types.n, h.pol.types.each, h.pol.types.nilC⟩, h.pol.most⟩⟩
theorem polInfoL (p : PolS) : (Tryd.prog.info? 24).map (·.size) = some (polC p).toList.length := by rw [polInfo]; rfl
theorem SmP.keep {w wx w' : World} (h : SmP w wx) (hb : Below wx.heap.size wx w') : SmP w w' :=
  ⟨h.below.next hb, by have := hb.size; have := h.size; omega, (hb.block _ (by have := h.size; omega)).trans h.b, h.pol.below hb (Nat.le_refl _)⟩
set_option maxRecDepth 100000 in
set_option maxHeartbeats 4000000 in
theorem small23_any (w : World) (ht : Tabs w) (hm : ML w) : Calls Tryd.prog 5 #[] w (RetB w true) := by
  go_enter Tryd.func5, Tryd.ntmps5
  go_upto_region 3 with (refine wpList_store_newM rfl 24 _ _ rfl rfl (polC (pol0 w.heap.size)) _ _ _ rfl (by simp) rfl polInfo rfl (polC_cells _) ?_)
  refine wp_gen13 (R := SmP w) ?_ ?_
  · have r0 : (((w.alloc (.cells (polS.map Value.string).toArray 9)).alloc (.cells (polH.map Value.string).toArray 9)).alloc (.cells (polT.map Value.string).toArray 9)).alloc (.cells (polC (pol0 w.heap.size)) 24) |>.heap[w.heap.size]? = some (.cells (polS.map Value.string).toArray 9 (0, 0)) := by
      repeat (first | exact heap_new (by simp) | refine heap_old (by simp <;> omega) ?_)
    have r1 : (((w.alloc (.cells (polS.map Value.string).toArray 9)).alloc (.cells (polH.map Value.string).toArray 9)).alloc (.cells (polT.map Value.string).toArray 9)).alloc (.cells (polC (pol0 w.heap.size)) 24) |>.heap[w.heap.size + 1]? = some (.cells (polH.map Value.string).toArray 9 (0, 0)) := by
      repeat (first | exact heap_new (by simp) | refine heap_old (by simp <;> omega) ?_)
    have r2 : (((w.alloc (.cells (polS.map Value.string).toArray 9)).alloc (.cells (polH.map Value.string).toArray 9)).alloc (.cells (polT.map Value.string).toArray 9)).alloc (.cells (polC (pol0 w.heap.size)) 24) |>.heap[w.heap.size + 1 + 1]? = some (.cells (polT.map Value.string).toArray 9 (0, 0)) := by
      repeat (first | exact heap_new (by simp) | refine heap_old (by simp <;> omega) ?_)
    exact ⟨((((Below.refl _ _).alloc (Nat.le_refl _) _).alloc (by simp) _).alloc (by simp <;> omega) _).alloc (by simp <;> omega) _, by simp, heap_new (by simp), ⟨strsOk_row 2 r0 (by decide) (by decide), strsOk_row 3 r1 (by decide) (by decide), strsOk_row 1 r2 (by decide) (by decide), rfl⟩⟩
  intro wx hS
  go_upto_region 4 with (fail)
  refine wp_region_noPanic ?_
  refine wp_region_held_drew (S := fun w' => SmP w w') (by kernel_rfl) (hS.drew) (fun hHeld => ?_)
  clear hS
  refine wpAnyH_take (i := 0) (oi := ⟨some 8, _, _, _, _, _⟩) (v := .agg (polC (pol0 w.heap.size)).toList.toArray) rfl (by kernel_rfl) (by kernel_rfl) (by kernel_rfl) (fun _ _ _ h => h) (yieldsIf_load_mid (by rfl) 24 _ rfl (w.heap.size + 1 + 1 + 1) 0 rfl (polC (pol0 w.heap.size)).toList _ (fun _ h => h.range) Tryd.underlying24 rfl (polInfoL _)) hHeld ?_
  try simp only [Act.put, List.setIfInBounds_toArray, List.set_cons_zero, List.set_cons_succ]
  refine wpAnyH_ready (rs := [1]) (by kernel_rfl) (by simp) ?_
  refine AllReadyH.cons rfl (fun K hK => ?_) AllReadyH.nil
  go_simp
  refine (schemeP_any (pol0 w.heap.size) ⟨#[104, 116, 116, 112]⟩ _ hHeld.pol).mono ?_
  rintro e w1 ⟨rfl, hb⟩
  rw [show oneOf (pol0 w.heap.size).schemes.l (ByteArray.mk #[104, 116, 116, 112]).toList = true from (congrArg (oneOf polS) (toList_mk _)).trans one0]
  have hT := hHeld.keep hb
  clear hb hHeld
  go_wp2_with fail
  refine hK.out _ _ (hT) (fun hHeld => ?_)
  clear hK K
  try simp only [Act.put, List.setIfInBounds_toArray, List.set_cons_zero, List.set_cons_succ]
  refine wpAnyH_take (i := 2) (oi := ⟨some 10, _, _, _, _, _⟩) (v := ?_) rfl (by kernel_rfl) (by kernel_rfl) (by kernel_rfl) (fun _ _ _ h => h) (Or.inl ⟨by rfl, ?_⟩) hHeld ?_
  rotate_left
  · first | (intro w hSw; (try dsimp only at hSw); go_simp; done) | (intro w hSw; (try dsimp only at hSw); go_simp; with_reducible rfl)
  try simp only [Act.put, List.setIfInBounds_toArray, List.set_cons_zero, List.set_cons_succ]
  as_aux_lemma =>
    refine wpAnyH_take (i := 3) (oi := ⟨some 11, _, _, _, _, _⟩) (v := .agg (polC (pol0 w.heap.size)).toList.toArray) rfl (by kernel_rfl) (by kernel_rfl) (by kernel_rfl) (fun _ _ _ h => h) (yieldsIf_load_mid (by rfl) 24 _ rfl (w.heap.size + 1 + 1 + 1) 0 rfl (polC (pol0 w.heap.size)).toList _ (fun _ h => h.range) Tryd.underlying24 rfl (polInfoL _)) hHeld ?_
    try simp only [Act.put, List.setIfInBounds_toArray, List.set_cons_zero, List.set_cons_succ]
    refine wpAnyH_ready (rs := [4]) (by kernel_rfl) (by simp) ?_
    refine AllReadyH.cons rfl (fun K hK => ?_) AllReadyH.nil
    go_simp
    refine (schemeP_any (pol0 w.heap.size) ⟨#[72, 84, 84, 80]⟩ _ hHeld.pol).mono ?_
    rintro e w2 ⟨rfl, hb⟩
    rw [show oneOf (pol0 w.heap.size).schemes.l (ByteArray.mk #[72, 84, 84, 80]).toList = false from (congrArg (oneOf polS) (toList_mk _)).trans one1]
    have hT := hHeld.keep hb
    clear hb hHeld
    go_wp2_with fail
    refine hK.out _ _ (hT) (fun hHeld => ?_)
    clear hK K
    try simp only [Act.put, List.setIfInBounds_toArray, List.set_cons_zero, List.set_cons_succ]
    refine wpAnyH_take (i := 5) (oi := ⟨some 13, _, _, _, _, _⟩) (v := ?_) rfl (by kernel_rfl) (by kernel_rfl) (by kernel_rfl) (fun _ _ _ h => h) (Or.inl ⟨by rfl, ?_⟩) hHeld ?_
    rotate_left
    · first | (intro w hSw; (try dsimp only at hSw); go_simp; done) | (intro w hSw; (try dsimp only at hSw); go_simp; with_reducible rfl)
    try simp only [Act.put, List.setIfInBounds_toArray, List.set_cons_zero, List.set_cons_succ]
    refine wpAnyH_take (i := 6) (oi := ⟨some 14, _, _, _, _, _⟩) (v := ?_) rfl (by kernel_rfl) (by kernel_rfl) (by kernel_rfl) (fun _ _ _ h => h) (Or.inl ⟨by rfl, ?_⟩) hHeld ?_
    rotate_left
    · first | (intro w hSw; (try dsimp only at hSw); go_simp; done) | (intro w hSw; (try dsimp only at hSw); go_simp; with_reducible rfl)
    try simp only [Act.put, List.setIfInBounds_toArray, List.set_cons_zero, List.set_cons_succ]
    refine wpAnyH_take (i := 7) (oi := ⟨some 15, _, _, _, _, _⟩) (v := ?_) rfl (by kernel_rfl) (by kernel_rfl) (by kernel_rfl) (fun _ _ _ h => h) (Or.inl ⟨by rfl, ?_⟩) hHeld ?_
    rotate_left
    · first | (intro w hSw; (try dsimp only at hSw); go_simp; done) | (intro w hSw; (try dsimp only at hSw); go_simp; with_reducible rfl)
    try simp only [Act.put, List.setIfInBounds_toArray, List.set_cons_zero, List.set_cons_succ]
    as_aux_lemma =>
      refine wpAnyH_take (i := 8) (oi := ⟨some 16, _, _, _, _, _⟩) (v := .agg (polC (pol0 w.heap.size)).toList.toArray) rfl (by kernel_rfl) (by kernel_rfl) (by kernel_rfl) (fun _ _ _ h => h) (yieldsIf_load_mid (by rfl) 24 _ rfl (w.heap.size + 1 + 1 + 1) 0 rfl (polC (pol0 w.heap.size)).toList _ (fun _ h => h.range) Tryd.underlying24 rfl (polInfoL _)) hHeld ?_
      try simp only [Act.put, List.setIfInBounds_toArray, List.set_cons_zero, List.set_cons_succ]
      refine wpAnyH_take (i := 9) (oi := ⟨some 17, _, _, _, _, _⟩) (v := ?_) rfl (by kernel_rfl) (by kernel_rfl) (by kernel_rfl) (fun _ _ _ h => h) (Or.inl ⟨by rfl, ?_⟩) hHeld ?_
      rotate_left
      · first | (intro w hSw; (try dsimp only at hSw); go_simp; done) | (intro w hSw; (try dsimp only at hSw); go_simp; with_reducible rfl)
      try simp only [Act.put, List.setIfInBounds_toArray, List.set_cons_zero, List.set_cons_succ]
      refine wpAnyH_ready (rs := [10]) (by kernel_rfl) (by simp) ?_
      refine AllReadyH.cons rfl (fun K hK => ?_) AllReadyH.nil
      go_simp
      refine (nm_any ⟨#[120, 46, 97, 46, 98]⟩ _).mono ?_
      rintro e w3 ⟨rfl, hb⟩
      have hT := hHeld.keep hb
      clear hb hHeld
      go_wp2_with fail
      refine hK.out _ _ (hT) (fun hHeld => ?_)
      clear hK K
      try simp only [Act.put, List.setIfInBounds_toArray, List.set_cons_zero, List.set_cons_succ]
      refine wpAnyH_ready (rs := [11]) (by kernel_rfl) (by simp) ?_
      refine AllReadyH.cons rfl (fun K hK => ?_) AllReadyH.nil
      go_simp
      refine (hostP_any (pol0 w.heap.size) (kH 2 ⟨#[120, 46, 97, 46, 98]⟩ 0) _ hHeld.pol (kH_ok _ _ _ (by decide) (by decide)) (ht.next hHeld.below)).mono ?_
      rintro e w4 ⟨rfl, hb⟩
      rw [show hostA (pol0 w.heap.size).hosts.l (kH 2 ⟨#[120, 46, 97, 46, 98]⟩ 0) = true from ha0]
      have hT := hHeld.keep hb
      clear hb hHeld
      go_wp2_with fail
      refine hK.out _ _ (hT) (fun hHeld => ?_)
      clear hK K
      try simp only [Act.put, List.setIfInBounds_toArray, List.set_cons_zero, List.set_cons_succ]
      refine wpAnyH_take (i := 12) (oi := ⟨some 20, _, _, _, _, _⟩) (v := ?_) rfl (by kernel_rfl) (by kernel_rfl) (by kernel_rfl) (fun _ _ _ h => h) (Or.inl ⟨by rfl, ?_⟩) hHeld ?_
      rotate_left
      · first | (intro w hSw; (try dsimp only at hSw); go_simp; done) | (intro w hSw; (try dsimp only at hSw); go_simp; with_reducible rfl)
      try simp only [Act.put, List.setIfInBounds_toArray, List.set_cons_zero, List.set_cons_succ]
      refine wpAnyH_take (i := 13) (oi := ⟨some 21, _, _, _, _, _⟩) (v := ?_) rfl (by kernel_rfl) (by kernel_rfl) (by kernel_rfl) (fun _ _ _ h => h) (Or.inl ⟨by rfl, ?_⟩) hHeld ?_
      rotate_left
      · first | (intro w hSw; (try dsimp only at hSw); go_simp; done) | (intro w hSw; (try dsimp only at hSw); go_simp; with_reducible rfl)
      try simp only [Act.put, List.setIfInBounds_toArray, List.set_cons_zero, List.set_cons_succ]
      as_aux_lemma =>
        refine wpAnyH_take (i := 14) (oi := ⟨some 22, _, _, _, _, _⟩) (v := .agg (polC (pol0 w.heap.size)).toList.toArray) rfl (by kernel_rfl) (by kernel_rfl) (by kernel_rfl) (fun _ _ _ h => h) (yieldsIf_load_mid (by rfl) 24 _ rfl (w.heap.size + 1 + 1 + 1) 0 rfl (polC (pol0 w.heap.size)).toList _ (fun _ h => h.range) Tryd.underlying24 rfl (polInfoL _)) hHeld ?_
        try simp only [Act.put, List.setIfInBounds_toArray, List.set_cons_zero, List.set_cons_succ]
        refine wpAnyH_take (i := 15) (oi := ⟨some 23, _, _, _, _, _⟩) (v := ?_) rfl (by kernel_rfl) (by kernel_rfl) (by kernel_rfl) (fun _ _ _ h => h) (Or.inl ⟨by rfl, ?_⟩) hHeld ?_
        rotate_left
        · first | (intro w hSw; (try dsimp only at hSw); go_simp; done) | (intro w hSw; (try dsimp only at hSw); go_simp; with_reducible rfl)
        try simp only [Act.put, List.setIfInBounds_toArray, List.set_cons_zero, List.set_cons_succ]
        refine wpAnyH_ready (rs := [16]) (by kernel_rfl) (by simp) ?_
        refine AllReadyH.cons rfl (fun K hK => ?_) AllReadyH.nil
        go_simp
        refine (nm_any ⟨#[97, 46, 98]⟩ _).mono ?_
        rintro e w5 ⟨rfl, hb⟩
        have hT := hHeld.keep hb
        clear hb hHeld
        go_wp2_with fail
        refine hK.out _ _ (hT) (fun hHeld => ?_)
        clear hK K
        try simp only [Act.put, List.setIfInBounds_toArray, List.set_cons_zero, List.set_cons_succ]
        refine wpAnyH_ready (rs := [17]) (by kernel_rfl) (by simp) ?_
        refine AllReadyH.cons rfl (fun K hK => ?_) AllReadyH.nil
        go_simp
        refine (hostP_any (pol0 w.heap.size) (kH 2 ⟨#[97, 46, 98]⟩ 0) _ hHeld.pol (kH_ok _ _ _ (by decide) (by decide)) (ht.next hHeld.below)).mono ?_
        rintro e w6 ⟨rfl, hb⟩
        rw [show hostA (pol0 w.heap.size).hosts.l (kH 2 ⟨#[97, 46, 98]⟩ 0) = false from ha1]
        have hT := hHeld.keep hb
        clear hb hHeld
        go_wp2_with fail
        refine hK.out _ _ (hT) (fun hHeld => ?_)
        clear hK K
        try simp only [Act.put, List.setIfInBounds_toArray, List.set_cons_zero, List.set_cons_succ]
        refine wpAnyH_take (i := 18) (oi := ⟨some 26, _, _, _, _, _⟩) (v := ?_) rfl (by kernel_rfl) (by kernel_rfl) (by kernel_rfl) (fun _ _ _ h => h) (Or.inl ⟨by rfl, ?_⟩) hHeld ?_
        rotate_left
        · first | (intro w hSw; (try dsimp only at hSw); go_simp; done) | (intro w hSw; (try dsimp only at hSw); go_simp; with_reducible rfl)
        try simp only [Act.put, List.setIfInBounds_toArray, List.set_cons_zero, List.set_cons_succ]
        refine wpAnyH_take (i := 19) (oi := ⟨some 27, _, _, _, _, _⟩) (v := ?_) rfl (by kernel_rfl) (by kernel_rfl) (by kernel_rfl) (fun _ _ _ h => h) (Or.inl ⟨by rfl, ?_⟩) hHeld ?_
        rotate_left
        · first | (intro w hSw; (try dsimp only at hSw); go_simp; done) | (intro w hSw; (try dsimp only at hSw); go_simp; with_reducible rfl)
        try simp only [Act.put, List.setIfInBounds_toArray, List.set_cons_zero, List.set_cons_succ]
        refine wpAnyH_take (i := 20) (oi := ⟨some 28, _, _, _, _, _⟩) (v := ?_) rfl (by kernel_rfl) (by kernel_rfl) (by kernel_rfl) (fun _ _ _ h => h) (Or.inl ⟨by rfl, ?_⟩) hHeld ?_
        rotate_left
        · first | (intro w hSw; (try dsimp only at hSw); go_simp; done) | (intro w hSw; (try dsimp only at hSw); go_simp; with_reducible rfl)
        try simp only [Act.put, List.setIfInBounds_toArray, List.set_cons_zero, List.set_cons_succ]
        as_aux_lemma =>
          refine wpAnyH_take (i := 21) (oi := ⟨some 29, _, _, _, _, _⟩) (v := .agg (polC (pol0 w.heap.size)).toList.toArray) rfl (by kernel_rfl) (by kernel_rfl) (by kernel_rfl) (fun _ _ _ h => h) (yieldsIf_load_mid (by rfl) 24 _ rfl (w.heap.size + 1 + 1 + 1) 0 rfl (polC (pol0 w.heap.size)).toList _ (fun _ h => h.range) Tryd.underlying24 rfl (polInfoL _)) hHeld ?_
          try simp only [Act.put, List.setIfInBounds_toArray, List.set_cons_zero, List.set_cons_succ]
          refine wpAnyH_take (i := 22) (oi := ⟨some 30, _, _, _, _, _⟩) (v := ?_) rfl (by kernel_rfl) (by kernel_rfl) (by kernel_rfl) (fun _ _ _ h => h) (Or.inl ⟨by rfl, ?_⟩) hHeld ?_
          rotate_left
          · first | (intro w hSw; (try dsimp only at hSw); go_simp; done) | (intro w hSw; (try dsimp only at hSw); go_simp; with_reducible rfl)
          try simp only [Act.put, List.setIfInBounds_toArray, List.set_cons_zero, List.set_cons_succ]
          refine wpAnyH_ready (rs := [23]) (by kernel_rfl) (by simp) ?_
          refine AllReadyH.cons rfl (fun K hK => ?_) AllReadyH.nil
          go_simp
          refine (nm_any ⟨#[46, 99, 46, 98]⟩ _).mono ?_
          rintro e w7 ⟨rfl, hb⟩
          have hT := hHeld.keep hb
          clear hb hHeld
          go_wp2_with fail
          refine hK.out _ _ (hT) (fun hHeld => ?_)
          clear hK K
          try simp only [Act.put, List.setIfInBounds_toArray, List.set_cons_zero, List.set_cons_succ]
          refine wpAnyH_ready (rs := [24]) (by kernel_rfl) (by simp) ?_
          refine AllReadyH.cons rfl (fun K hK => ?_) AllReadyH.nil
          go_simp
          refine (hostP_any (pol0 w.heap.size) (kH 2 ⟨#[46, 99, 46, 98]⟩ 0) _ hHeld.pol (kH_ok _ _ _ (by decide) (by decide)) (ht.next hHeld.below)).mono ?_
          rintro e w8 ⟨rfl, hb⟩
          rw [show hostA (pol0 w.heap.size).hosts.l (kH 2 ⟨#[46, 99, 46, 98]⟩ 0) = false from ha2]
          have hT := hHeld.keep hb
          clear hb hHeld
          go_wp2_with fail
          refine hK.out _ _ (hT) (fun hHeld => ?_)
          clear hK K
          try simp only [Act.put, List.setIfInBounds_toArray, List.set_cons_zero, List.set_cons_succ]
          refine wpAnyH_take (i := 25) (oi := ⟨some 33, _, _, _, _, _⟩) (v := ?_) rfl (by kernel_rfl) (by kernel_rfl) (by kernel_rfl) (fun _ _ _ h => h) (Or.inl ⟨by rfl, ?_⟩) hHeld ?_
          rotate_left
          · first | (intro w hSw; (try dsimp only at hSw); go_simp; done) | (intro w hSw; (try dsimp only at hSw); go_simp; with_reducible rfl)
          try simp only [Act.put, List.setIfInBounds_toArray, List.set_cons_zero, List.set_cons_succ]
          refine wpAnyH_take (i := 26) (oi := ⟨some 34, _, _, _, _, _⟩) (v := ?_) rfl (by kernel_rfl) (by kernel_rfl) (by kernel_rfl) (fun _ _ _ h => h) (Or.inl ⟨by rfl, ?_⟩) hHeld ?_
          rotate_left
          · first | (intro w hSw; (try dsimp only at hSw); go_simp; done) | (intro w hSw; (try dsimp only at hSw); go_simp; with_reducible rfl)
          try simp only [Act.put, List.setIfInBounds_toArray, List.set_cons_zero, List.set_cons_succ]
          refine wpAnyH_take (i := 27) (oi := ⟨some 35, _, _, _, _, _⟩) (v := ?_) rfl (by kernel_rfl) (by kernel_rfl) (by kernel_rfl) (fun _ _ _ h => h) (Or.inl ⟨by rfl, ?_⟩) hHeld ?_
          rotate_left
          · first | (intro w hSw; (try dsimp only at hSw); go_simp; done) | (intro w hSw; (try dsimp only at hSw); go_simp; with_reducible rfl)
          try simp only [Act.put, List.setIfInBounds_toArray, List.set_cons_zero, List.set_cons_succ]
          as_aux_lemma =>
            refine wpAnyH_take (i := 28) (oi := ⟨some 36, _, _, _, _, _⟩) (v := .agg (polC (pol0 w.heap.size)).toList.toArray) rfl (by kernel_rfl) (by kernel_rfl) (by kernel_rfl) (fun _ _ _ h => h) (yieldsIf_load_mid (by rfl) 24 _ rfl (w.heap.size + 1 + 1 + 1) 0 rfl (polC (pol0 w.heap.size)).toList _ (fun _ h => h.range) Tryd.underlying24 rfl (polInfoL _)) hHeld ?_
            try simp only [Act.put, List.setIfInBounds_toArray, List.set_cons_zero, List.set_cons_succ]
            refine wpAnyH_take (i := 29) (oi := ⟨some 37, _, _, _, _, _⟩) (v := ?_) rfl (by kernel_rfl) (by kernel_rfl) (by kernel_rfl) (fun _ _ _ h => h) (Or.inl ⟨by rfl, ?_⟩) hHeld ?_
            rotate_left
            · first | (intro w hSw; (try dsimp only at hSw); go_simp; done) | (intro w hSw; (try dsimp only at hSw); go_simp; with_reducible rfl)
            try simp only [Act.put, List.setIfInBounds_toArray, List.set_cons_zero, List.set_cons_succ]
            refine wpAnyH_ready (rs := [30]) (by kernel_rfl) (by simp) ?_
            refine AllReadyH.cons rfl (fun K hK => ?_) AllReadyH.nil
            go_simp
            refine (hostP_any (pol0 w.heap.size) (kH 3 ⟨#[]⟩ 2130706433) _ hHeld.pol (kH_ok _ _ _ (by decide) (by decide)) (ht.next hHeld.below)).mono ?_
            rintro e w9 ⟨rfl, hb⟩
            rw [show hostA (pol0 w.heap.size).hosts.l (kH 3 ⟨#[]⟩ 2130706433) = true from ha3]
            have hT := hHeld.keep hb
            clear hb hHeld
            go_wp2_with fail
            refine hK.out _ _ (hT) (fun hHeld => ?_)
            clear hK K
            try simp only [Act.put, List.setIfInBounds_toArray, List.set_cons_zero, List.set_cons_succ]
            refine wpAnyH_take (i := 31) (oi := ⟨some 39, _, _, _, _, _⟩) (v := ?_) rfl (by kernel_rfl) (by kernel_rfl) (by kernel_rfl) (fun _ _ _ h => h) (Or.inl ⟨by rfl, ?_⟩) hHeld ?_
            rotate_left
            · first | (intro w hSw; (try dsimp only at hSw); go_simp; done) | (intro w hSw; (try dsimp only at hSw); go_simp; with_reducible rfl)
            try simp only [Act.put, List.setIfInBounds_toArray, List.set_cons_zero, List.set_cons_succ]
            refine wpAnyH_take (i := 32) (oi := ⟨some 40, _, _, _, _, _⟩) (v := ?_) rfl (by kernel_rfl) (by kernel_rfl) (by kernel_rfl) (fun _ _ _ h => h) (Or.inl ⟨by rfl, ?_⟩) hHeld ?_
            rotate_left
            · first | (intro w hSw; (try dsimp only at hSw); go_simp; done) | (intro w hSw; (try dsimp only at hSw); go_simp; with_reducible rfl)
            try simp only [Act.put, List.setIfInBounds_toArray, List.set_cons_zero, List.set_cons_succ]
            as_aux_lemma =>
              refine wpAnyH_take (i := 33) (oi := ⟨some 41, _, _, _, _, _⟩) (v := .agg (polC (pol0 w.heap.size)).toList.toArray) rfl (by kernel_rfl) (by kernel_rfl) (by kernel_rfl) (fun _ _ _ h => h) (yieldsIf_load_mid (by rfl) 24 _ rfl (w.heap.size + 1 + 1 + 1) 0 rfl (polC (pol0 w.heap.size)).toList _ (fun _ h => h.range) Tryd.underlying24 rfl (polInfoL _)) hHeld ?_
              try simp only [Act.put, List.setIfInBounds_toArray, List.set_cons_zero, List.set_cons_succ]
              refine wpAnyH_take (i := 34) (oi := ⟨some 42, _, _, _, _, _⟩) (v := ?_) rfl (by kernel_rfl) (by kernel_rfl) (by kernel_rfl) (fun _ _ _ h => h) (Or.inl ⟨by rfl, ?_⟩) hHeld ?_
              rotate_left
              · first | (intro w hSw; (try dsimp only at hSw); go_simp; done) | (intro w hSw; (try dsimp only at hSw); go_simp; with_reducible rfl)
              try simp only [Act.put, List.setIfInBounds_toArray, List.set_cons_zero, List.set_cons_succ]
              refine wpAnyH_ready (rs := [35]) (by kernel_rfl) (by simp) ?_
              refine AllReadyH.cons rfl (fun K hK => ?_) AllReadyH.nil
              go_simp
              refine (hostP_any (pol0 w.heap.size) (kH 4 ⟨#[]⟩ 0) _ hHeld.pol (kH_ok _ _ _ (by decide) (by decide)) (ht.next hHeld.below)).mono ?_
              rintro e w10 ⟨rfl, hb⟩
              rw [show hostA (pol0 w.heap.size).hosts.l (kH 4 ⟨#[]⟩ 0) = true from ha4]
              have hT := hHeld.keep hb
              clear hb hHeld
              go_wp2_with fail
              refine hK.out _ _ (hT) (fun hHeld => ?_)
              clear hK K
              try simp only [Act.put, List.setIfInBounds_toArray, List.set_cons_zero, List.set_cons_succ]
              refine wpAnyH_take (i := 36) (oi := ⟨some 44, _, _, _, _, _⟩) (v := ?_) rfl (by kernel_rfl) (by kernel_rfl) (by kernel_rfl) (fun _ _ _ h => h) (Or.inl ⟨by rfl, ?_⟩) hHeld ?_
              rotate_left
              · first | (intro w hSw; (try dsimp only at hSw); go_simp; done) | (intro w hSw; (try dsimp only at hSw); go_simp; with_reducible rfl)
              try simp only [Act.put, List.setIfInBounds_toArray, List.set_cons_zero, List.set_cons_succ]
              refine wpAnyH_take (i := 37) (oi := ⟨some 45, _, _, _, _, _⟩) (v := ?_) rfl (by kernel_rfl) (by kernel_rfl) (by kernel_rfl) (fun _ _ _ h => h) (Or.inl ⟨by rfl, ?_⟩) hHeld ?_
              rotate_left
              · first | (intro w hSw; (try dsimp only at hSw); go_simp; done) | (intro w hSw; (try dsimp only at hSw); go_simp; with_reducible rfl)
              try simp only [Act.put, List.setIfInBounds_toArray, List.set_cons_zero, List.set_cons_succ]
              as_aux_lemma =>
                refine wpAnyH_take (i := 38) (oi := ⟨some 46, _, _, _, _, _⟩) (v := .agg (polC (pol0 w.heap.size)).toList.toArray) rfl (by kernel_rfl) (by kernel_rfl) (by kernel_rfl) (fun _ _ _ h => h) (yieldsIf_load_mid (by rfl) 24 _ rfl (w.heap.size + 1 + 1 + 1) 0 rfl (polC (pol0 w.heap.size)).toList _ (fun _ h => h.range) Tryd.underlying24 rfl (polInfoL _)) hHeld ?_
                try simp only [Act.put, List.setIfInBounds_toArray, List.set_cons_zero, List.set_cons_succ]
                refine wpAnyH_take (i := 39) (oi := ⟨some 47, _, _, _, _, _⟩) (v := ?_) rfl (by kernel_rfl) (by kernel_rfl) (by kernel_rfl) (fun _ _ _ h => h) (Or.inl ⟨by rfl, ?_⟩) hHeld ?_
                rotate_left
                · first | (intro w hSw; (try dsimp only at hSw); go_simp; done) | (intro w hSw; (try dsimp only at hSw); go_simp; with_reducible rfl)
                try simp only [Act.put, List.setIfInBounds_toArray, List.set_cons_zero, List.set_cons_succ]
                refine wpAnyH_ready (rs := [40]) (by kernel_rfl) (by simp) ?_
                refine AllReadyH.cons rfl (fun K hK => ?_) AllReadyH.nil
                go_simp
                refine (hostP_any (pol0 w.heap.size) (kH 0 ⟨#[]⟩ 0) _ hHeld.pol (kH_ok _ _ _ (by decide) (by decide)) (ht.next hHeld.below)).mono ?_
                rintro e w11 ⟨rfl, hb⟩
                rw [show hostA (pol0 w.heap.size).hosts.l (kH 0 ⟨#[]⟩ 0) = true from ha5]
                have hT := hHeld.keep hb
                clear hb hHeld
                go_wp2_with fail
                refine hK.out _ _ (hT) (fun hHeld => ?_)
                clear hK K
                try simp only [Act.put, List.setIfInBounds_toArray, List.set_cons_zero, List.set_cons_succ]
                refine wpAnyH_take (i := 41) (oi := ⟨some 49, _, _, _, _, _⟩) (v := ?_) rfl (by kernel_rfl) (by kernel_rfl) (by kernel_rfl) (fun _ _ _ h => h) (Or.inl ⟨by rfl, ?_⟩) hHeld ?_
                rotate_left
                · first | (intro w hSw; (try dsimp only at hSw); go_simp; done) | (intro w hSw; (try dsimp only at hSw); go_simp; with_reducible rfl)
                try simp only [Act.put, List.setIfInBounds_toArray, List.set_cons_zero, List.set_cons_succ]
                refine wpAnyH_take (i := 42) (oi := ⟨some 50, _, _, _, _, _⟩) (v := ?_) rfl (by kernel_rfl) (by kernel_rfl) (by kernel_rfl) (fun _ _ _ h => h) (Or.inl ⟨by rfl, ?_⟩) hHeld ?_
                rotate_left
                · first | (intro w hSw; (try dsimp only at hSw); go_simp; done) | (intro w hSw; (try dsimp only at hSw); go_simp; with_reducible rfl)
                try simp only [Act.put, List.setIfInBounds_toArray, List.set_cons_zero, List.set_cons_succ]
                as_aux_lemma =>
                  refine wpAnyH_take (i := 43) (oi := ⟨some 51, _, _, _, _, _⟩) (v := .agg (polC (pol0 w.heap.size)).toList.toArray) rfl (by kernel_rfl) (by kernel_rfl) (by kernel_rfl) (fun _ _ _ h => h) (yieldsIf_load_mid (by rfl) 24 _ rfl (w.heap.size + 1 + 1 + 1) 0 rfl (polC (pol0 w.heap.size)).toList _ (fun _ h => h.range) Tryd.underlying24 rfl (polInfoL _)) hHeld ?_
                  try simp only [Act.put, List.setIfInBounds_toArray, List.set_cons_zero, List.set_cons_succ]
                  refine wpAnyH_take (i := 44) (oi := ⟨some 52, _, _, _, _, _⟩) (v := ?_) rfl (by kernel_rfl) (by kernel_rfl) (by kernel_rfl) (fun _ _ _ h => h) (Or.inl ⟨by rfl, ?_⟩) hHeld ?_
                  rotate_left
                  · first | (intro w hSw; (try dsimp only at hSw); go_simp; done) | (intro w hSw; (try dsimp only at hSw); go_simp; with_reducible rfl)
                  try simp only [Act.put, List.setIfInBounds_toArray, List.set_cons_zero, List.set_cons_succ]
                  refine wpAnyH_ready (rs := [45]) (by kernel_rfl) (by simp) ?_
                  refine AllReadyH.cons rfl (fun K hK => ?_) AllReadyH.nil
                  go_simp
                  refine (hostP_any (pol0 w.heap.size) (kH 5 ⟨#[120, 46, 97, 46, 98]⟩ 0) _ hHeld.pol (kH_ok _ _ _ (by decide) (by decide)) (ht.next hHeld.below)).mono ?_
                  rintro e w12 ⟨rfl, hb⟩
                  rw [show hostA (pol0 w.heap.size).hosts.l (kH 5 ⟨#[120, 46, 97, 46, 98]⟩ 0) = false from ha6]
                  have hT := hHeld.keep hb
                  clear hb hHeld
                  go_wp2_with fail
                  refine hK.out _ _ (hT) (fun hHeld => ?_)
                  clear hK K
                  try simp only [Act.put, List.setIfInBounds_toArray, List.set_cons_zero, List.set_cons_succ]
                  refine wpAnyH_take (i := 46) (oi := ⟨some 54, _, _, _, _, _⟩) (v := ?_) rfl (by kernel_rfl) (by kernel_rfl) (by kernel_rfl) (fun _ _ _ h => h) (Or.inl ⟨by rfl, ?_⟩) hHeld ?_
                  rotate_left
                  · first | (intro w hSw; (try dsimp only at hSw); go_simp; done) | (intro w hSw; (try dsimp only at hSw); go_simp; with_reducible rfl)
                  try simp only [Act.put, List.setIfInBounds_toArray, List.set_cons_zero, List.set_cons_succ]
                  refine wpAnyH_take (i := 47) (oi := ⟨some 55, _, _, _, _, _⟩) (v := ?_) rfl (by kernel_rfl) (by kernel_rfl) (by kernel_rfl) (fun _ _ _ h => h) (Or.inl ⟨by rfl, ?_⟩) hHeld ?_
                  rotate_left
                  · first | (intro w hSw; (try dsimp only at hSw); go_simp; done) | (intro w hSw; (try dsimp only at hSw); go_simp; with_reducible rfl)
                  try simp only [Act.put, List.setIfInBounds_toArray, List.set_cons_zero, List.set_cons_succ]
                  refine wpAnyH_take (i := 48) (oi := ⟨some 56, _, _, _, _, _⟩) (v := ?_) rfl (by kernel_rfl) (by kernel_rfl) (by kernel_rfl) (fun _ _ _ h => h) (Or.inl ⟨by rfl, ?_⟩) hHeld ?_
                  rotate_left
                  · first | (intro w hSw; (try dsimp only at hSw); go_simp; done) | (intro w hSw; (try dsimp only at hSw); go_simp; with_reducible rfl)
                  try simp only [Act.put, List.setIfInBounds_toArray, List.set_cons_zero, List.set_cons_succ]
                  refine wpAnyH_take (i := 51) (oi := ⟨some 59, _, _, _, _, _⟩) (v := ?_) rfl (by kernel_rfl) (by kernel_rfl) (by kernel_rfl) (fun _ _ _ h => h) (Or.inl ⟨by rfl, ?_⟩) hHeld ?_
                  rotate_left
                  · first | (intro w hSw; (try dsimp only at hSw); go_simp; done) | (intro w hSw; (try dsimp only at hSw); go_simp; with_reducible rfl)
                  try simp only [Act.put, List.setIfInBounds_toArray, List.set_cons_zero, List.set_cons_succ]
                  refine wpAnyH_ready (rs := [49, 52]) (by kernel_rfl) (by simp) ?_
                  refine AllReadyH.cons rfl (fun K hK => ?_) (AllReadyH.cons rfl (fun K hK => ?_) AllReadyH.nil)
                  · go_simp
                    have hQ0 : StrsOk (w12.alloc (.cells #[.string ⟨#[42]⟩] 9)) ⟨some ⟨w12.heap.size, 0, none⟩, 1, [⟨#[42]⟩]⟩ := strsOk_row 1 (heap_new rfl) (by decide) (by decide)
                    refine hK.out _ _ (hHeld.keep ((Below.refl _ _).alloc (Nat.le_refl _) _)) (fun hHeld2 => ?_)
                    clear hK K hHeld
                    try simp only [Act.put, List.setIfInBounds_toArray, List.set_cons_zero, List.set_cons_succ]
                    refine wpAnyH_take (i := 50) (oi := ⟨some 58, _, _, _, _, _⟩) (v := ?_) rfl (by kernel_rfl) (by kernel_rfl) (by kernel_rfl) (fun _ _ _ h => h) (Or.inl ⟨by rfl, ?_⟩) hHeld2 ?_
                    rotate_left
                    · first | (intro w hSw; (try dsimp only at hSw); go_simp; done) | (intro w hSw; (try dsimp only at hSw); go_simp; with_reducible rfl)
                    try simp only [Act.put, List.setIfInBounds_toArray, List.set_cons_zero, List.set_cons_succ]
                    refine wpAnyH_ready (rs := [52]) (by kernel_rfl) (by simp) ?_
                    refine AllReadyH.cons rfl (fun K hK => ?_) AllReadyH.nil
                    go_simp
                    refine (nm_any ⟨#[113]⟩ _).mono ?_
                    rintro e w13 ⟨rfl, hb⟩
                    have hT := hHeld2.keep hb
                    have hQ := hQ0.below hb (Nat.le_refl _)
                    clear hb hHeld2 hQ0
                    go_wp2_with fail
                    refine hK.out _ _ (hT) (fun hHeld => ?_)
                    clear hK K
                    try simp only [Act.put, List.setIfInBounds_toArray, List.set_cons_zero, List.set_cons_succ]
                    refine wpAnyH_ready (rs := [53]) (by kernel_rfl) (by simp) ?_
                    refine AllReadyH.cons rfl (fun K hK => ?_) AllReadyH.nil
                    go_simp
                    refine (hostP_any (polQ w12.heap.size) (kH 2 ⟨#[113]⟩ 0) _ ⟨strsOk_nil _, hQ, strsOk_nil _, rfl⟩ (kH_ok _ _ _ (by decide) (by decide)) (ht.next hHeld.below)).mono ?_
                    rintro e w14 ⟨rfl, hb⟩
                    rw [show hostA (polQ w12.heap.size).hosts.l (kH 2 ⟨#[113]⟩ 0) = true from haq]
                    have hT := hHeld.keep hb
                    clear hb hHeld hQ
                    go_wp2_with fail
                    refine hK.out _ _ (hT) (fun hHeld => ?_)
                    clear hK K
                    try simp only [Act.put, List.setIfInBounds_toArray, List.set_cons_zero, List.set_cons_succ]
                    refine wpAnyH_take (i := 54) (oi := ⟨some 62, _, _, _, _, _⟩) (v := ?_) rfl (by kernel_rfl) (by kernel_rfl) (by kernel_rfl) (fun _ _ _ h => h) (Or.inl ⟨by rfl, ?_⟩) hHeld ?_
                    rotate_left
                    · first | (intro w hSw; (try dsimp only at hSw); go_simp; done) | (intro w hSw; (try dsimp only at hSw); go_simp; with_reducible rfl)
                    try simp only [Act.put, List.setIfInBounds_toArray, List.set_cons_zero, List.set_cons_succ]
                    refine wpAnyH_take (i := 55) (oi := ⟨some 63, _, _, _, _, _⟩) (v := ?_) rfl (by kernel_rfl) (by kernel_rfl) (by kernel_rfl) (fun _ _ _ h => h) (Or.inl ⟨by rfl, ?_⟩) hHeld ?_
                    rotate_left
                    · first | (intro w hSw; (try dsimp only at hSw); go_simp; done) | (intro w hSw; (try dsimp only at hSw); go_simp; with_reducible rfl)
                    try simp only [Act.put, List.setIfInBounds_toArray, List.set_cons_zero, List.set_cons_succ]
                    as_aux_lemma =>
                      refine wpAnyH_take (i := 56) (oi := ⟨some 64, _, _, _, _, _⟩) (v := .agg (polC (pol0 w.heap.size)).toList.toArray) rfl (by kernel_rfl) (by kernel_rfl) (by kernel_rfl) (fun _ _ _ h => h) (yieldsIf_load_mid (by rfl) 24 _ rfl (w.heap.size + 1 + 1 + 1) 0 rfl (polC (pol0 w.heap.size)).toList _ (fun _ h => h.range) Tryd.underlying24 rfl (polInfoL _)) hHeld ?_
                      try simp only [Act.put, List.setIfInBounds_toArray, List.set_cons_zero, List.set_cons_succ]
                      refine wpAnyH_take (i := 57) (oi := ⟨some 65, _, _, _, _, _⟩) (v := ?_) rfl (by kernel_rfl) (by kernel_rfl) (by kernel_rfl) (fun _ _ _ h => h) (Or.inl ⟨by rfl, ?_⟩) hHeld ?_
                      rotate_left
                      · first | (intro w hSw; (try dsimp only at hSw); go_simp; done) | (intro w hSw; (try dsimp only at hSw); go_simp; with_reducible rfl)
                      try simp only [Act.put, List.setIfInBounds_toArray, List.set_cons_zero, List.set_cons_succ]
                      refine wpAnyH_ready (rs := [58]) (by kernel_rfl) (by simp) ?_
                      refine AllReadyH.cons rfl (fun K hK => ?_) AllReadyH.nil
                      go_simp
                      refine (dt_any ⟨#[73, 109, 97, 103, 101, 47, 80, 78, 71, 44, 120]⟩ _).mono ?_
                      rintro e w15 ⟨rfl, hb⟩
                      have hT := hHeld.keep hb
                      clear hb hHeld
                      go_wp2_with fail
                      refine hK.out _ _ (hT) (fun hHeld => ?_)
                      clear hK K
                      try simp only [Act.put, List.setIfInBounds_toArray, List.set_cons_zero, List.set_cons_succ]
                      refine wpAnyH_ready (rs := [59]) (by kernel_rfl) (by simp) ?_
                      refine AllReadyH.cons rfl (fun K hK => ?_) AllReadyH.nil
                      go_simp
                      refine (allows_any (pol0 w.heap.size) (ofU ⟨#[73, 109, 97, 103, 101, 47, 80, 78, 71, 44, 120]⟩) _ hHeld.pol (ofU_path _ _) (ofU_fit _ (by decide)) (by rw [ofU_text, toList_mk]; decide) (ht.next hHeld.below) (hm.next hHeld.below)).mono ?_
                      rintro e w16 ⟨rfl, hb⟩
                      rw [show allowsA (pol0 w.heap.size).schemes.l (pol0 w.heap.size).hosts.l (pol0 w.heap.size).types.l (ofU ⟨#[73, 109, 97, 103, 101, 47, 80, 78, 71, 44, 120]⟩) = true from al0]
                      have hT := hHeld.keep hb
                      clear hb hHeld
                      go_wp2_with fail
                      refine hK.out _ _ (hT) (fun hHeld => ?_)
                      clear hK K
                      try simp only [Act.put, List.setIfInBounds_toArray, List.set_cons_zero, List.set_cons_succ]
                      refine wpAnyH_take (i := 60) (oi := ⟨some 68, _, _, _, _, _⟩) (v := ?_) rfl (by kernel_rfl) (by kernel_rfl) (by kernel_rfl) (fun _ _ _ h => h) (Or.inl ⟨by rfl, ?_⟩) hHeld ?_
                      rotate_left
                      · first | (intro w hSw; (try dsimp only at hSw); go_simp; done) | (intro w hSw; (try dsimp only at hSw); go_simp; with_reducible rfl)
                      try simp only [Act.put, List.setIfInBounds_toArray, List.set_cons_zero, List.set_cons_succ]
                      refine wpAnyH_take (i := 61) (oi := ⟨some 69, _, _, _, _, _⟩) (v := ?_) rfl (by kernel_rfl) (by kernel_rfl) (by kernel_rfl) (fun _ _ _ h => h) (Or.inl ⟨by rfl, ?_⟩) hHeld ?_
                      rotate_left
                      · first | (intro w hSw; (try dsimp only at hSw); go_simp; done) | (intro w hSw; (try dsimp only at hSw); go_simp; with_reducible rfl)
                      try simp only [Act.put, List.setIfInBounds_toArray, List.set_cons_zero, List.set_cons_succ]
                      as_aux_lemma =>
                        refine wpAnyH_take (i := 62) (oi := ⟨some 70, _, _, _, _, _⟩) (v := .agg (polC (pol0 w.heap.size)).toList.toArray) rfl (by kernel_rfl) (by kernel_rfl) (by kernel_rfl) (fun _ _ _ h => h) (yieldsIf_load_mid (by rfl) 24 _ rfl (w.heap.size + 1 + 1 + 1) 0 rfl (polC (pol0 w.heap.size)).toList _ (fun _ h => h.range) Tryd.underlying24 rfl (polInfoL _)) hHeld ?_
                        try simp only [Act.put, List.setIfInBounds_toArray, List.set_cons_zero, List.set_cons_succ]
                        refine wpAnyH_take (i := 63) (oi := ⟨some 71, _, _, _, _, _⟩) (v := ?_) rfl (by kernel_rfl) (by kernel_rfl) (by kernel_rfl) (fun _ _ _ h => h) (Or.inl ⟨by rfl, ?_⟩) hHeld ?_
                        rotate_left
                        · first | (intro w hSw; (try dsimp only at hSw); go_simp; done) | (intro w hSw; (try dsimp only at hSw); go_simp; with_reducible rfl)
                        try simp only [Act.put, List.setIfInBounds_toArray, List.set_cons_zero, List.set_cons_succ]
                        refine wpAnyH_ready (rs := [64]) (by kernel_rfl) (by simp) ?_
                        refine AllReadyH.cons rfl (fun K hK => ?_) AllReadyH.nil
                        go_simp
                        refine (dt_any ⟨#[44, 120]⟩ _).mono ?_
                        rintro e w17 ⟨rfl, hb⟩
                        have hT := hHeld.keep hb
                        clear hb hHeld
                        go_wp2_with fail
                        refine hK.out _ _ (hT) (fun hHeld => ?_)
                        clear hK K
                        try simp only [Act.put, List.setIfInBounds_toArray, List.set_cons_zero, List.set_cons_succ]
                        refine wpAnyH_ready (rs := [65]) (by kernel_rfl) (by simp) ?_
                        refine AllReadyH.cons rfl (fun K hK => ?_) AllReadyH.nil
                        go_simp
                        refine (allows_any (pol0 w.heap.size) (ofU ⟨#[44, 120]⟩) _ hHeld.pol (ofU_path _ _) (ofU_fit _ (by decide)) (by rw [ofU_text, toList_mk]; decide) (ht.next hHeld.below) (hm.next hHeld.below)).mono ?_
                        rintro e w18 ⟨rfl, hb⟩
                        rw [show allowsA (pol0 w.heap.size).schemes.l (pol0 w.heap.size).hosts.l (pol0 w.heap.size).types.l (ofU ⟨#[44, 120]⟩) = false from al1]
                        have hT := hHeld.keep hb
                        clear hb hHeld
                        go_wp2_with fail
                        refine hK.out _ _ (hT) (fun hHeld => ?_)
                        clear hK K
                        try simp only [Act.put, List.setIfInBounds_toArray, List.set_cons_zero, List.set_cons_succ]
                        refine wpAnyH_take (i := 66) (oi := ⟨some 74, _, _, _, _, _⟩) (v := ?_) rfl (by kernel_rfl) (by kernel_rfl) (by kernel_rfl) (fun _ _ _ h => h) (Or.inl ⟨by rfl, ?_⟩) hHeld ?_
                        rotate_left
                        · first | (intro w hSw; (try dsimp only at hSw); go_simp; done) | (intro w hSw; (try dsimp only at hSw); go_simp; with_reducible rfl)
                        try simp only [Act.put, List.setIfInBounds_toArray, List.set_cons_zero, List.set_cons_succ]
                        refine wpAnyH_take (i := 67) (oi := ⟨some 75, _, _, _, _, _⟩) (v := ?_) rfl (by kernel_rfl) (by kernel_rfl) (by kernel_rfl) (fun _ _ _ h => h) (Or.inl ⟨by rfl, ?_⟩) hHeld ?_
                        rotate_left
                        · first | (intro w hSw; (try dsimp only at hSw); go_simp; done) | (intro w hSw; (try dsimp only at hSw); go_simp; with_reducible rfl)
                        try simp only [Act.put, List.setIfInBounds_toArray, List.set_cons_zero, List.set_cons_succ]
                        refine wpAnyH_take (i := 68) (oi := ⟨some 76, _, _, _, _, _⟩) (v := ?_) rfl (by kernel_rfl) (by kernel_rfl) (by kernel_rfl) (fun _ _ _ h => h) (Or.inl ⟨by rfl, ?_⟩) hHeld ?_
                        rotate_left
                        · first | (intro w hSw; (try dsimp only at hSw); go_simp; done) | (intro w hSw; (try dsimp only at hSw); go_simp; with_reducible rfl)
                        try simp only [Act.put, List.setIfInBounds_toArray, List.set_cons_zero, List.set_cons_succ]
                        as_aux_lemma =>
                          refine wpAnyH_take (i := 69) (oi := ⟨some 77, _, _, _, _, _⟩) (v := .agg (polC (pol0 w.heap.size)).toList.toArray) rfl (by kernel_rfl) (by kernel_rfl) (by kernel_rfl) (fun _ _ _ h => h) (yieldsIf_load_mid (by rfl) 24 _ rfl (w.heap.size + 1 + 1 + 1) 0 rfl (polC (pol0 w.heap.size)).toList _ (fun _ h => h.range) Tryd.underlying24 rfl (polInfoL _)) hHeld ?_
                          try simp only [Act.put, List.setIfInBounds_toArray, List.set_cons_zero, List.set_cons_succ]
                          refine wpAnyH_take (i := 70) (oi := ⟨some 78, _, _, _, _, _⟩) (v := ?_) rfl (by kernel_rfl) (by kernel_rfl) (by kernel_rfl) (fun _ _ _ h => h) (Or.inl ⟨by rfl, ?_⟩) hHeld ?_
                          rotate_left
                          · first | (intro w hSw; (try dsimp only at hSw); go_simp; done) | (intro w hSw; (try dsimp only at hSw); go_simp; with_reducible rfl)
                          try simp only [Act.put, List.setIfInBounds_toArray, List.set_cons_zero, List.set_cons_succ]
                          refine wpAnyH_ready (rs := [71]) (by kernel_rfl) (by simp) ?_
                          refine AllReadyH.cons rfl (fun K hK => ?_) AllReadyH.nil
                          go_simp
                          refine (dt_any ⟨#[105, 109, 97, 103, 101, 47, 112, 110, 103]⟩ _).mono ?_
                          rintro e w19 ⟨rfl, hb⟩
                          have hT := hHeld.keep hb
                          clear hb hHeld
                          go_wp2_with fail
                          refine hK.out _ _ (hT) (fun hHeld => ?_)
                          clear hK K
                          try simp only [Act.put, List.setIfInBounds_toArray, List.set_cons_zero, List.set_cons_succ]
                          refine wpAnyH_ready (rs := [72]) (by kernel_rfl) (by simp) ?_
                          refine AllReadyH.cons rfl (fun K hK => ?_) AllReadyH.nil
                          go_simp
                          refine (allows_any (pol0 w.heap.size) (ofU ⟨#[105, 109, 97, 103, 101, 47, 112, 110, 103]⟩) _ hHeld.pol (ofU_path _ _) (ofU_fit _ (by decide)) (by rw [ofU_text, toList_mk]; decide) (ht.next hHeld.below) (hm.next hHeld.below)).mono ?_
                          rintro e w20 ⟨rfl, hb⟩
                          rw [show allowsA (pol0 w.heap.size).schemes.l (pol0 w.heap.size).hosts.l (pol0 w.heap.size).types.l (ofU ⟨#[105, 109, 97, 103, 101, 47, 112, 110, 103]⟩) = false from al2]
                          have hT := hHeld.keep hb
                          clear hb hHeld
                          go_wp2_with fail
                          refine hK.out _ _ (hT) (fun hHeld => ?_)
                          clear hK K
                          try simp only [Act.put, List.setIfInBounds_toArray, List.set_cons_zero, List.set_cons_succ]
                          refine wpAnyH_take (i := 73) (oi := ⟨some 81, _, _, _, _, _⟩) (v := ?_) rfl (by kernel_rfl) (by kernel_rfl) (by kernel_rfl) (fun _ _ _ h => h) (Or.inl ⟨by rfl, ?_⟩) hHeld ?_
                          rotate_left
                          · first | (intro w hSw; (try dsimp only at hSw); go_simp; done) | (intro w hSw; (try dsimp only at hSw); go_simp; with_reducible rfl)
                          try simp only [Act.put, List.setIfInBounds_toArray, List.set_cons_zero, List.set_cons_succ]
                          refine wpAnyH_take (i := 74) (oi := ⟨some 82, _, _, _, _, _⟩) (v := ?_) rfl (by kernel_rfl) (by kernel_rfl) (by kernel_rfl) (fun _ _ _ h => h) (Or.inl ⟨by rfl, ?_⟩) hHeld ?_
                          rotate_left
                          · first | (intro w hSw; (try dsimp only at hSw); go_simp; done) | (intro w hSw; (try dsimp only at hSw); go_simp; with_reducible rfl)
                          try simp only [Act.put, List.setIfInBounds_toArray, List.set_cons_zero, List.set_cons_succ]
                          refine wpAnyH_take (i := 75) (oi := ⟨some 83, _, _, _, _, _⟩) (v := ?_) rfl (by kernel_rfl) (by kernel_rfl) (by kernel_rfl) (fun _ _ _ h => h) (Or.inl ⟨by rfl, ?_⟩) hHeld ?_
                          rotate_left
                          · first | (intro w hSw; (try dsimp only at hSw); go_simp; done) | (intro w hSw; (try dsimp only at hSw); go_simp; with_reducible rfl)
                          try simp only [Act.put, List.setIfInBounds_toArray, List.set_cons_zero, List.set_cons_succ]
                          as_aux_lemma =>
                            refine wpAnyH_take (i := 76) (oi := ⟨some 84, _, _, _, _, _⟩) (v := .agg (polC (pol0 w.heap.size)).toList.toArray) rfl (by kernel_rfl) (by kernel_rfl) (by kernel_rfl) (fun _ _ _ h => h) (yieldsIf_load_mid (by rfl) 24 _ rfl (w.heap.size + 1 + 1 + 1) 0 rfl (polC (pol0 w.heap.size)).toList _ (fun _ h => h.range) Tryd.underlying24 rfl (polInfoL _)) hHeld ?_
                            try simp only [Act.put, List.setIfInBounds_toArray, List.set_cons_zero, List.set_cons_succ]
                            refine wpAnyH_take (i := 77) (oi := ⟨some 85, _, _, _, _, _⟩) (v := ?_) rfl (by kernel_rfl) (by kernel_rfl) (by kernel_rfl) (fun _ _ _ h => h) (Or.inl ⟨by rfl, ?_⟩) hHeld ?_
                            rotate_left
                            · first | (intro w hSw; (try dsimp only at hSw); go_simp; done) | (intro w hSw; (try dsimp only at hSw); go_simp; with_reducible rfl)
                            try simp only [Act.put, List.setIfInBounds_toArray, List.set_cons_zero, List.set_cons_succ]
                            refine wpAnyH_ready (rs := [78]) (by kernel_rfl) (by simp) ?_
                            refine AllReadyH.cons rfl (fun K hK => ?_) AllReadyH.nil
                            go_simp
                            refine (nm_any ⟨#[99, 46, 97, 46, 98]⟩ _).mono ?_
                            rintro e w21 ⟨rfl, hb⟩
                            have hT := hHeld.keep hb
                            clear hb hHeld
                            go_wp2_with fail
                            refine hK.out _ _ (hT) (fun hHeld => ?_)
                            clear hK K
                            try simp only [Act.put, List.setIfInBounds_toArray, List.set_cons_zero, List.set_cons_succ]
                            refine wpAnyH_take (i := 79) (oi := ⟨some 87, _, _, _, _, _⟩) (v := (.agg (urlC (urlH ⟨#[104, 116, 116, 112]⟩ (kH 2 ⟨#[99, 46, 97, 46, 98]⟩ 0))))) rfl (by kernel_rfl) (by kernel_rfl) (by kernel_rfl) (fun _ _ _ h => h) (Or.inl ⟨by rfl, ?_⟩) hHeld ?_
                            · intro w hSw; (try dsimp only at hSw); go_simp; first | done | rfl
                            try simp only [Act.put, List.setIfInBounds_toArray, List.set_cons_zero, List.set_cons_succ]
                            refine wpAnyH_ready (rs := [80]) (by kernel_rfl) (by simp) ?_
                            refine AllReadyH.cons rfl (fun K hK => ?_) AllReadyH.nil
                            go_simp
                            refine (allows_any (pol0 w.heap.size) (urlH ⟨#[104, 116, 116, 112]⟩ (kH 2 ⟨#[99, 46, 97, 46, 98]⟩ 0)) _ hHeld.pol (urlH_path _ _ _) (urlH_fit _ _ (by decide) (kH_ok _ _ _ (by decide) (by decide)) (by decide)) (urlH_text _ _ (by decide) (by decide)) (ht.next hHeld.below) (hm.next hHeld.below)).mono ?_
                            rintro e w22 ⟨rfl, hb⟩
                            rw [show allowsA (pol0 w.heap.size).schemes.l (pol0 w.heap.size).hosts.l (pol0 w.heap.size).types.l (urlH ⟨#[104, 116, 116, 112]⟩ (kH 2 ⟨#[99, 46, 97, 46, 98]⟩ 0)) = true from allows_http hb0]
                            have hT := hHeld.keep hb
                            clear hb hHeld
                            go_wp2_with fail
                            refine hK.out _ _ (hT) (fun hHeld => ?_)
                            clear hK K
                            try simp only [Act.put, List.setIfInBounds_toArray, List.set_cons_zero, List.set_cons_succ]
                            refine wpAnyH_take (i := 81) (oi := ⟨some 89, _, _, _, _, _⟩) (v := ?_) rfl (by kernel_rfl) (by kernel_rfl) (by kernel_rfl) (fun _ _ _ h => h) (Or.inl ⟨by rfl, ?_⟩) hHeld ?_
                            rotate_left
                            · first | (intro w hSw; (try dsimp only at hSw); go_simp; done) | (intro w hSw; (try dsimp only at hSw); go_simp; with_reducible rfl)
                            try simp only [Act.put, List.setIfInBounds_toArray, List.set_cons_zero, List.set_cons_succ]
                            refine wpAnyH_take (i := 82) (oi := ⟨some 90, _, _, _, _, _⟩) (v := ?_) rfl (by kernel_rfl) (by kernel_rfl) (by kernel_rfl) (fun _ _ _ h => h) (Or.inl ⟨by rfl, ?_⟩) hHeld ?_
                            rotate_left
                            · first | (intro w hSw; (try dsimp only at hSw); go_simp; done) | (intro w hSw; (try dsimp only at hSw); go_simp; with_reducible rfl)
                            try simp only [Act.put, List.setIfInBounds_toArray, List.set_cons_zero, List.set_cons_succ]
                            as_aux_lemma =>
                              refine wpAnyH_take (i := 83) (oi := ⟨some 91, _, _, _, _, _⟩) (v := .agg (polC (pol0 w.heap.size)).toList.toArray) rfl (by kernel_rfl) (by kernel_rfl) (by kernel_rfl) (fun _ _ _ h => h) (yieldsIf_load_mid (by rfl) 24 _ rfl (w.heap.size + 1 + 1 + 1) 0 rfl (polC (pol0 w.heap.size)).toList _ (fun _ h => h.range) Tryd.underlying24 rfl (polInfoL _)) hHeld ?_
                              try simp only [Act.put, List.setIfInBounds_toArray, List.set_cons_zero, List.set_cons_succ]
                              refine wpAnyH_take (i := 84) (oi := ⟨some 92, _, _, _, _, _⟩) (v := ?_) rfl (by kernel_rfl) (by kernel_rfl) (by kernel_rfl) (fun _ _ _ h => h) (Or.inl ⟨by rfl, ?_⟩) hHeld ?_
                              rotate_left
                              · first | (intro w hSw; (try dsimp only at hSw); go_simp; done) | (intro w hSw; (try dsimp only at hSw); go_simp; with_reducible rfl)
                              try simp only [Act.put, List.setIfInBounds_toArray, List.set_cons_zero, List.set_cons_succ]
                              refine wpAnyH_ready (rs := [85]) (by kernel_rfl) (by simp) ?_
                              refine AllReadyH.cons rfl (fun K hK => ?_) AllReadyH.nil
                              go_simp
                              refine (nm_any ⟨#[99]⟩ _).mono ?_
                              rintro e w23 ⟨rfl, hb⟩
                              have hT := hHeld.keep hb
                              clear hb hHeld
                              go_wp2_with fail
                              refine hK.out _ _ (hT) (fun hHeld => ?_)
                              clear hK K
                              try simp only [Act.put, List.setIfInBounds_toArray, List.set_cons_zero, List.set_cons_succ]
                              refine wpAnyH_take (i := 86) (oi := ⟨some 94, _, _, _, _, _⟩) (v := (.agg (urlC (urlH ⟨#[104, 116, 116, 112]⟩ (kH 2 ⟨#[99]⟩ 0))))) rfl (by kernel_rfl) (by kernel_rfl) (by kernel_rfl) (fun _ _ _ h => h) (Or.inl ⟨by rfl, ?_⟩) hHeld ?_
                              · intro w hSw; (try dsimp only at hSw); go_simp; first | done | rfl
                              try simp only [Act.put, List.setIfInBounds_toArray, List.set_cons_zero, List.set_cons_succ]
                              refine wpAnyH_ready (rs := [87]) (by kernel_rfl) (by simp) ?_
                              refine AllReadyH.cons rfl (fun K hK => ?_) AllReadyH.nil
                              go_simp
                              refine (allows_any (pol0 w.heap.size) (urlH ⟨#[104, 116, 116, 112]⟩ (kH 2 ⟨#[99]⟩ 0)) _ hHeld.pol (urlH_path _ _ _) (urlH_fit _ _ (by decide) (kH_ok _ _ _ (by decide) (by decide)) (by decide)) (urlH_text _ _ (by decide) (by decide)) (ht.next hHeld.below) (hm.next hHeld.below)).mono ?_
                              rintro e w24 ⟨rfl, hb⟩
                              rw [show allowsA (pol0 w.heap.size).schemes.l (pol0 w.heap.size).hosts.l (pol0 w.heap.size).types.l (urlH ⟨#[104, 116, 116, 112]⟩ (kH 2 ⟨#[99]⟩ 0)) = false from allows_http hb1]
                              have hT := hHeld.keep hb
                              clear hb hHeld
                              go_wp2_with fail
                              refine hK.out _ _ (hT) (fun hHeld => ?_)
                              clear hK K
                              try simp only [Act.put, List.setIfInBounds_toArray, List.set_cons_zero, List.set_cons_succ]
                              refine wpAnyH_take (i := 88) (oi := ⟨some 96, _, _, _, _, _⟩) (v := ?_) rfl (by kernel_rfl) (by kernel_rfl) (by kernel_rfl) (fun _ _ _ h => h) (Or.inl ⟨by rfl, ?_⟩) hHeld ?_
                              rotate_left
                              · first | (intro w hSw; (try dsimp only at hSw); go_simp; done) | (intro w hSw; (try dsimp only at hSw); go_simp; with_reducible rfl)
                              try simp only [Act.put, List.setIfInBounds_toArray, List.set_cons_zero, List.set_cons_succ]
                              refine wpAnyH_take (i := 89) (oi := ⟨some 97, _, _, _, _, _⟩) (v := ?_) rfl (by kernel_rfl) (by kernel_rfl) (by kernel_rfl) (fun _ _ _ h => h) (Or.inl ⟨by rfl, ?_⟩) hHeld ?_
                              rotate_left
                              · first | (intro w hSw; (try dsimp only at hSw); go_simp; done) | (intro w hSw; (try dsimp only at hSw); go_simp; with_reducible rfl)
                              try simp only [Act.put, List.setIfInBounds_toArray, List.set_cons_zero, List.set_cons_succ]
                              refine wpAnyH_take (i := 90) (oi := ⟨some 98, _, _, _, _, _⟩) (v := ?_) rfl (by kernel_rfl) (by kernel_rfl) (by kernel_rfl) (fun _ _ _ h => h) (Or.inl ⟨by rfl, ?_⟩) hHeld ?_
                              rotate_left
                              · first | (intro w hSw; (try dsimp only at hSw); go_simp; done) | (intro w hSw; (try dsimp only at hSw); go_simp; with_reducible rfl)
                              try simp only [Act.put, List.setIfInBounds_toArray, List.set_cons_zero, List.set_cons_succ]
                              as_aux_lemma =>
                                refine wpAnyH_take (i := 91) (oi := ⟨some 99, _, _, _, _, _⟩) (v := .agg (polC (pol0 w.heap.size)).toList.toArray) rfl (by kernel_rfl) (by kernel_rfl) (by kernel_rfl) (fun _ _ _ h => h) (yieldsIf_load_mid (by rfl) 24 _ rfl (w.heap.size + 1 + 1 + 1) 0 rfl (polC (pol0 w.heap.size)).toList _ (fun _ h => h.range) Tryd.underlying24 rfl (polInfoL _)) hHeld ?_
                                try simp only [Act.put, List.setIfInBounds_toArray, List.set_cons_zero, List.set_cons_succ]
                                refine wpAnyH_take (i := 92) (oi := ⟨some 100, _, _, _, _, _⟩) (v := ?_) rfl (by kernel_rfl) (by kernel_rfl) (by kernel_rfl) (fun _ _ _ h => h) (Or.inl ⟨by rfl, ?_⟩) hHeld ?_
                                rotate_left
                                · first | (intro w hSw; (try dsimp only at hSw); go_simp; done) | (intro w hSw; (try dsimp only at hSw); go_simp; with_reducible rfl)
                                try simp only [Act.put, List.setIfInBounds_toArray, List.set_cons_zero, List.set_cons_succ]
                                refine wpAnyH_ready (rs := [93]) (by kernel_rfl) (by simp) ?_
                                refine AllReadyH.cons rfl (fun K hK => ?_) AllReadyH.nil
                                go_simp
                                refine (allows_any (pol0 w.heap.size) (urlH ⟨#[120]⟩ (kH 0 ⟨#[]⟩ 0)) _ hHeld.pol (urlH_path _ _ _) (urlH_fit _ _ (by decide) (kH_ok _ _ _ (by decide) (by decide)) (by decide)) (urlH_text _ _ (by decide) (by decide)) (ht.next hHeld.below) (hm.next hHeld.below)).mono ?_
                                rintro e w25 ⟨rfl, hb⟩
                                rw [show allowsA (pol0 w.heap.size).schemes.l (pol0 w.heap.size).hosts.l (pol0 w.heap.size).types.l (urlH ⟨#[120]⟩ (kH 0 ⟨#[]⟩ 0)) = false from allows_x]
                                have hT := hHeld.keep hb
                                clear hb hHeld
                                go_wp2_with fail
                                refine hK.out _ _ (hT) (fun hHeld => ?_)
                                clear hK K
                                try simp only [Act.put, List.setIfInBounds_toArray, List.set_cons_zero, List.set_cons_succ]
                                refine wpAnyH_take (i := 94) (oi := ⟨some 102, _, _, _, _, _⟩) (v := ?_) rfl (by kernel_rfl) (by kernel_rfl) (by kernel_rfl) (fun _ _ _ h => h) (Or.inl ⟨by rfl, ?_⟩) hHeld ?_
                                rotate_left
                                · first | (intro w hSw; (try dsimp only at hSw); go_simp; done) | (intro w hSw; (try dsimp only at hSw); go_simp; with_reducible rfl)
                                try simp only [Act.put, List.setIfInBounds_toArray, List.set_cons_zero, List.set_cons_succ]
                                refine wpAnyH_take (i := 95) (oi := ⟨some 103, _, _, _, _, _⟩) (v := ?_) rfl (by kernel_rfl) (by kernel_rfl) (by kernel_rfl) (fun _ _ _ h => h) (Or.inl ⟨by rfl, ?_⟩) hHeld ?_
                                rotate_left
                                · first | (intro w hSw; (try dsimp only at hSw); go_simp; done) | (intro w hSw; (try dsimp only at hSw); go_simp; with_reducible rfl)
                                try simp only [Act.put, List.setIfInBounds_toArray, List.set_cons_zero, List.set_cons_succ]
                                refine wpAnyH_ready (rs := [96]) (by kernel_rfl) (by simp) ?_
                                refine AllReadyH.cons rfl (fun K hK => ?_) AllReadyH.nil
                                go_simp
                                refine hK.out _ _ (hHeld) (fun hHeld => ?_)
                                clear hK K
                                try simp only [Act.put, List.setIfInBounds_toArray, List.set_cons_zero, List.set_cons_succ]
                                refine wpAnyH_done (by kernel_rfl) ?_ _
                                refine NoPanic.normal ?_
                                go_wp2_with fail
                                go_ret
                                exact ⟨rfl, hHeld.below⟩
                  · go_simp
                    refine (nm_any ⟨#[113]⟩ _).mono ?_
                    rintro e w13 ⟨rfl, hb⟩
                    have hT := hHeld.keep hb
                    clear hb hHeld
                    go_wp2_with fail
                    refine hK.out _ _ hT (fun hHeld => ?_)
                    clear hK K hT
                    try simp only [Act.put, List.setIfInBounds_toArray, List.set_cons_zero, List.set_cons_succ]
                    refine wpAnyH_ready (rs := [49]) (by kernel_rfl) (by simp) ?_
                    refine AllReadyH.cons rfl (fun K hK => ?_) AllReadyH.nil
                    go_simp
                    have hQ : StrsOk (w13.alloc (.cells #[.string ⟨#[42]⟩] 9)) ⟨some ⟨w13.heap.size, 0, none⟩, 1, [⟨#[42]⟩]⟩ := strsOk_row 1 (heap_new rfl) (by decide) (by decide)
                    refine hK.out _ _ (hHeld.keep ((Below.refl _ _).alloc (Nat.le_refl _) _)) (fun hHeld2 => ?_)
                    clear hK K hHeld
                    have hHeld := hHeld2
                    clear hHeld2
                    try simp only [Act.put, List.setIfInBounds_toArray, List.set_cons_zero, List.set_cons_succ]
                    refine wpAnyH_take (i := 50) (oi := ⟨some 58, _, _, _, _, _⟩) (v := ?_) rfl (by kernel_rfl) (by kernel_rfl) (by kernel_rfl) (fun _ _ _ h => h) (Or.inl ⟨by rfl, ?_⟩) hHeld ?_
                    rotate_left
                    · first | (intro w hSw; (try dsimp only at hSw); go_simp; done) | (intro w hSw; (try dsimp only at hSw); go_simp; with_reducible rfl)
                    try simp only [Act.put, List.setIfInBounds_toArray, List.set_cons_zero, List.set_cons_succ]
                    refine wpAnyH_ready (rs := [53]) (by kernel_rfl) (by simp) ?_
                    refine AllReadyH.cons rfl (fun K hK => ?_) AllReadyH.nil
                    go_simp
                    refine (hostP_any (polQ w13.heap.size) (kH 2 ⟨#[113]⟩ 0) _ ⟨strsOk_nil _, hQ, strsOk_nil _, rfl⟩ (kH_ok _ _ _ (by decide) (by decide)) (ht.next hHeld.below)).mono ?_
                    rintro e w14 ⟨rfl, hb⟩
                    rw [show hostA (polQ w13.heap.size).hosts.l (kH 2 ⟨#[113]⟩ 0) = true from haq]
                    have hT := hHeld.keep hb
                    clear hb hHeld hQ
                    go_wp2_with fail
                    refine hK.out _ _ (hT) (fun hHeld => ?_)
                    clear hK K
                    try simp only [Act.put, List.setIfInBounds_toArray, List.set_cons_zero, List.set_cons_succ]
                    refine wpAnyH_take (i := 54) (oi := ⟨some 62, _, _, _, _, _⟩) (v := ?_) rfl (by kernel_rfl) (by kernel_rfl) (by kernel_rfl) (fun _ _ _ h => h) (Or.inl ⟨by rfl, ?_⟩) hHeld ?_
                    rotate_left
                    · first | (intro w hSw; (try dsimp only at hSw); go_simp; done) | (intro w hSw; (try dsimp only at hSw); go_simp; with_reducible rfl)
                    try simp only [Act.put, List.setIfInBounds_toArray, List.set_cons_zero, List.set_cons_succ]
                    refine wpAnyH_take (i := 55) (oi := ⟨some 63, _, _, _, _, _⟩) (v := ?_) rfl (by kernel_rfl) (by kernel_rfl) (by kernel_rfl) (fun _ _ _ h => h) (Or.inl ⟨by rfl, ?_⟩) hHeld ?_
                    rotate_left
                    · first | (intro w hSw; (try dsimp only at hSw); go_simp; done) | (intro w hSw; (try dsimp only at hSw); go_simp; with_reducible rfl)
                    try simp only [Act.put, List.setIfInBounds_toArray, List.set_cons_zero, List.set_cons_succ]
                    as_aux_lemma =>
                      refine wpAnyH_take (i := 56) (oi := ⟨some 64, _, _, _, _, _⟩) (v := .agg (polC (pol0 w.heap.size)).toList.toArray) rfl (by kernel_rfl) (by kernel_rfl) (by kernel_rfl) (fun _ _ _ h => h) (yieldsIf_load_mid (by rfl) 24 _ rfl (w.heap.size + 1 + 1 + 1) 0 rfl (polC (pol0 w.heap.size)).toList _ (fun _ h => h.range) Tryd.underlying24 rfl (polInfoL _)) hHeld ?_
                      try simp only [Act.put, List.setIfInBounds_toArray, List.set_cons_zero, List.set_cons_succ]
                      refine wpAnyH_take (i := 57) (oi := ⟨some 65, _, _, _, _, _⟩) (v := ?_) rfl (by kernel_rfl) (by kernel_rfl) (by kernel_rfl) (fun _ _ _ h => h) (Or.inl ⟨by rfl, ?_⟩) hHeld ?_
                      rotate_left
                      · first | (intro w hSw; (try dsimp only at hSw); go_simp; done) | (intro w hSw; (try dsimp only at hSw); go_simp; with_reducible rfl)
                      try simp only [Act.put, List.setIfInBounds_toArray, List.set_cons_zero, List.set_cons_succ]
                      refine wpAnyH_ready (rs := [58]) (by kernel_rfl) (by simp) ?_
                      refine AllReadyH.cons rfl (fun K hK => ?_) AllReadyH.nil
                      go_simp
                      refine (dt_any ⟨#[73, 109, 97, 103, 101, 47, 80, 78, 71, 44, 120]⟩ _).mono ?_
                      rintro e w15 ⟨rfl, hb⟩
                      have hT := hHeld.keep hb
                      clear hb hHeld
                      go_wp2_with fail
                      refine hK.out _ _ (hT) (fun hHeld => ?_)
                      clear hK K
                      try simp only [Act.put, List.setIfInBounds_toArray, List.set_cons_zero, List.set_cons_succ]
                      refine wpAnyH_ready (rs := [59]) (by kernel_rfl) (by simp) ?_
                      refine AllReadyH.cons rfl (fun K hK => ?_) AllReadyH.nil
                      go_simp
                      refine (allows_any (pol0 w.heap.size) (ofU ⟨#[73, 109, 97, 103, 101, 47, 80, 78, 71, 44, 120]⟩) _ hHeld.pol (ofU_path _ _) (ofU_fit _ (by decide)) (by rw [ofU_text, toList_mk]; decide) (ht.next hHeld.below) (hm.next hHeld.below)).mono ?_
                      rintro e w16 ⟨rfl, hb⟩
                      rw [show allowsA (pol0 w.heap.size).schemes.l (pol0 w.heap.size).hosts.l (pol0 w.heap.size).types.l (ofU ⟨#[73, 109, 97, 103, 101, 47, 80, 78, 71, 44, 120]⟩) = true from al0]
                      have hT := hHeld.keep hb
                      clear hb hHeld
                      go_wp2_with fail
                      refine hK.out _ _ (hT) (fun hHeld => ?_)
                      clear hK K
                      try simp only [Act.put, List.setIfInBounds_toArray, List.set_cons_zero, List.set_cons_succ]
                      refine wpAnyH_take (i := 60) (oi := ⟨some 68, _, _, _, _, _⟩) (v := ?_) rfl (by kernel_rfl) (by kernel_rfl) (by kernel_rfl) (fun _ _ _ h => h) (Or.inl ⟨by rfl, ?_⟩) hHeld ?_
                      rotate_left
                      · first | (intro w hSw; (try dsimp only at hSw); go_simp; done) | (intro w hSw; (try dsimp only at hSw); go_simp; with_reducible rfl)
                      try simp only [Act.put, List.setIfInBounds_toArray, List.set_cons_zero, List.set_cons_succ]
                      refine wpAnyH_take (i := 61) (oi := ⟨some 69, _, _, _, _, _⟩) (v := ?_) rfl (by kernel_rfl) (by kernel_rfl) (by kernel_rfl) (fun _ _ _ h => h) (Or.inl ⟨by rfl, ?_⟩) hHeld ?_
                      rotate_left
                      · first | (intro w hSw; (try dsimp only at hSw); go_simp; done) | (intro w hSw; (try dsimp only at hSw); go_simp; with_reducible rfl)
                      try simp only [Act.put, List.setIfInBounds_toArray, List.set_cons_zero, List.set_cons_succ]
                      as_aux_lemma =>
                        refine wpAnyH_take (i := 62) (oi := ⟨some 70, _, _, _, _, _⟩) (v := .agg (polC (pol0 w.heap.size)).toList.toArray) rfl (by kernel_rfl) (by kernel_rfl) (by kernel_rfl) (fun _ _ _ h => h) (yieldsIf_load_mid (by rfl) 24 _ rfl (w.heap.size + 1 + 1 + 1) 0 rfl (polC (pol0 w.heap.size)).toList _ (fun _ h => h.range) Tryd.underlying24 rfl (polInfoL _)) hHeld ?_
                        try simp only [Act.put, List.setIfInBounds_toArray, List.set_cons_zero, List.set_cons_succ]
                        refine wpAnyH_take (i := 63) (oi := ⟨some 71, _, _, _, _, _⟩) (v := ?_) rfl (by kernel_rfl) (by kernel_rfl) (by kernel_rfl) (fun _ _ _ h => h) (Or.inl ⟨by rfl, ?_⟩) hHeld ?_
                        rotate_left
                        · first | (intro w hSw; (try dsimp only at hSw); go_simp; done) | (intro w hSw; (try dsimp only at hSw); go_simp; with_reducible rfl)
                        try simp only [Act.put, List.setIfInBounds_toArray, List.set_cons_zero, List.set_cons_succ]
                        refine wpAnyH_ready (rs := [64]) (by kernel_rfl) (by simp) ?_
                        refine AllReadyH.cons rfl (fun K hK => ?_) AllReadyH.nil
                        go_simp
                        refine (dt_any ⟨#[44, 120]⟩ _).mono ?_
                        rintro e w17 ⟨rfl, hb⟩
                        have hT := hHeld.keep hb
                        clear hb hHeld
                        go_wp2_with fail
                        refine hK.out _ _ (hT) (fun hHeld => ?_)
                        clear hK K
                        try simp only [Act.put, List.setIfInBounds_toArray, List.set_cons_zero, List.set_cons_succ]
                        refine wpAnyH_ready (rs := [65]) (by kernel_rfl) (by simp) ?_
                        refine AllReadyH.cons rfl (fun K hK => ?_) AllReadyH.nil
                        go_simp
                        refine (allows_any (pol0 w.heap.size) (ofU ⟨#[44, 120]⟩) _ hHeld.pol (ofU_path _ _) (ofU_fit _ (by decide)) (by rw [ofU_text, toList_mk]; decide) (ht.next hHeld.below) (hm.next hHeld.below)).mono ?_
                        rintro e w18 ⟨rfl, hb⟩
                        rw [show allowsA (pol0 w.heap.size).schemes.l (pol0 w.heap.size).hosts.l (pol0 w.heap.size).types.l (ofU ⟨#[44, 120]⟩) = false from al1]
                        have hT := hHeld.keep hb
                        clear hb hHeld
                        go_wp2_with fail
                        refine hK.out _ _ (hT) (fun hHeld => ?_)
                        clear hK K
                        try simp only [Act.put, List.setIfInBounds_toArray, List.set_cons_zero, List.set_cons_succ]
                        refine wpAnyH_take (i := 66) (oi := ⟨some 74, _, _, _, _, _⟩) (v := ?_) rfl (by kernel_rfl) (by kernel_rfl) (by kernel_rfl) (fun _ _ _ h => h) (Or.inl ⟨by rfl, ?_⟩) hHeld ?_
                        rotate_left
                        · first | (intro w hSw; (try dsimp only at hSw); go_simp; done) | (intro w hSw; (try dsimp only at hSw); go_simp; with_reducible rfl)
                        try simp only [Act.put, List.setIfInBounds_toArray, List.set_cons_zero, List.set_cons_succ]
                        refine wpAnyH_take (i := 67) (oi := ⟨some 75, _, _, _, _, _⟩) (v := ?_) rfl (by kernel_rfl) (by kernel_rfl) (by kernel_rfl) (fun _ _ _ h => h) (Or.inl ⟨by rfl, ?_⟩) hHeld ?_
                        rotate_left
                        · first | (intro w hSw; (try dsimp only at hSw); go_simp; done) | (intro w hSw; (try dsimp only at hSw); go_simp; with_reducible rfl)
                        try simp only [Act.put, List.setIfInBounds_toArray, List.set_cons_zero, List.set_cons_succ]
                        refine wpAnyH_take (i := 68) (oi := ⟨some 76, _, _, _, _, _⟩) (v := ?_) rfl (by kernel_rfl) (by kernel_rfl) (by kernel_rfl) (fun _ _ _ h => h) (Or.inl ⟨by rfl, ?_⟩) hHeld ?_
                        rotate_left
                        · first | (intro w hSw; (try dsimp only at hSw); go_simp; done) | (intro w hSw; (try dsimp only at hSw); go_simp; with_reducible rfl)
                        try simp only [Act.put, List.setIfInBounds_toArray, List.set_cons_zero, List.set_cons_succ]
                        as_aux_lemma =>
                          refine wpAnyH_take (i := 69) (oi := ⟨some 77, _, _, _, _, _⟩) (v := .agg (polC (pol0 w.heap.size)).toList.toArray) rfl (by kernel_rfl) (by kernel_rfl) (by kernel_rfl) (fun _ _ _ h => h) (yieldsIf_load_mid (by rfl) 24 _ rfl (w.heap.size + 1 + 1 + 1) 0 rfl (polC (pol0 w.heap.size)).toList _ (fun _ h => h.range) Tryd.underlying24 rfl (polInfoL _)) hHeld ?_
                          try simp only [Act.put, List.setIfInBounds_toArray, List.set_cons_zero, List.set_cons_succ]
                          refine wpAnyH_take (i := 70) (oi := ⟨some 78, _, _, _, _, _⟩) (v := ?_) rfl (by kernel_rfl) (by kernel_rfl) (by kernel_rfl) (fun _ _ _ h => h) (Or.inl ⟨by rfl, ?_⟩) hHeld ?_
                          rotate_left
                          · first | (intro w hSw; (try dsimp only at hSw); go_simp; done) | (intro w hSw; (try dsimp only at hSw); go_simp; with_reducible rfl)
                          try simp only [Act.put, List.setIfInBounds_toArray, List.set_cons_zero, List.set_cons_succ]
                          refine wpAnyH_ready (rs := [71]) (by kernel_rfl) (by simp) ?_
                          refine AllReadyH.cons rfl (fun K hK => ?_) AllReadyH.nil
                          go_simp
                          refine (dt_any ⟨#[105, 109, 97, 103, 101, 47, 112, 110, 103]⟩ _).mono ?_
                          rintro e w19 ⟨rfl, hb⟩
                          have hT := hHeld.keep hb
                          clear hb hHeld
                          go_wp2_with fail
                          refine hK.out _ _ (hT) (fun hHeld => ?_)
                          clear hK K
                          try simp only [Act.put, List.setIfInBounds_toArray, List.set_cons_zero, List.set_cons_succ]
                          refine wpAnyH_ready (rs := [72]) (by kernel_rfl) (by simp) ?_
                          refine AllReadyH.cons rfl (fun K hK => ?_) AllReadyH.nil
                          go_simp
                          refine (allows_any (pol0 w.heap.size) (ofU ⟨#[105, 109, 97, 103, 101, 47, 112, 110, 103]⟩) _ hHeld.pol (ofU_path _ _) (ofU_fit _ (by decide)) (by rw [ofU_text, toList_mk]; decide) (ht.next hHeld.below) (hm.next hHeld.below)).mono ?_
                          rintro e w20 ⟨rfl, hb⟩
                          rw [show allowsA (pol0 w.heap.size).schemes.l (pol0 w.heap.size).hosts.l (pol0 w.heap.size).types.l (ofU ⟨#[105, 109, 97, 103, 101, 47, 112, 110, 103]⟩) = false from al2]
                          have hT := hHeld.keep hb
                          clear hb hHeld
                          go_wp2_with fail
                          refine hK.out _ _ (hT) (fun hHeld => ?_)
                          clear hK K
                          try simp only [Act.put, List.setIfInBounds_toArray, List.set_cons_zero, List.set_cons_succ]
                          refine wpAnyH_take (i := 73) (oi := ⟨some 81, _, _, _, _, _⟩) (v := ?_) rfl (by kernel_rfl) (by kernel_rfl) (by kernel_rfl) (fun _ _ _ h => h) (Or.inl ⟨by rfl, ?_⟩) hHeld ?_
                          rotate_left
                          · first | (intro w hSw; (try dsimp only at hSw); go_simp; done) | (intro w hSw; (try dsimp only at hSw); go_simp; with_reducible rfl)
                          try simp only [Act.put, List.setIfInBounds_toArray, List.set_cons_zero, List.set_cons_succ]
                          refine wpAnyH_take (i := 74) (oi := ⟨some 82, _, _, _, _, _⟩) (v := ?_) rfl (by kernel_rfl) (by kernel_rfl) (by kernel_rfl) (fun _ _ _ h => h) (Or.inl ⟨by rfl, ?_⟩) hHeld ?_
                          rotate_left
                          · first | (intro w hSw; (try dsimp only at hSw); go_simp; done) | (intro w hSw; (try dsimp only at hSw); go_simp; with_reducible rfl)
                          try simp only [Act.put, List.setIfInBounds_toArray, List.set_cons_zero, List.set_cons_succ]
                          refine wpAnyH_take (i := 75) (oi := ⟨some 83, _, _, _, _, _⟩) (v := ?_) rfl (by kernel_rfl) (by kernel_rfl) (by kernel_rfl) (fun _ _ _ h => h) (Or.inl ⟨by rfl, ?_⟩) hHeld ?_
                          rotate_left
                          · first | (intro w hSw; (try dsimp only at hSw); go_simp; done) | (intro w hSw; (try dsimp only at hSw); go_simp; with_reducible rfl)
                          try simp only [Act.put, List.setIfInBounds_toArray, List.set_cons_zero, List.set_cons_succ]
                          as_aux_lemma =>
                            refine wpAnyH_take (i := 76) (oi := ⟨some 84, _, _, _, _, _⟩) (v := .agg (polC (pol0 w.heap.size)).toList.toArray) rfl (by kernel_rfl) (by kernel_rfl) (by kernel_rfl) (fun _ _ _ h => h) (yieldsIf_load_mid (by rfl) 24 _ rfl (w.heap.size + 1 + 1 + 1) 0 rfl (polC (pol0 w.heap.size)).toList _ (fun _ h => h.range) Tryd.underlying24 rfl (polInfoL _)) hHeld ?_
                            try simp only [Act.put, List.setIfInBounds_toArray, List.set_cons_zero, List.set_cons_succ]
                            refine wpAnyH_take (i := 77) (oi := ⟨some 85, _, _, _, _, _⟩) (v := ?_) rfl (by kernel_rfl) (by kernel_rfl) (by kernel_rfl) (fun _ _ _ h => h) (Or.inl ⟨by rfl, ?_⟩) hHeld ?_
                            rotate_left
                            · first | (intro w hSw; (try dsimp only at hSw); go_simp; done) | (intro w hSw; (try dsimp only at hSw); go_simp; with_reducible rfl)
                            try simp only [Act.put, List.setIfInBounds_toArray, List.set_cons_zero, List.set_cons_succ]
                            refine wpAnyH_ready (rs := [78]) (by kernel_rfl) (by simp) ?_
                            refine AllReadyH.cons rfl (fun K hK => ?_) AllReadyH.nil
                            go_simp
                            refine (nm_any ⟨#[99, 46, 97, 46, 98]⟩ _).mono ?_
                            rintro e w21 ⟨rfl, hb⟩
                            have hT := hHeld.keep hb
                            clear hb hHeld
                            go_wp2_with fail
                            refine hK.out _ _ (hT) (fun hHeld => ?_)
                            clear hK K
                            try simp only [Act.put, List.setIfInBounds_toArray, List.set_cons_zero, List.set_cons_succ]
                            refine wpAnyH_take (i := 79) (oi := ⟨some 87, _, _, _, _, _⟩) (v := (.agg (urlC (urlH ⟨#[104, 116, 116, 112]⟩ (kH 2 ⟨#[99, 46, 97, 46, 98]⟩ 0))))) rfl (by kernel_rfl) (by kernel_rfl) (by kernel_rfl) (fun _ _ _ h => h) (Or.inl ⟨by rfl, ?_⟩) hHeld ?_
                            · intro w hSw; (try dsimp only at hSw); go_simp; first | done | rfl
                            try simp only [Act.put, List.setIfInBounds_toArray, List.set_cons_zero, List.set_cons_succ]
                            refine wpAnyH_ready (rs := [80]) (by kernel_rfl) (by simp) ?_
                            refine AllReadyH.cons rfl (fun K hK => ?_) AllReadyH.nil
                            go_simp
                            refine (allows_any (pol0 w.heap.size) (urlH ⟨#[104, 116, 116, 112]⟩ (kH 2 ⟨#[99, 46, 97, 46, 98]⟩ 0)) _ hHeld.pol (urlH_path _ _ _) (urlH_fit _ _ (by decide) (kH_ok _ _ _ (by decide) (by decide)) (by decide)) (urlH_text _ _ (by decide) (by decide)) (ht.next hHeld.below) (hm.next hHeld.below)).mono ?_
                            rintro e w22 ⟨rfl, hb⟩
                            rw [show allowsA (pol0 w.heap.size).schemes.l (pol0 w.heap.size).hosts.l (pol0 w.heap.size).types.l (urlH ⟨#[104, 116, 116, 112]⟩ (kH 2 ⟨#[99, 46, 97, 46, 98]⟩ 0)) = true from allows_http hb0]
                            have hT := hHeld.keep hb
                            clear hb hHeld
                            go_wp2_with fail
                            refine hK.out _ _ (hT) (fun hHeld => ?_)
                            clear hK K
                            try simp only [Act.put, List.setIfInBounds_toArray, List.set_cons_zero, List.set_cons_succ]
                            refine wpAnyH_take (i := 81) (oi := ⟨some 89, _, _, _, _, _⟩) (v := ?_) rfl (by kernel_rfl) (by kernel_rfl) (by kernel_rfl) (fun _ _ _ h => h) (Or.inl ⟨by rfl, ?_⟩) hHeld ?_
                            rotate_left
                            · first | (intro w hSw; (try dsimp only at hSw); go_simp; done) | (intro w hSw; (try dsimp only at hSw); go_simp; with_reducible rfl)
                            try simp only [Act.put, List.setIfInBounds_toArray, List.set_cons_zero, List.set_cons_succ]
                            refine wpAnyH_take (i := 82) (oi := ⟨some 90, _, _, _, _, _⟩) (v := ?_) rfl (by kernel_rfl) (by kernel_rfl) (by kernel_rfl) (fun _ _ _ h => h) (Or.inl ⟨by rfl, ?_⟩) hHeld ?_
                            rotate_left
                            · first | (intro w hSw; (try dsimp only at hSw); go_simp; done) | (intro w hSw; (try dsimp only at hSw); go_simp; with_reducible rfl)
                            try simp only [Act.put, List.setIfInBounds_toArray, List.set_cons_zero, List.set_cons_succ]
                            as_aux_lemma =>
                              refine wpAnyH_take (i := 83) (oi := ⟨some 91, _, _, _, _, _⟩) (v := .agg (polC (pol0 w.heap.size)).toList.toArray) rfl (by kernel_rfl) (by kernel_rfl) (by kernel_rfl) (fun _ _ _ h => h) (yieldsIf_load_mid (by rfl) 24 _ rfl (w.heap.size + 1 + 1 + 1) 0 rfl (polC (pol0 w.heap.size)).toList _ (fun _ h => h.range) Tryd.underlying24 rfl (polInfoL _)) hHeld ?_
                              try simp only [Act.put, List.setIfInBounds_toArray, List.set_cons_zero, List.set_cons_succ]
                              refine wpAnyH_take (i := 84) (oi := ⟨some 92, _, _, _, _, _⟩) (v := ?_) rfl (by kernel_rfl) (by kernel_rfl) (by kernel_rfl) (fun _ _ _ h => h) (Or.inl ⟨by rfl, ?_⟩) hHeld ?_
                              rotate_left
                              · first | (intro w hSw; (try dsimp only at hSw); go_simp; done) | (intro w hSw; (try dsimp only at hSw); go_simp; with_reducible rfl)
                              try simp only [Act.put, List.setIfInBounds_toArray, List.set_cons_zero, List.set_cons_succ]
                              refine wpAnyH_ready (rs := [85]) (by kernel_rfl) (by simp) ?_
                              refine AllReadyH.cons rfl (fun K hK => ?_) AllReadyH.nil
                              go_simp
                              refine (nm_any ⟨#[99]⟩ _).mono ?_
                              rintro e w23 ⟨rfl, hb⟩
                              have hT := hHeld.keep hb
                              clear hb hHeld
                              go_wp2_with fail
                              refine hK.out _ _ (hT) (fun hHeld => ?_)
                              clear hK K
                              try simp only [Act.put, List.setIfInBounds_toArray, List.set_cons_zero, List.set_cons_succ]
                              refine wpAnyH_take (i := 86) (oi := ⟨some 94, _, _, _, _, _⟩) (v := (.agg (urlC (urlH ⟨#[104, 116, 116, 112]⟩ (kH 2 ⟨#[99]⟩ 0))))) rfl (by kernel_rfl) (by kernel_rfl) (by kernel_rfl) (fun _ _ _ h => h) (Or.inl ⟨by rfl, ?_⟩) hHeld ?_
                              · intro w hSw; (try dsimp only at hSw); go_simp; first | done | rfl
                              try simp only [Act.put, List.setIfInBounds_toArray, List.set_cons_zero, List.set_cons_succ]
                              refine wpAnyH_ready (rs := [87]) (by kernel_rfl) (by simp) ?_
                              refine AllReadyH.cons rfl (fun K hK => ?_) AllReadyH.nil
                              go_simp
                              refine (allows_any (pol0 w.heap.size) (urlH ⟨#[104, 116, 116, 112]⟩ (kH 2 ⟨#[99]⟩ 0)) _ hHeld.pol (urlH_path _ _ _) (urlH_fit _ _ (by decide) (kH_ok _ _ _ (by decide) (by decide)) (by decide)) (urlH_text _ _ (by decide) (by decide)) (ht.next hHeld.below) (hm.next hHeld.below)).mono ?_
                              rintro e w24 ⟨rfl, hb⟩
                              rw [show allowsA (pol0 w.heap.size).schemes.l (pol0 w.heap.size).hosts.l (pol0 w.heap.size).types.l (urlH ⟨#[104, 116, 116, 112]⟩ (kH 2 ⟨#[99]⟩ 0)) = false from allows_http hb1]
                              have hT := hHeld.keep hb
                              clear hb hHeld
                              go_wp2_with fail
                              refine hK.out _ _ (hT) (fun hHeld => ?_)
                              clear hK K
                              try simp only [Act.put, List.setIfInBounds_toArray, List.set_cons_zero, List.set_cons_succ]
                              refine wpAnyH_take (i := 88) (oi := ⟨some 96, _, _, _, _, _⟩) (v := ?_) rfl (by kernel_rfl) (by kernel_rfl) (by kernel_rfl) (fun _ _ _ h => h) (Or.inl ⟨by rfl, ?_⟩) hHeld ?_
                              rotate_left
                              · first | (intro w hSw; (try dsimp only at hSw); go_simp; done) | (intro w hSw; (try dsimp only at hSw); go_simp; with_reducible rfl)
                              try simp only [Act.put, List.setIfInBounds_toArray, List.set_cons_zero, List.set_cons_succ]
                              refine wpAnyH_take (i := 89) (oi := ⟨some 97, _, _, _, _, _⟩) (v := ?_) rfl (by kernel_rfl) (by kernel_rfl) (by kernel_rfl) (fun _ _ _ h => h) (Or.inl ⟨by rfl, ?_⟩) hHeld ?_
                              rotate_left
                              · first | (intro w hSw; (try dsimp only at hSw); go_simp; done) | (intro w hSw; (try dsimp only at hSw); go_simp; with_reducible rfl)
                              try simp only [Act.put, List.setIfInBounds_toArray, List.set_cons_zero, List.set_cons_succ]
                              refine wpAnyH_take (i := 90) (oi := ⟨some 98, _, _, _, _, _⟩) (v := ?_) rfl (by kernel_rfl) (by kernel_rfl) (by kernel_rfl) (fun _ _ _ h => h) (Or.inl ⟨by rfl, ?_⟩) hHeld ?_
                              rotate_left
                              · first | (intro w hSw; (try dsimp only at hSw); go_simp; done) | (intro w hSw; (try dsimp only at hSw); go_simp; with_reducible rfl)
                              try simp only [Act.put, List.setIfInBounds_toArray, List.set_cons_zero, List.set_cons_succ]
                              as_aux_lemma =>
                                refine wpAnyH_take (i := 91) (oi := ⟨some 99, _, _, _, _, _⟩) (v := .agg (polC (pol0 w.heap.size)).toList.toArray) rfl (by kernel_rfl) (by kernel_rfl) (by kernel_rfl) (fun _ _ _ h => h) (yieldsIf_load_mid (by rfl) 24 _ rfl (w.heap.size + 1 + 1 + 1) 0 rfl (polC (pol0 w.heap.size)).toList _ (fun _ h => h.range) Tryd.underlying24 rfl (polInfoL _)) hHeld ?_
                                try simp only [Act.put, List.setIfInBounds_toArray, List.set_cons_zero, List.set_cons_succ]
                                refine wpAnyH_take (i := 92) (oi := ⟨some 100, _, _, _, _, _⟩) (v := ?_) rfl (by kernel_rfl) (by kernel_rfl) (by kernel_rfl) (fun _ _ _ h => h) (Or.inl ⟨by rfl, ?_⟩) hHeld ?_
                                rotate_left
                                · first | (intro w hSw; (try dsimp only at hSw); go_simp; done) | (intro w hSw; (try dsimp only at hSw); go_simp; with_reducible rfl)
                                try simp only [Act.put, List.setIfInBounds_toArray, List.set_cons_zero, List.set_cons_succ]
                                refine wpAnyH_ready (rs := [93]) (by kernel_rfl) (by simp) ?_
                                refine AllReadyH.cons rfl (fun K hK => ?_) AllReadyH.nil
                                go_simp
                                refine (allows_any (pol0 w.heap.size) (urlH ⟨#[120]⟩ (kH 0 ⟨#[]⟩ 0)) _ hHeld.pol (urlH_path _ _ _) (urlH_fit _ _ (by decide) (kH_ok _ _ _ (by decide) (by decide)) (by decide)) (urlH_text _ _ (by decide) (by decide)) (ht.next hHeld.below) (hm.next hHeld.below)).mono ?_
                                rintro e w25 ⟨rfl, hb⟩
                                rw [show allowsA (pol0 w.heap.size).schemes.l (pol0 w.heap.size).hosts.l (pol0 w.heap.size).types.l (urlH ⟨#[120]⟩ (kH 0 ⟨#[]⟩ 0)) = false from allows_x]
                                have hT := hHeld.keep hb
                                clear hb hHeld
                                go_wp2_with fail
                                refine hK.out _ _ (hT) (fun hHeld => ?_)
                                clear hK K
                                try simp only [Act.put, List.setIfInBounds_toArray, List.set_cons_zero, List.set_cons_succ]
                                refine wpAnyH_take (i := 94) (oi := ⟨some 102, _, _, _, _, _⟩) (v := ?_) rfl (by kernel_rfl) (by kernel_rfl) (by kernel_rfl) (fun _ _ _ h => h) (Or.inl ⟨by rfl, ?_⟩) hHeld ?_
                                rotate_left
                                · first | (intro w hSw; (try dsimp only at hSw); go_simp; done) | (intro w hSw; (try dsimp only at hSw); go_simp; with_reducible rfl)
                                try simp only [Act.put, List.setIfInBounds_toArray, List.set_cons_zero, List.set_cons_succ]
                                refine wpAnyH_take (i := 95) (oi := ⟨some 103, _, _, _, _, _⟩) (v := ?_) rfl (by kernel_rfl) (by kernel_rfl) (by kernel_rfl) (fun _ _ _ h => h) (Or.inl ⟨by rfl, ?_⟩) hHeld ?_
                                rotate_left
                                · first | (intro w hSw; (try dsimp only at hSw); go_simp; done) | (intro w hSw; (try dsimp only at hSw); go_simp; with_reducible rfl)
                                try simp only [Act.put, List.setIfInBounds_toArray, List.set_cons_zero, List.set_cons_succ]
                                refine wpAnyH_ready (rs := [96]) (by kernel_rfl) (by simp) ?_
                                refine AllReadyH.cons rfl (fun K hK => ?_) AllReadyH.nil
                                go_simp
                                refine hK.out _ _ (hHeld) (fun hHeld => ?_)
                                clear hK K
                                try simp only [Act.put, List.setIfInBounds_toArray, List.set_cons_zero, List.set_cons_succ]
                                refine wpAnyH_done (by kernel_rfl) ?_ _
                                refine NoPanic.normal ?_
                                go_wp2_with fail
                                go_ret
                                exact ⟨rfl, hHeld.below⟩
end Go.Proofs.YtnalafhepnfggaaDoor
