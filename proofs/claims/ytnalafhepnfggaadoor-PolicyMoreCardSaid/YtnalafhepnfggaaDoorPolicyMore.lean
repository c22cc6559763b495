/- The walk of PolicyMore. -/
import Derived.Test.YtnalafhepnfggaaDoorPolicyHosts
import Derived.Test.YtnalafhepnfggaaDoorFewLen
import Derived.Test.YtnalafhepnfggaaDoorStep
namespace Go.Proofs.YtnalafhepnfggaaDoor
open Go.RowKit
set_option linter.unusedVariables false
set_option linter.unusedSimpArgs false

/-- The law's three boxes. -/
structure MIn (W wx : World) (p q : PolS) (u : UrlS) : Prop where
  below : Below W.heap.size W wx
  a : wx.heap[W.heap.size]? = some (.cells (polC p) 24 (0, 0))
  b : wx.heap[W.heap.size + 1]? = some (.cells (polC q) 24 (0, 0))
  c : wx.heap[W.heap.size + 1 + 1]? = some (.cells (urlC u) 31 (0, 0))
  size : W.heap.size + 3 ≤ wx.heap.size
theorem MIn.start (W : World) (p q : PolS) (u : UrlS) : MIn W (((W.alloc (.cells (polC p) 24)).alloc (.cells (polC q) 24)).alloc (.cells (urlC u) 31)) p q u :=
  ⟨(((Below.refl _ _).alloc (Nat.le_refl _) _).alloc (by simp) _).alloc (by simp <;> omega) _, heap_old (by simp <;> omega) (heap_alloc2_old W _ _), heap_old (by simp <;> omega) (heap_new (by simp)), heap_new (by simp), by simp⟩
theorem MIn.keepK {W wx w' : World} {p q : PolS} {u : UrlS} {K : Nat} (h : MIn W wx p q u) (hb : Below K wx w') (hK : W.heap.size + 3 ≤ K) : MIn W w' p q u :=
  ⟨h.below.trans (hb.mono (by omega)), (hb.block _ (by omega)).trans h.a, (hb.block _ (by omega)).trans h.b, (hb.block _ (by omega)).trans h.c, by have := hb.size; have := h.size; omega⟩
theorem MIn.keep {W wx w' : World} {p q : PolS} {u : UrlS} (h : MIn W wx p q u) (hb : Below wx.heap.size wx w') : MIn W w' p q u := h.keepK hb h.size
theorem OwnS.other {w : World} {B : Nat} {E : TypeId} {v : Value} {l : List ByteArray} (h : OwnS w B E v l) {g : Nat} (hg : g < B) (i : Nat) (x : Value) : OwnS (w.setCell ⟨g, i, none⟩ x) B E v l := by
  refine ⟨h.1, ?_⟩
  rcases h.2 with hn | ⟨k, cap, cur, rfl, hk, hh, rest⟩
  · exact .inl hn
  · refine .inr ⟨k, cap, cur, rfl, hk, ?_, rest⟩
    rw [← hh]
    simp only [World.setCell, Array.getElem?_modify]
    rw [if_neg (by omega)]
theorem OwnS.lower {w : World} {B B' : Nat} {E : TypeId} {v : Value} {l : List ByteArray} (h : OwnS w B E v l) (hB : B' ≤ B) : OwnS w B' E v l := by
  refine ⟨h.1, ?_⟩
  rcases h.2 with hn | ⟨k, cap, cur, rfl, hk, rest⟩
  · exact .inl hn
  · exact .inr ⟨k, cap, cur, rfl, by omega, rest⟩
theorem OwnS.strs {w : World} {B : Nat} {E : TypeId} {v : Value} {l : List ByteArray} (h : OwnS w B E v l) (hn : l.length ≤ maxLen) (he : ∀ t ∈ l, t.size ≤ maxLen) : ∃ (a : Option Addr) (c : Nat), v = .slice a l.length c ∧ StrsOk w ⟨a, c, l⟩ := by
  have hr := h.read
  rcases h.2 with ⟨rfl, h0⟩ | ⟨k, cap, cur, rfl, hk, rest⟩
  · have : l = [] := List.eq_nil_of_length_eq_zero h0
    subst this
    exact ⟨none, 0, rfl, strsOk_nil w⟩
  · obtain ⟨a, c, e, hc⟩ := hr
    refine ⟨_, _, rfl, ⟨?_, hn, he, fun x => by cases x⟩⟩
    injection e with e1 e2 e3
    subst e1
    exact hc
/-- .. and the one that is filled. -/
structure AllIn (W wx : World) (p q : PolS) (u : UrlS) (g : Nat) (v0 v1 v2 : Value) (l0 l1 l2 : List ByteArray) : Prop where
  m : MIn W wx p q u
  hg : W.heap.size + 3 ≤ g
  blk : wx.heap[g]? = some (.cells #[v0, v1, v2, .int .i64 0] 24 (0, 0))
  o0 : OwnS wx (g + 1) 9 v0 l0
  o1 : OwnS wx (g + 1) 9 v1 l1
  o2 : OwnS wx (g + 1) 9 v2 l2
theorem AllIn.lt {W wx : World} {p q : PolS} {u : UrlS} {g : Nat} {v0 v1 v2 : Value} {l0 l1 l2 : List ByteArray} (h : AllIn W wx p q u g v0 v1 v2 l0 l1 l2) : g < wx.heap.size := (Array.getElem?_eq_some_iff.1 h.blk).1
theorem AllIn.keep {W wx w' : World} {p q : PolS} {u : UrlS} {g : Nat} {v0 v1 v2 : Value} {l0 l1 l2 : List ByteArray} (h : AllIn W wx p q u g v0 v1 v2 l0 l1 l2) (hb : Below wx.heap.size wx w') : AllIn W w' p q u g v0 v1 v2 l0 l1 l2 :=
  ⟨h.m.keep hb, h.hg, (hb.block _ h.lt).trans h.blk, h.o0.below hb (Nat.le_refl _), h.o1.below hb (Nat.le_refl _), h.o2.below hb (Nat.le_refl _)⟩
theorem set_block {w : World} {g i : Nat} {cs : Array Value} {T : TypeId} {v : Value} (h : w.heap[g]? = some (.cells cs T (0, 0))) : (w.setCell ⟨g, i, none⟩ v).heap[g]? = some (.cells (cs.setIfInBounds i v) T (0, 0)) := by
  simp only [World.setCell, Array.getElem?_modify, if_true, h]; rfl
theorem AllIn.store0 {W wx : World} {p q : PolS} {u : UrlS} {g : Nat} {v0 v1 v2 : Value} {l0 l1 l2 : List ByteArray} (h : AllIn W wx p q u g v0 v1 v2 l0 l1 l2) {v : Value} {l : List ByteArray} (o : OwnS wx (g + 1) 9 v l) :
    AllIn W (wx.setCell ⟨g, 0, none⟩ v) p q u g v v1 v2 l l1 l2 :=
  ⟨h.m.keepK ((Below.refl (W.heap.size + 3) wx).setCell (p := ⟨g, 0, none⟩) h.hg v) (Nat.le_refl _), h.hg, set_block h.blk, (o.other (by omega) _ _), (h.o1.other (by omega) _ _), (h.o2.other (by omega) _ _)⟩
theorem AllIn.store1 {W wx : World} {p q : PolS} {u : UrlS} {g : Nat} {v0 v1 v2 : Value} {l0 l1 l2 : List ByteArray} (h : AllIn W wx p q u g v0 v1 v2 l0 l1 l2) {v : Value} {l : List ByteArray} (o : OwnS wx (g + 1) 9 v l) :
    AllIn W (wx.setCell ⟨g, 1, none⟩ v) p q u g v0 v v2 l0 l l2 :=
  ⟨h.m.keepK ((Below.refl (W.heap.size + 3) wx).setCell (p := ⟨g, 1, none⟩) h.hg v) (Nat.le_refl _), h.hg, set_block h.blk, (h.o0.other (by omega) _ _), (o.other (by omega) _ _), (h.o2.other (by omega) _ _)⟩
theorem AllIn.store2 {W wx : World} {p q : PolS} {u : UrlS} {g : Nat} {v0 v1 v2 : Value} {l0 l1 l2 : List ByteArray} (h : AllIn W wx p q u g v0 v1 v2 l0 l1 l2) {v : Value} {l : List ByteArray} (o : OwnS wx (g + 1) 9 v l) :
    AllIn W (wx.setCell ⟨g, 2, none⟩ v) p q u g v0 v1 v l0 l1 l :=
  ⟨h.m.keepK ((Below.refl (W.heap.size + 3) wx).setCell (p := ⟨g, 2, none⟩) h.hg v) (Nat.le_refl _), h.hg, set_block h.blk, (h.o0.other (by omega) _ _), (h.o1.other (by omega) _ _), (o.other (by omega) _ _)⟩
theorem AllIn.drew {W wx : World} {p q : PolS} {u : UrlS} {g : Nat} {v0 v1 v2 : Value} {l0 l1 l2 : List ByteArray} (h : AllIn W wx p q u g v0 v1 v2 l0 l1 l2) : AllIn W wx.drew p q u g v0 v1 v2 l0 l1 l2 := h.keep ((Below.refl _ _).drew)
theorem polC_at (p : PolS) (j : Nat) (hj : j < 3) : (polC p)[j]? = some (.slice (polX p j).a (polX p j).l.length (polX p j).c) := by
  match j, hj with
  | 0, _ => rfl
  | 1, _ => rfl
  | 2, _ => rfl
theorem MIn.pc {W wx : World} {p q : PolS} {u : UrlS} (h : MIn W wx p q u) (j : Nat) (hj : j < 3) : wx.cell? ⟨W.heap.size, j, none⟩ = some (.slice (polX p j).a (polX p j).l.length (polX p j).c) := (cell_of_row _ _ j _ _ _ h.a).trans (polC_at p j hj)
theorem MIn.qc {W wx : World} {p q : PolS} {u : UrlS} (h : MIn W wx p q u) (j : Nat) (hj : j < 3) : wx.cell? ⟨W.heap.size + 1, j, none⟩ = some (.slice (polX q j).a (polX q j).l.length (polX q j).c) := (cell_of_row _ _ j _ _ _ h.b).trans (polC_at q j hj)
theorem polX_ok {w : World} {p : PolS} (h : PolIn w p) (j : Nat) : StrsOk w (polX p j) := by
  match j with
  | 0 => exact h.schemes
  | 1 => exact h.hosts
  | j + 2 => exact h.types
theorem polX_few {p : PolS} (h : FewPol p) (j : Nat) : (polX p j).l.length ≤ 20 := by
  match j with
  | 0 => exact h.s
  | 1 => exact h.h
  | j + 2 => exact h.t
theorem strs_nil {w : World} {x : StrsS} (h : StrsOk w x) : x.a = none → x.c = 0 ∧ x.l = [] := fun e => ⟨h.nilC e, by
  cases hl : x.l with
  | nil => rfl
  | cons a b => obtain ⟨g, o, e2, _⟩ := h.cells (by rw [hl]; simp); rw [e] at e2; cases e2⟩
theorem AllIn.range {W wx : World} {p q : PolS} {u : UrlS} {g : Nat} {x0 x1 x2 : StrsS} {l0 l1 l2 : List ByteArray} (h : AllIn W wx p q u g x0.v x1.v x2.v l0 l1 l2) : wx.heap[g]? = some (.cells (polC ⟨x0, x1, x2, 0⟩) 24 (0, 0)) := h.blk
theorem pol_range {w : World} {g : Nat} {p : PolS} {T : TypeId} (h : w.heap[g]? = some (.cells (polC p) T (0, 0))) : w.rangeAt g 0 (polC p).toList := fun j v hv => by
  rw [cell_of_row w g (0 + j) _ _ _ h, Nat.zero_add]
  simpa using hv
/-- .. when it is filled. -/
structure MAll (W wx : World) (p q : PolS) (u : UrlS) (g : Nat) (all : PolS) : Prop where
  m : MIn W wx p q u
  blk : wx.heap[g]? = some (.cells (polC all) 24 (0, 0))
  pol : PolIn wx all
theorem MAll.keep {W wx w' : World} {p q : PolS} {u : UrlS} {g : Nat} {all : PolS} (h : MAll W wx p q u g all) (hb : Below wx.heap.size wx w') : MAll W w' p q u g all :=
  ⟨h.m.keep hb, (hb.block _ (Array.getElem?_eq_some_iff.1 h.blk).1).trans h.blk, h.pol.below hb (Nat.le_refl _)⟩
set_option maxRecDepth 100000 in
set_option maxHeartbeats 8000000 in
theorem policyMore_walk (p q : PolS) (u : UrlS) (W : World) (hp : PolIn W p) (hq : PolIn W q) (hu : UrlIn W u) (ht : Tabs W) (hm : ML W) :
    Calls Tryd.prog 3 #[.agg (polC p), .agg (polC q), .agg (urlC u)] W (RetB W true) := by
  have hI := MIn.start W p q u
  go_enter Tryd.func3, Tryd.ntmps3
  go_wp2_with fail
  refine (small23_any _ (ht.next hI.below) (hm.next hI.below)).mono ?_
  rintro e w1 ⟨rfl, hb⟩
  replace hI := hI.keep hb
  clear hb
  go_wp2_with (refine wpList_load_row rfl 24 _ rfl W.heap.size rfl _ (polC p) _ _ hI.a Tryd.underlying24 rfl polInfo ?_)
  refine (fewPol_any p _ (hp.below hI.below (Nat.le_refl _))).mono ?_
  rintro e w2 ⟨b1, rfl, hf1, hb⟩
  replace hI := hI.keep hb
  clear hb
  go_wp2_with (refine wpList_load_row rfl 24 _ rfl (W.heap.size + 1) rfl _ (polC q) _ _ hI.b Tryd.underlying24 rfl polInfo ?_)
  refine (fewPol_any q _ (hq.below hI.below (Nat.le_refl _))).mono ?_
  rintro e w3 ⟨b2, rfl, hf2, hb⟩
  replace hI := hI.keep hb
  clear hb
  go_wp2_with (refine wpList_load_row rfl 31 _ rfl (W.heap.size + 1 + 1) rfl _ (urlC u) _ _ hI.c Tryd.underlying31 rfl urlInfo ?_)
  refine (few_any u _ (hu.path.below hI.below (Nat.le_refl _)) hu.n hu.scheme hu.user hu.pass hu.flat hu.query hu.frag hu.host.name hu.each).mono ?_
  rintro e w4 ⟨b3, rfl, hf3, hb⟩
  replace hI := hI.keep hb
  clear hb
  by_cases hall : b1 = true ∧ b2 = true ∧ b3 = true
  rotate_left
  · have hway : b1 = false ∨ (b1 = true ∧ b2 = false) ∨ (b1 = true ∧ b2 = true ∧ b3 = false) := by
      cases b1 <;> cases b2 <;> cases b3 <;> simp_all
    clear hall hf1 hf2 hf3
    rcases hway with rfl | ⟨rfl, rfl⟩ | ⟨rfl, rfl, rfl⟩
    all_goals
      go_wp2_with fail
      go_ret
      exact ⟨rfl, hI.below⟩
  obtain ⟨rfl, rfl, rfl⟩ := hall
  replace hf1 := hf1 rfl
  replace hf2 := hf2 rfl
  replace hf3 := hf3 rfl
  have hfit := fit_of hu hf3
  have hz : Hid ((writeX u false).length ≤ 900000) := Lib.hid (Nat.le_trans (writeX_few hu hf3 false) (by decide))
  go_upto_region 8 with (fail)
  refine wp_gen13 (R := fun wx => AllIn W wx p q u w4.heap.size (.slice none 0 0) (.slice none 0 0) (.slice none 0 0) [] [] []) ⟨hI.keep ((Below.refl _ _).alloc (Nat.le_refl _) _), hI.size, heap_new rfl, World.ownsRow_nil _ _ _ _, World.ownsRow_nil _ _ _ _, World.ownsRow_nil _ _ _ _⟩ ?_
  clear hI
  generalize w4.heap.size = g
  intro z0 hA
  have hA1 := hA.drew
  refine wp_region_noPanic ?_
  refine wp_region_held_drew (S := fun w' => (∃ v l, AllIn W w' p q u g v (.slice none 0 0) (.slice none 0 0) l [] []) ∧ w'.cell? ⟨W.heap.size + 1, 0, none⟩ = some (.slice (polX q 0).a (polX q 0).l.length (polX q 0).c) ∧ w'.cell? ⟨W.heap.size, 0, none⟩ = some (.slice (polX p 0).a (polX p 0).l.length (polX p 0).c)) (by kernel_rfl) (⟨⟨_, _, hA1⟩, hA1.m.qc 0 (by decide), hA1.m.pc 0 (by decide)⟩) (fun hHeld => ?_)
  clear hA1
  refine wpAnyH_take (i := 1) (v := ?_) rfl (by kernel_rfl) (by kernel_rfl) (by kernel_rfl) (fun _ _ _ h => h) (Or.inl ⟨by rfl, ?_⟩) hHeld ?_
  rotate_left
  · first | (intro w hSw; (try dsimp only at hSw); go_simp; done) | (intro w hSw; (try dsimp only at hSw); go_simp; with_reducible rfl)
  try simp only [Act.put, List.setIfInBounds_toArray, List.set_cons_zero, List.set_cons_succ]
  refine wpAnyH_take (i := 2) (v := ?_) rfl (by kernel_rfl) (by kernel_rfl) (by kernel_rfl) (fun _ _ _ h => h) (Or.inl ⟨by rfl, ?_⟩) hHeld ?_
  rotate_left
  · first | (intro w hSw; (try dsimp only at hSw); go_simp; done) | (intro w hSw; (try dsimp only at hSw); go_simp; with_reducible rfl)
  try simp only [Act.put, List.setIfInBounds_toArray, List.set_cons_zero, List.set_cons_succ]
  refine wpAnyH_take (i := 4) (v := ?_) rfl (by kernel_rfl) (by kernel_rfl) (by kernel_rfl) (fun _ _ _ h => h) (Or.inl ⟨by rfl, ?_⟩) hHeld ?_
  rotate_left
  · first | (intro w hSw; (try dsimp only at hSw); go_simp; done) | (intro w hSw; (try dsimp only at hSw); go_simp; with_reducible rfl)
  try simp only [Act.put, List.setIfInBounds_toArray, List.set_cons_zero, List.set_cons_succ]
  refine wpAnyH_take (i := 5) (v := ?_) rfl (by kernel_rfl) (by kernel_rfl) (by kernel_rfl) (fun _ _ _ h => h) (Or.inl ⟨by rfl, ?_⟩) hHeld ?_
  rotate_left
  · first | (intro w hSw; (try dsimp only at hSw); go_simp; done) | (intro w hSw; (try dsimp only at hSw); go_simp; with_reducible rfl)
  try simp only [Act.put, List.setIfInBounds_toArray, List.set_cons_zero, List.set_cons_succ]
  refine wpAnyH_ready (rs := [0]) (by kernel_rfl) (by simp) ?_
  refine AllReadyH.cons rfl (fun K hK => ?_) AllReadyH.nil
  go_simp
  have hglt : g < z0.heap.size := hA.lt
  have hw0 : Below z0.heap.size z0 (z0.alloc (.cells #[] 9)).drew := ((Below.refl _ _).alloc (Nat.le_refl _) _).drew
  have ho0 : OwnS (z0.alloc (.cells #[] 9)).drew z0.heap.size 9 (.slice (some ⟨z0.heap.size, 0, none⟩) 0 0) [] := OwnS.empty (w := z0) (Nat.le_refl z0.heap.size)
  have hA1 := hA.keep hw0
  refine hK.out _ _ ⟨⟨_, _, hA1⟩, hA1.m.qc 0 (by decide), hA1.m.pc 0 (by decide)⟩ (fun hHeld => ?_)
  clear hK K
  try simp only [Act.put, List.setIfInBounds_toArray, List.set_cons_zero, List.set_cons_succ]
  have hxq := (polX_ok hq 0).below hA1.m.below (Nat.le_refl _)
  have hfq := polX_few hf2 0
  refine wpAnyH_ready (rs := [3]) (by kernel_rfl) (by simp) ?_
  refine AllReadyH.cons rfl (fun K hK => ?_) AllReadyH.nil
  refine step_of_list (by rfl) (fun Q' hQ' => ?_)
  refine wpList_moreS tyStr rfl _ _ rfl (W0 := z0) (polX q 0).l (polX q 0).a (polX q 0).c rfl rfl (strs_nil hxq) hxq.cells ho0 hw0 hw0.size (by simp only [List.length_nil, maxLen]; omega) (by simp only [List.length_nil]; omega) ?_
  intro c1 y1 ho1 hy1
  refine hQ' _ _ ?_
  have hA2 := hA.keep hy1
  refine hK.out _ _ ⟨⟨_, _, hA2⟩, hA2.m.qc 0 (by decide), hA2.m.pc 0 (by decide)⟩ (fun hHeld => ?_)
  clear hK K hQ' Q'
  try simp only [Act.put, List.setIfInBounds_toArray, List.set_cons_zero, List.set_cons_succ]
  have hxp := (polX_ok hp 0).below hA2.m.below (Nat.le_refl _)
  have hfp := polX_few hf1 0
  refine wpAnyH_ready (rs := [6]) (by kernel_rfl) (by simp) ?_
  refine AllReadyH.cons rfl (fun K hK => ?_) AllReadyH.nil
  refine step_of_list (by rfl) (fun Q' hQ' => ?_)
  refine wpList_moreS tyStr rfl _ _ rfl (W0 := z0) (polX p 0).l (polX p 0).a (polX p 0).c rfl rfl (strs_nil hxp) hxp.cells ho1 hy1 hy1.size (by simp only [List.nil_append, maxLen]; omega) (by simp only [List.nil_append]; omega) ?_
  intro d0 y2 ho2 hy2
  refine hQ' _ _ ?_
  have hA3 := hA.keep hy2
  refine hK.out _ _ ⟨⟨_, _, hA3⟩, hA3.m.qc 0 (by decide), hA3.m.pc 0 (by decide)⟩ (fun hHeld => ?_)
  clear hK K hQ' Q'
  try simp only [Act.put, List.setIfInBounds_toArray, List.set_cons_zero, List.set_cons_succ]
  rw [List.nil_append] at ho2
  obtain ⟨L, hL⟩ : ∃ L, (polX q 0).l ++ (polX p 0).l = L := ⟨_, rfl⟩
  rw [hL] at ho2
  replace hL := Lib.hid hL
  obtain ⟨da, dc, rfl, -⟩ := ho2.read
  refine wpAnyH_take (i := 7) (v := ?_) rfl (by kernel_rfl) (by kernel_rfl) (by kernel_rfl) (fun _ _ _ h => h) (Or.inl ⟨by rfl, ?_⟩) hHeld ?_
  rotate_left
  · first | (intro w hSw; (try dsimp only at hSw); go_simp; done) | (intro w hSw; (try dsimp only at hSw); go_simp; with_reducible rfl)
  try simp only [Act.put, List.setIfInBounds_toArray, List.set_cons_zero, List.set_cons_succ]
  have hcx := cell_of_row _ _ 0 _ _ _ hA3.blk
  have hfr := frozen_of_row _ _ 0 _ _ hA3.blk
  have hA4 := hA3.store0 (ho2.lower (by omega))
  clear hA hA1 hA2 hA3 ho0 ho1 ho2 hw0 hy1 hy2 hxq hxp hfq hfp
  refine wpAnyH_ready (rs := [8]) (by kernel_rfl) (by simp) ?_
  refine AllReadyH.cons rfl (fun K hK => ?_) AllReadyH.nil
  simp only [List.getElem?_toArray, List.getElem?_cons_zero, List.getElem?_cons_succ] at hcx
  go_simp
  refine hK.out _ _ ⟨⟨_, _, hA4⟩, hA4.m.qc 0 (by decide), hA4.m.pc 0 (by decide)⟩ (fun hHeld => ?_)
  clear hK K hcx hfr hglt
  try simp only [Act.put, List.setIfInBounds_toArray, List.set_cons_zero, List.set_cons_succ]
  refine wpAnyH_done (by kernel_rfl) ?_ _
  refine NoPanic.normal ?_
  go_upto_region 9 with (fail)
  refine wp_gen13 (R := fun wx => ∃ d0, AllIn W wx p q u g d0 (.slice none 0 0) (.slice none 0 0) ((polX q 0).l ++ (polX p 0).l) [] []) ⟨_, by rw [hL.out]; exact hA4⟩ ?_
  clear hHeld hA4 hL
  rintro z1 ⟨d0, hA⟩
  have hA1 := hA.drew
  refine wp_region_noPanic ?_
  refine wp_region_held_drew (S := fun w' => (∃ v l, AllIn W w' p q u g d0 v (.slice none 0 0) ((polX q 0).l ++ (polX p 0).l) l []) ∧ w'.cell? ⟨W.heap.size + 1, 1, none⟩ = some (.slice (polX q 1).a (polX q 1).l.length (polX q 1).c) ∧ w'.cell? ⟨W.heap.size, 1, none⟩ = some (.slice (polX p 1).a (polX p 1).l.length (polX p 1).c)) (by kernel_rfl) (⟨⟨_, _, hA1⟩, hA1.m.qc 1 (by decide), hA1.m.pc 1 (by decide)⟩) (fun hHeld => ?_)
  clear hA1
  refine wpAnyH_take (i := 1) (v := ?_) rfl (by kernel_rfl) (by kernel_rfl) (by kernel_rfl) (fun _ _ _ h => h) (Or.inl ⟨by rfl, ?_⟩) hHeld ?_
  rotate_left
  · first | (intro w hSw; (try dsimp only at hSw); go_simp; done) | (intro w hSw; (try dsimp only at hSw); go_simp; with_reducible rfl)
  try simp only [Act.put, List.setIfInBounds_toArray, List.set_cons_zero, List.set_cons_succ]
  refine wpAnyH_take (i := 2) (v := ?_) rfl (by kernel_rfl) (by kernel_rfl) (by kernel_rfl) (fun _ _ _ h => h) (Or.inl ⟨by rfl, ?_⟩) hHeld ?_
  rotate_left
  · first | (intro w hSw; (try dsimp only at hSw); go_simp; done) | (intro w hSw; (try dsimp only at hSw); go_simp; with_reducible rfl)
  try simp only [Act.put, List.setIfInBounds_toArray, List.set_cons_zero, List.set_cons_succ]
  refine wpAnyH_take (i := 4) (v := ?_) rfl (by kernel_rfl) (by kernel_rfl) (by kernel_rfl) (fun _ _ _ h => h) (Or.inl ⟨by rfl, ?_⟩) hHeld ?_
  rotate_left
  · first | (intro w hSw; (try dsimp only at hSw); go_simp; done) | (intro w hSw; (try dsimp only at hSw); go_simp; with_reducible rfl)
  try simp only [Act.put, List.setIfInBounds_toArray, List.set_cons_zero, List.set_cons_succ]
  refine wpAnyH_take (i := 5) (v := ?_) rfl (by kernel_rfl) (by kernel_rfl) (by kernel_rfl) (fun _ _ _ h => h) (Or.inl ⟨by rfl, ?_⟩) hHeld ?_
  rotate_left
  · first | (intro w hSw; (try dsimp only at hSw); go_simp; done) | (intro w hSw; (try dsimp only at hSw); go_simp; with_reducible rfl)
  try simp only [Act.put, List.setIfInBounds_toArray, List.set_cons_zero, List.set_cons_succ]
  refine wpAnyH_ready (rs := [0]) (by kernel_rfl) (by simp) ?_
  refine AllReadyH.cons rfl (fun K hK => ?_) AllReadyH.nil
  go_simp
  have hglt : g < z1.heap.size := hA.lt
  have hw0 : Below z1.heap.size z1 (z1.alloc (.cells #[] 9)).drew := ((Below.refl _ _).alloc (Nat.le_refl _) _).drew
  have ho0 : OwnS (z1.alloc (.cells #[] 9)).drew z1.heap.size 9 (.slice (some ⟨z1.heap.size, 0, none⟩) 0 0) [] := OwnS.empty (w := z1) (Nat.le_refl z1.heap.size)
  have hA1 := hA.keep hw0
  refine hK.out _ _ ⟨⟨_, _, hA1⟩, hA1.m.qc 1 (by decide), hA1.m.pc 1 (by decide)⟩ (fun hHeld => ?_)
  clear hK K
  try simp only [Act.put, List.setIfInBounds_toArray, List.set_cons_zero, List.set_cons_succ]
  have hxq := (polX_ok hq 1).below hA1.m.below (Nat.le_refl _)
  have hfq := polX_few hf2 1
  refine wpAnyH_ready (rs := [3]) (by kernel_rfl) (by simp) ?_
  refine AllReadyH.cons rfl (fun K hK => ?_) AllReadyH.nil
  refine step_of_list (by rfl) (fun Q' hQ' => ?_)
  refine wpList_moreS tyStr rfl _ _ rfl (W0 := z1) (polX q 1).l (polX q 1).a (polX q 1).c rfl rfl (strs_nil hxq) hxq.cells ho0 hw0 hw0.size (by simp only [List.length_nil, maxLen]; omega) (by simp only [List.length_nil]; omega) ?_
  intro c1 y1 ho1 hy1
  refine hQ' _ _ ?_
  have hA2 := hA.keep hy1
  refine hK.out _ _ ⟨⟨_, _, hA2⟩, hA2.m.qc 1 (by decide), hA2.m.pc 1 (by decide)⟩ (fun hHeld => ?_)
  clear hK K hQ' Q'
  try simp only [Act.put, List.setIfInBounds_toArray, List.set_cons_zero, List.set_cons_succ]
  have hxp := (polX_ok hp 1).below hA2.m.below (Nat.le_refl _)
  have hfp := polX_few hf1 1
  refine wpAnyH_ready (rs := [6]) (by kernel_rfl) (by simp) ?_
  refine AllReadyH.cons rfl (fun K hK => ?_) AllReadyH.nil
  refine step_of_list (by rfl) (fun Q' hQ' => ?_)
  refine wpList_moreS tyStr rfl _ _ rfl (W0 := z1) (polX p 1).l (polX p 1).a (polX p 1).c rfl rfl (strs_nil hxp) hxp.cells ho1 hy1 hy1.size (by simp only [List.nil_append, maxLen]; omega) (by simp only [List.nil_append]; omega) ?_
  intro d1 y2 ho2 hy2
  refine hQ' _ _ ?_
  have hA3 := hA.keep hy2
  refine hK.out _ _ ⟨⟨_, _, hA3⟩, hA3.m.qc 1 (by decide), hA3.m.pc 1 (by decide)⟩ (fun hHeld => ?_)
  clear hK K hQ' Q'
  try simp only [Act.put, List.setIfInBounds_toArray, List.set_cons_zero, List.set_cons_succ]
  rw [List.nil_append] at ho2
  obtain ⟨L, hL⟩ : ∃ L, (polX q 1).l ++ (polX p 1).l = L := ⟨_, rfl⟩
  rw [hL] at ho2
  replace hL := Lib.hid hL
  obtain ⟨da, dc, rfl, -⟩ := ho2.read
  refine wpAnyH_take (i := 7) (v := ?_) rfl (by kernel_rfl) (by kernel_rfl) (by kernel_rfl) (fun _ _ _ h => h) (Or.inl ⟨by rfl, ?_⟩) hHeld ?_
  rotate_left
  · first | (intro w hSw; (try dsimp only at hSw); go_simp; done) | (intro w hSw; (try dsimp only at hSw); go_simp; with_reducible rfl)
  try simp only [Act.put, List.setIfInBounds_toArray, List.set_cons_zero, List.set_cons_succ]
  have hcx := cell_of_row _ _ 1 _ _ _ hA3.blk
  have hfr := frozen_of_row _ _ 1 _ _ hA3.blk
  have hA4 := hA3.store1 (ho2.lower (by omega))
  clear hA hA1 hA2 hA3 ho0 ho1 ho2 hw0 hy1 hy2 hxq hxp hfq hfp
  refine wpAnyH_ready (rs := [8]) (by kernel_rfl) (by simp) ?_
  refine AllReadyH.cons rfl (fun K hK => ?_) AllReadyH.nil
  simp only [List.getElem?_toArray, List.getElem?_cons_zero, List.getElem?_cons_succ] at hcx
  go_simp
  refine hK.out _ _ ⟨⟨_, _, hA4⟩, hA4.m.qc 1 (by decide), hA4.m.pc 1 (by decide)⟩ (fun hHeld => ?_)
  clear hK K hcx hfr hglt
  try simp only [Act.put, List.setIfInBounds_toArray, List.set_cons_zero, List.set_cons_succ]
  refine wpAnyH_done (by kernel_rfl) ?_ _
  refine NoPanic.normal ?_
  go_upto_region 10 with (fail)
  refine wp_gen13 (R := fun wx => ∃ d1, AllIn W wx p q u g d0 d1 (.slice none 0 0) ((polX q 0).l ++ (polX p 0).l) ((polX q 1).l ++ (polX p 1).l) []) ⟨_, by rw [hL.out]; exact hA4⟩ ?_
  clear hHeld hA4 hL
  rintro z2 ⟨d1, hA⟩
  have hA1 := hA.drew
  refine wp_region_noPanic ?_
  refine wp_region_held_drew (S := fun w' => (∃ v l, AllIn W w' p q u g d0 d1 v ((polX q 0).l ++ (polX p 0).l) ((polX q 1).l ++ (polX p 1).l) l) ∧ w'.cell? ⟨W.heap.size + 1, 2, none⟩ = some (.slice (polX q 2).a (polX q 2).l.length (polX q 2).c) ∧ w'.cell? ⟨W.heap.size, 2, none⟩ = some (.slice (polX p 2).a (polX p 2).l.length (polX p 2).c)) (by kernel_rfl) (⟨⟨_, _, hA1⟩, hA1.m.qc 2 (by decide), hA1.m.pc 2 (by decide)⟩) (fun hHeld => ?_)
  clear hA1
  refine wpAnyH_take (i := 1) (v := ?_) rfl (by kernel_rfl) (by kernel_rfl) (by kernel_rfl) (fun _ _ _ h => h) (Or.inl ⟨by rfl, ?_⟩) hHeld ?_
  rotate_left
  · first | (intro w hSw; (try dsimp only at hSw); go_simp; done) | (intro w hSw; (try dsimp only at hSw); go_simp; with_reducible rfl)
  try simp only [Act.put, List.setIfInBounds_toArray, List.set_cons_zero, List.set_cons_succ]
  refine wpAnyH_take (i := 2) (v := ?_) rfl (by kernel_rfl) (by kernel_rfl) (by kernel_rfl) (fun _ _ _ h => h) (Or.inl ⟨by rfl, ?_⟩) hHeld ?_
  rotate_left
  · first | (intro w hSw; (try dsimp only at hSw); go_simp; done) | (intro w hSw; (try dsimp only at hSw); go_simp; with_reducible rfl)
  try simp only [Act.put, List.setIfInBounds_toArray, List.set_cons_zero, List.set_cons_succ]
  refine wpAnyH_take (i := 4) (v := ?_) rfl (by kernel_rfl) (by kernel_rfl) (by kernel_rfl) (fun _ _ _ h => h) (Or.inl ⟨by rfl, ?_⟩) hHeld ?_
  rotate_left
  · first | (intro w hSw; (try dsimp only at hSw); go_simp; done) | (intro w hSw; (try dsimp only at hSw); go_simp; with_reducible rfl)
  try simp only [Act.put, List.setIfInBounds_toArray, List.set_cons_zero, List.set_cons_succ]
  refine wpAnyH_take (i := 5) (v := ?_) rfl (by kernel_rfl) (by kernel_rfl) (by kernel_rfl) (fun _ _ _ h => h) (Or.inl ⟨by rfl, ?_⟩) hHeld ?_
  rotate_left
  · first | (intro w hSw; (try dsimp only at hSw); go_simp; done) | (intro w hSw; (try dsimp only at hSw); go_simp; with_reducible rfl)
  try simp only [Act.put, List.setIfInBounds_toArray, List.set_cons_zero, List.set_cons_succ]
  refine wpAnyH_ready (rs := [0]) (by kernel_rfl) (by simp) ?_
  refine AllReadyH.cons rfl (fun K hK => ?_) AllReadyH.nil
  go_simp
  have hglt : g < z2.heap.size := hA.lt
  have hw0 : Below z2.heap.size z2 (z2.alloc (.cells #[] 9)).drew := ((Below.refl _ _).alloc (Nat.le_refl _) _).drew
  have ho0 : OwnS (z2.alloc (.cells #[] 9)).drew z2.heap.size 9 (.slice (some ⟨z2.heap.size, 0, none⟩) 0 0) [] := OwnS.empty (w := z2) (Nat.le_refl z2.heap.size)
  have hA1 := hA.keep hw0
  refine hK.out _ _ ⟨⟨_, _, hA1⟩, hA1.m.qc 2 (by decide), hA1.m.pc 2 (by decide)⟩ (fun hHeld => ?_)
  clear hK K
  try simp only [Act.put, List.setIfInBounds_toArray, List.set_cons_zero, List.set_cons_succ]
  have hxq := (polX_ok hq 2).below hA1.m.below (Nat.le_refl _)
  have hfq := polX_few hf2 2
  refine wpAnyH_ready (rs := [3]) (by kernel_rfl) (by simp) ?_
  refine AllReadyH.cons rfl (fun K hK => ?_) AllReadyH.nil
  refine step_of_list (by rfl) (fun Q' hQ' => ?_)
  refine wpList_moreS tyStr rfl _ _ rfl (W0 := z2) (polX q 2).l (polX q 2).a (polX q 2).c rfl rfl (strs_nil hxq) hxq.cells ho0 hw0 hw0.size (by simp only [List.length_nil, maxLen]; omega) (by simp only [List.length_nil]; omega) ?_
  intro c1 y1 ho1 hy1
  refine hQ' _ _ ?_
  have hA2 := hA.keep hy1
  refine hK.out _ _ ⟨⟨_, _, hA2⟩, hA2.m.qc 2 (by decide), hA2.m.pc 2 (by decide)⟩ (fun hHeld => ?_)
  clear hK K hQ' Q'
  try simp only [Act.put, List.setIfInBounds_toArray, List.set_cons_zero, List.set_cons_succ]
  have hxp := (polX_ok hp 2).below hA2.m.below (Nat.le_refl _)
  have hfp := polX_few hf1 2
  refine wpAnyH_ready (rs := [6]) (by kernel_rfl) (by simp) ?_
  refine AllReadyH.cons rfl (fun K hK => ?_) AllReadyH.nil
  refine step_of_list (by rfl) (fun Q' hQ' => ?_)
  refine wpList_moreS tyStr rfl _ _ rfl (W0 := z2) (polX p 2).l (polX p 2).a (polX p 2).c rfl rfl (strs_nil hxp) hxp.cells ho1 hy1 hy1.size (by simp only [List.nil_append, maxLen]; omega) (by simp only [List.nil_append]; omega) ?_
  intro d2 y2 ho2 hy2
  refine hQ' _ _ ?_
  have hA3 := hA.keep hy2
  refine hK.out _ _ ⟨⟨_, _, hA3⟩, hA3.m.qc 2 (by decide), hA3.m.pc 2 (by decide)⟩ (fun hHeld => ?_)
  clear hK K hQ' Q'
  try simp only [Act.put, List.setIfInBounds_toArray, List.set_cons_zero, List.set_cons_succ]
  rw [List.nil_append] at ho2
  obtain ⟨L, hL⟩ : ∃ L, (polX q 2).l ++ (polX p 2).l = L := ⟨_, rfl⟩
  rw [hL] at ho2
  replace hL := Lib.hid hL
  obtain ⟨da, dc, rfl, -⟩ := ho2.read
  refine wpAnyH_take (i := 7) (v := ?_) rfl (by kernel_rfl) (by kernel_rfl) (by kernel_rfl) (fun _ _ _ h => h) (Or.inl ⟨by rfl, ?_⟩) hHeld ?_
  rotate_left
  · first | (intro w hSw; (try dsimp only at hSw); go_simp; done) | (intro w hSw; (try dsimp only at hSw); go_simp; with_reducible rfl)
  try simp only [Act.put, List.setIfInBounds_toArray, List.set_cons_zero, List.set_cons_succ]
  have hcx := cell_of_row _ _ 2 _ _ _ hA3.blk
  have hfr := frozen_of_row _ _ 2 _ _ hA3.blk
  have hA4 := hA3.store2 (ho2.lower (by omega))
  clear hA hA1 hA2 hA3 ho0 ho1 ho2 hw0 hy1 hy2 hxq hxp hfq hfp
  refine wpAnyH_ready (rs := [8]) (by kernel_rfl) (by simp) ?_
  refine AllReadyH.cons rfl (fun K hK => ?_) AllReadyH.nil
  simp only [List.getElem?_toArray, List.getElem?_cons_zero, List.getElem?_cons_succ] at hcx
  go_simp
  refine hK.out _ _ ⟨⟨_, _, hA4⟩, hA4.m.qc 2 (by decide), hA4.m.pc 2 (by decide)⟩ (fun hHeld => ?_)
  clear hK K hcx hfr hglt
  try simp only [Act.put, List.setIfInBounds_toArray, List.set_cons_zero, List.set_cons_succ]
  refine wpAnyH_done (by kernel_rfl) ?_ _
  refine NoPanic.normal ?_
  go_upto_region 11 with (fail)
  refine wp_gen13 (R := fun wx => ∃ d2, AllIn W wx p q u g d0 d1 d2 ((polX q 0).l ++ (polX p 0).l) ((polX q 1).l ++ (polX p 1).l) ((polX q 2).l ++ (polX p 2).l)) ⟨_, by rw [hL.out]; exact hA4⟩ ?_
  clear hHeld hA4 hL
  rintro z3 ⟨d2, hA⟩
  have n0 : ((polX q 0).l ++ (polX p 0).l).length ≤ maxLen := by rw [List.length_append]; have h1 := polX_few hf1 0; have h2 := polX_few hf2 0; unfold maxLen; omega
  have m0 : ∀ t ∈ (polX q 0).l ++ (polX p 0).l, t.size ≤ maxLen := fun t h => by
    rcases List.mem_append.1 h with h | h
    · exact (polX_ok hq 0).each t h
    · exact (polX_ok hp 0).each t h
  obtain ⟨a0, k0, rfl, x0⟩ := hA.o0.strs n0 m0
  have n1 : ((polX q 1).l ++ (polX p 1).l).length ≤ maxLen := by rw [List.length_append]; have h1 := polX_few hf1 1; have h2 := polX_few hf2 1; unfold maxLen; omega
  have m1 : ∀ t ∈ (polX q 1).l ++ (polX p 1).l, t.size ≤ maxLen := fun t h => by
    rcases List.mem_append.1 h with h | h
    · exact (polX_ok hq 1).each t h
    · exact (polX_ok hp 1).each t h
  obtain ⟨a1, k1, rfl, x1⟩ := hA.o1.strs n1 m1
  have n2 : ((polX q 2).l ++ (polX p 2).l).length ≤ maxLen := by rw [List.length_append]; have h1 := polX_few hf1 2; have h2 := polX_few hf2 2; unfold maxLen; omega
  have m2 : ∀ t ∈ (polX q 2).l ++ (polX p 2).l, t.size ≤ maxLen := fun t h => by
    rcases List.mem_append.1 h with h | h
    · exact (polX_ok hq 2).each t h
    · exact (polX_ok hp 2).each t h
  obtain ⟨a2, k2, rfl, x2⟩ := hA.o2.strs n2 m2
  obtain ⟨all, hall⟩ : ∃ all : PolS, all = ⟨⟨a0, k0, (polX q 0).l ++ (polX p 0).l⟩, ⟨a1, k1, (polX q 1).l ++ (polX p 1).l⟩, ⟨a2, k2, (polX q 2).l ++ (polX p 2).l⟩, 0⟩ := ⟨_, rfl⟩
  have hP : PolIn z3 all := by rw [hall]; exact ⟨x0, x1, x2, rfl⟩
  have hC : polC all = #[.slice a0 ((polX q 0).l ++ (polX p 0).l).length k0, .slice a1 ((polX q 1).l ++ (polX p 1).l).length k1, .slice a2 ((polX q 2).l ++ (polX p 2).l).length k2, .int .i64 0] := by rw [hall]; rfl
  have hmore : allowsA p.schemes.l p.hosts.l p.types.l u = true → Hid (allowsA all.schemes.l all.hosts.l all.types.l u = true) := fun h => Lib.hid (by rw [hall]; exact allowsA_more _ _ _ _ _ _ u h)
  have hhost : Hid (hostA all.hosts.l u.host = (hostA p.hosts.l u.host || hostA q.hosts.l u.host)) := Lib.hid (by rw [hall]; exact hostA_append _ _ _)
  replace hC := Lib.hid hC
  replace hall := Lib.hid hall
  have hA0 := hA
  replace hA : MAll W z3 p q u g all := ⟨hA0.m, by rw [hC.out]; exact hA0.blk, hP⟩
  clear hA0 hP x0 x1 x2 n0 n1 n2 m0 m1 m2 hf1 hf2
  obtain ⟨b1, hb1⟩ : ∃ b, allowsA p.schemes.l p.hosts.l p.types.l u = b := ⟨_, rfl⟩
  go_wp2_with (first
    | (refine wpList_load_row rfl 24 _ rfl W.heap.size rfl _ (polC p) _ _ hA.m.a Tryd.underlying24 rfl polInfo ?_)
    | (refine wpList_load_row rfl 31 _ rfl (W.heap.size + 1 + 1) rfl _ (urlC u) _ _ hA.m.c Tryd.underlying31 rfl urlInfo ?_))
  refine (allows_any p u _ (hp.below hA.m.below (Nat.le_refl _)) (hu.path.below hA.m.below (Nat.le_refl _)) hfit hz.out (ht.next hA.m.below) (hm.next hA.m.below)).mono ?_
  rintro e z4 ⟨rfl, hb⟩
  rw [hb1]
  replace hA := hA.keep hb
  clear hb
  have hm1 : b1 = true → Hid (allowsA all.schemes.l all.hosts.l all.types.l u = true) := fun e => hmore (hb1.trans e)
  replace hmore := Lib.hid hmore
  replace hb1 := Lib.hid hb1
  cases b1
  · clear hm1
    go_wp2_with (first
      | (refine wpList_unguard (by rfl) ?_; refine wpList_load_row rfl 24 _ rfl g rfl _ (polC all) _ _ hA.blk Tryd.underlying24 rfl polInfo ?_)
      | (refine wpList_unguard (by rfl) ?_; refine wpList_load_row rfl 31 _ rfl (W.heap.size + 1 + 1) rfl _ (urlC u) _ _ hA.m.c Tryd.underlying31 rfl urlInfo ?_))
    refine (allows_any polN u _ (polN_in _) (hu.path.below hA.m.below (Nat.le_refl _)) hfit hz.out (ht.next hA.m.below) (hm.next hA.m.below)).mono ?_
    rintro e z6 ⟨rfl, hb⟩
    rw [show allowsA polN.schemes.l polN.hosts.l polN.types.l u = false from allowsA_none _ _ u]
    replace hA := hA.keep hb
    clear hb
    go_upto_region 13 with (fail)
    obtain ⟨c1, e1⟩ : ∃ c, hostA p.hosts.l u.host = c := ⟨_, rfl⟩
    obtain ⟨c2, e2⟩ : ∃ c, hostA q.hosts.l u.host = c := ⟨_, rfl⟩
    have e3 := hhost.out
    rw [e1, e2] at e3
    replace e1 := Lib.hid e1
    replace e2 := Lib.hid e2
    replace e3 := Lib.hid e3
    clear hhost
    cases c1
    · cases c2
      · have hA1 : MAll W z6.drew p q u g all := hA.keep ((Below.refl _ _).drew)
        refine wp_region_noPanic ?_
        refine wp_region_held_drew (S := fun w' => MAll W w' p q u g all) (by kernel_rfl) (hA1) (fun hHeld => ?_)
        clear hA hA1
        refine wpAnyH_take (i := 0) (oi := ⟨some 68, _, _, _, _, _⟩) (v := ?_) rfl (by kernel_rfl) (by kernel_rfl) (by kernel_rfl) (fun _ _ _ h => h) (Or.inl ⟨by rfl, ?_⟩) hHeld ?_
        rotate_left
        · first | (intro w hSw; (try dsimp only at hSw); go_simp; done) | (intro w hSw; (try dsimp only at hSw); go_simp; with_reducible rfl)
        try simp only [Act.put, List.setIfInBounds_toArray, List.set_cons_zero, List.set_cons_succ]
        refine wpAnyH_take (i := 1) (oi := ⟨some 69, _, _, _, _, _⟩) (v := ?_) rfl (by kernel_rfl) (by kernel_rfl) (by kernel_rfl) (fun _ _ _ h => h) (Or.inl ⟨by rfl, ?_⟩) hHeld ?_
        rotate_left
        · first | (intro w hSw; (try dsimp only at hSw); go_simp; done) | (intro w hSw; (try dsimp only at hSw); go_simp; with_reducible rfl)
        try simp only [Act.put, List.setIfInBounds_toArray, List.set_cons_zero, List.set_cons_succ]
        refine wpAnyH_take (i := 2) (oi := ⟨some 70, _, _, _, _, _⟩) (v := .agg (polC all).toList.toArray) rfl (by kernel_rfl) (by kernel_rfl) (by kernel_rfl) (fun _ _ _ h => h) (yieldsIf_load_mid (by rfl) 24 _ rfl g 0 rfl (polC all).toList _ (fun _ h => pol_range h.blk) Tryd.underlying24 rfl (polInfoL _)) hHeld ?_
        try simp only [Act.put, List.setIfInBounds_toArray, List.set_cons_zero, List.set_cons_succ]
        refine wpAnyH_take (i := 3) (oi := ⟨some 71, _, _, _, _, _⟩) (v := ?_) rfl (by kernel_rfl) (by kernel_rfl) (by kernel_rfl) (fun _ _ _ h => h) (Or.inl ⟨by rfl, ?_⟩) hHeld ?_
        rotate_left
        · first | (intro w hSw; (try dsimp only at hSw); go_simp; done) | (intro w hSw; (try dsimp only at hSw); go_simp; with_reducible rfl)
        try simp only [Act.put, List.setIfInBounds_toArray, List.set_cons_zero, List.set_cons_succ]
        refine wpAnyH_take (i := 4) (oi := ⟨some 72, _, _, _, _, _⟩) (v := .agg (hostC u.host).toList.toArray) rfl (by kernel_rfl) (by kernel_rfl) (by kernel_rfl) (fun _ _ _ h => h) (yieldsIf_load_mid (by rfl) 29 _ rfl (W.heap.size + 1 + 1) 3 rfl (hostC u.host).toList _ (fun _ h => host_range h.m.c) Tryd.underlying29 rfl (hostInfoL _)) hHeld ?_
        try simp only [Act.put, List.setIfInBounds_toArray, List.set_cons_zero, List.set_cons_succ]
        refine wpAnyH_take (i := 6) (oi := ⟨some 74, _, _, _, _, _⟩) (v := .agg (polC p).toList.toArray) rfl (by kernel_rfl) (by kernel_rfl) (by kernel_rfl) (fun _ _ _ h => h) (yieldsIf_load_mid (by rfl) 24 _ rfl W.heap.size 0 rfl (polC p).toList _ (fun _ h => pol_range h.m.a) Tryd.underlying24 rfl (polInfoL _)) hHeld ?_
        try simp only [Act.put, List.setIfInBounds_toArray, List.set_cons_zero, List.set_cons_succ]
        refine wpAnyH_take (i := 7) (oi := ⟨some 75, _, _, _, _, _⟩) (v := ?_) rfl (by kernel_rfl) (by kernel_rfl) (by kernel_rfl) (fun _ _ _ h => h) (Or.inl ⟨by rfl, ?_⟩) hHeld ?_
        rotate_left
        · first | (intro w hSw; (try dsimp only at hSw); go_simp; done) | (intro w hSw; (try dsimp only at hSw); go_simp; with_reducible rfl)
        try simp only [Act.put, List.setIfInBounds_toArray, List.set_cons_zero, List.set_cons_succ]
        refine wpAnyH_take (i := 8) (oi := ⟨some 76, _, _, _, _, _⟩) (v := .agg (hostC u.host).toList.toArray) rfl (by kernel_rfl) (by kernel_rfl) (by kernel_rfl) (fun _ _ _ h => h) (yieldsIf_load_mid (by rfl) 29 _ rfl (W.heap.size + 1 + 1) 3 rfl (hostC u.host).toList _ (fun _ h => host_range h.m.c) Tryd.underlying29 rfl (hostInfoL _)) hHeld ?_
        try simp only [Act.put, List.setIfInBounds_toArray, List.set_cons_zero, List.set_cons_succ]
        refine wpAnyH_ready (rs := [5]) (by kernel_rfl) (by simp) ?_
        refine AllReadyH.cons rfl (fun K hK => ?_) AllReadyH.nil
        go_simp
        refine (hostP_any all u.host _ hHeld.pol hfit.host (ht.next hHeld.m.below)).mono ?_
        rintro e x5 ⟨rfl, hb⟩
        rw [e3.out]
        have hT := hHeld.keep hb
        clear hb hHeld
        go_wp2_with fail
        refine hK.out _ _ (hT) (fun hHeld => ?_)
        clear hK K
        try simp only [Act.put, List.setIfInBounds_toArray, List.set_cons_zero, List.set_cons_succ]
        refine wpAnyH_ready (rs := [9]) (by kernel_rfl) (by simp) ?_
        refine AllReadyH.cons rfl (fun K hK => ?_) AllReadyH.nil
        go_simp
        refine (hostP_any p u.host _ (hp.below hHeld.m.below (Nat.le_refl _)) hfit.host (ht.next hHeld.m.below)).mono ?_
        rintro e x9 ⟨rfl, hb⟩
        rw [e1.out]
        have hT := hHeld.keep hb
        clear hb hHeld
        go_wp2_with fail
        refine hK.out _ _ (hT) (fun hHeld => ?_)
        clear hK K
        try simp only [Act.put, List.setIfInBounds_toArray, List.set_cons_zero, List.set_cons_succ]
        refine wpAnyH_take (i := 10) (oi := ⟨some 78, _, _, _, _, _⟩) (v := ?_) rfl (by kernel_rfl) (by kernel_rfl) (by kernel_rfl) (fun _ _ _ h => h) (Or.inl ⟨by rfl, ?_⟩) hHeld ?_
        rotate_left
        · first | (intro w hSw; (try dsimp only at hSw); go_simp; done) | (intro w hSw; (try dsimp only at hSw); go_simp; with_reducible rfl)
        try simp only [Act.put, List.setIfInBounds_toArray, List.set_cons_zero, List.set_cons_succ]
        refine wpAnyH_take (i := 11) (oi := ⟨some 79, _, _, _, _, _⟩) (v := .agg (polC q).toList.toArray) rfl (by kernel_rfl) (by kernel_rfl) (by kernel_rfl) (fun _ _ _ h => h) (yieldsIf_load_mid (by rfl) 24 _ rfl (W.heap.size + 1) 0 rfl (polC q).toList _ (fun _ h => pol_range h.m.b) Tryd.underlying24 rfl (polInfoL _)) hHeld ?_
        try simp only [Act.put, List.setIfInBounds_toArray, List.set_cons_zero, List.set_cons_succ]
        refine wpAnyH_take (i := 12) (oi := ⟨some 80, _, _, _, _, _⟩) (v := ?_) rfl (by kernel_rfl) (by kernel_rfl) (by kernel_rfl) (fun _ _ _ h => h) (Or.inl ⟨by rfl, ?_⟩) hHeld ?_
        rotate_left
        · first | (intro w hSw; (try dsimp only at hSw); go_simp; done) | (intro w hSw; (try dsimp only at hSw); go_simp; with_reducible rfl)
        try simp only [Act.put, List.setIfInBounds_toArray, List.set_cons_zero, List.set_cons_succ]
        refine wpAnyH_take (i := 13) (oi := ⟨some 81, _, _, _, _, _⟩) (v := .agg (hostC u.host).toList.toArray) rfl (by kernel_rfl) (by kernel_rfl) (by kernel_rfl) (fun _ _ _ h => h) (yieldsIf_load_mid (by rfl) 29 _ rfl (W.heap.size + 1 + 1) 3 rfl (hostC u.host).toList _ (fun _ h => host_range h.m.c) Tryd.underlying29 rfl (hostInfoL _)) hHeld ?_
        try simp only [Act.put, List.setIfInBounds_toArray, List.set_cons_zero, List.set_cons_succ]
        refine wpAnyH_ready (rs := [14]) (by kernel_rfl) (by simp) ?_
        refine AllReadyH.cons rfl (fun K hK => ?_) AllReadyH.nil
        go_simp
        refine (hostP_any q u.host _ (hq.below hHeld.m.below (Nat.le_refl _)) hfit.host (ht.next hHeld.m.below)).mono ?_
        rintro e x14 ⟨rfl, hb⟩
        rw [e2.out]
        have hT := hHeld.keep hb
        clear hb hHeld
        go_wp2_with fail
        refine hK.out _ _ (hT) (fun hHeld => ?_)
        clear hK K
        try simp only [Act.put, List.setIfInBounds_toArray, List.set_cons_zero, List.set_cons_succ]
        refine wpAnyH_take (i := 15) (oi := ⟨some 83, _, _, _, _, _⟩) (v := ?_) rfl (by kernel_rfl) (by kernel_rfl) (by kernel_rfl) (fun _ _ _ h => h) (Or.inl ⟨by rfl, ?_⟩) hHeld ?_
        rotate_left
        · first | (intro w hSw; (try dsimp only at hSw); go_simp; done) | (intro w hSw; (try dsimp only at hSw); go_simp; with_reducible rfl)
        try simp only [Act.put, List.setIfInBounds_toArray, List.set_cons_zero, List.set_cons_succ]
        refine wpAnyH_take (i := 16) (oi := ⟨some 84, _, _, _, _, _⟩) (v := ?_) rfl (by kernel_rfl) (by kernel_rfl) (by kernel_rfl) (fun _ _ _ h => h) (Or.inl ⟨by rfl, ?_⟩) hHeld ?_
        rotate_left
        · first | (intro w hSw; (try dsimp only at hSw); go_simp; done) | (intro w hSw; (try dsimp only at hSw); go_simp; with_reducible rfl)
        try simp only [Act.put, List.setIfInBounds_toArray, List.set_cons_zero, List.set_cons_succ]
        refine wpAnyH_take (i := 17) (oi := ⟨some 85, _, _, _, _, _⟩) (v := ?_) rfl (by kernel_rfl) (by kernel_rfl) (by kernel_rfl) (fun _ _ _ h => h) (Or.inl ⟨by rfl, ?_⟩) hHeld ?_
        rotate_left
        · first | (intro w hSw; (try dsimp only at hSw); go_simp; done) | (intro w hSw; (try dsimp only at hSw); go_simp; with_reducible rfl)
        try simp only [Act.put, List.setIfInBounds_toArray, List.set_cons_zero, List.set_cons_succ]
        refine wpAnyH_ready (rs := [18]) (by kernel_rfl) (by simp) ?_
        refine AllReadyH.cons rfl (fun K hK => ?_) AllReadyH.nil
        go_simp
        refine hK.out _ _ (hHeld) (fun hHeld => ?_)
        clear hK K
        try simp only [Act.put, List.setIfInBounds_toArray, List.set_cons_zero, List.set_cons_succ]
        refine wpAnyH_done (by kernel_rfl) ?_ _
        refine NoPanic.normal ?_
        go_wp2_with fail
        go_ret
        exact ⟨rfl, hHeld.m.below⟩
      · have hA1 : MAll W z6.drew p q u g all := hA.keep ((Below.refl _ _).drew)
        refine wp_region_noPanic ?_
        refine wp_region_held_drew (S := fun w' => MAll W w' p q u g all) (by kernel_rfl) (hA1) (fun hHeld => ?_)
        clear hA hA1
        refine wpAnyH_take (i := 0) (oi := ⟨some 68, _, _, _, _, _⟩) (v := ?_) rfl (by kernel_rfl) (by kernel_rfl) (by kernel_rfl) (fun _ _ _ h => h) (Or.inl ⟨by rfl, ?_⟩) hHeld ?_
        rotate_left
        · first | (intro w hSw; (try dsimp only at hSw); go_simp; done) | (intro w hSw; (try dsimp only at hSw); go_simp; with_reducible rfl)
        try simp only [Act.put, List.setIfInBounds_toArray, List.set_cons_zero, List.set_cons_succ]
        refine wpAnyH_take (i := 1) (oi := ⟨some 69, _, _, _, _, _⟩) (v := ?_) rfl (by kernel_rfl) (by kernel_rfl) (by kernel_rfl) (fun _ _ _ h => h) (Or.inl ⟨by rfl, ?_⟩) hHeld ?_
        rotate_left
        · first | (intro w hSw; (try dsimp only at hSw); go_simp; done) | (intro w hSw; (try dsimp only at hSw); go_simp; with_reducible rfl)
        try simp only [Act.put, List.setIfInBounds_toArray, List.set_cons_zero, List.set_cons_succ]
        refine wpAnyH_take (i := 2) (oi := ⟨some 70, _, _, _, _, _⟩) (v := .agg (polC all).toList.toArray) rfl (by kernel_rfl) (by kernel_rfl) (by kernel_rfl) (fun _ _ _ h => h) (yieldsIf_load_mid (by rfl) 24 _ rfl g 0 rfl (polC all).toList _ (fun _ h => pol_range h.blk) Tryd.underlying24 rfl (polInfoL _)) hHeld ?_
        try simp only [Act.put, List.setIfInBounds_toArray, List.set_cons_zero, List.set_cons_succ]
        refine wpAnyH_take (i := 3) (oi := ⟨some 71, _, _, _, _, _⟩) (v := ?_) rfl (by kernel_rfl) (by kernel_rfl) (by kernel_rfl) (fun _ _ _ h => h) (Or.inl ⟨by rfl, ?_⟩) hHeld ?_
        rotate_left
        · first | (intro w hSw; (try dsimp only at hSw); go_simp; done) | (intro w hSw; (try dsimp only at hSw); go_simp; with_reducible rfl)
        try simp only [Act.put, List.setIfInBounds_toArray, List.set_cons_zero, List.set_cons_succ]
        refine wpAnyH_take (i := 4) (oi := ⟨some 72, _, _, _, _, _⟩) (v := .agg (hostC u.host).toList.toArray) rfl (by kernel_rfl) (by kernel_rfl) (by kernel_rfl) (fun _ _ _ h => h) (yieldsIf_load_mid (by rfl) 29 _ rfl (W.heap.size + 1 + 1) 3 rfl (hostC u.host).toList _ (fun _ h => host_range h.m.c) Tryd.underlying29 rfl (hostInfoL _)) hHeld ?_
        try simp only [Act.put, List.setIfInBounds_toArray, List.set_cons_zero, List.set_cons_succ]
        refine wpAnyH_take (i := 6) (oi := ⟨some 74, _, _, _, _, _⟩) (v := .agg (polC p).toList.toArray) rfl (by kernel_rfl) (by kernel_rfl) (by kernel_rfl) (fun _ _ _ h => h) (yieldsIf_load_mid (by rfl) 24 _ rfl W.heap.size 0 rfl (polC p).toList _ (fun _ h => pol_range h.m.a) Tryd.underlying24 rfl (polInfoL _)) hHeld ?_
        try simp only [Act.put, List.setIfInBounds_toArray, List.set_cons_zero, List.set_cons_succ]
        refine wpAnyH_take (i := 7) (oi := ⟨some 75, _, _, _, _, _⟩) (v := ?_) rfl (by kernel_rfl) (by kernel_rfl) (by kernel_rfl) (fun _ _ _ h => h) (Or.inl ⟨by rfl, ?_⟩) hHeld ?_
        rotate_left
        · first | (intro w hSw; (try dsimp only at hSw); go_simp; done) | (intro w hSw; (try dsimp only at hSw); go_simp; with_reducible rfl)
        try simp only [Act.put, List.setIfInBounds_toArray, List.set_cons_zero, List.set_cons_succ]
        refine wpAnyH_take (i := 8) (oi := ⟨some 76, _, _, _, _, _⟩) (v := .agg (hostC u.host).toList.toArray) rfl (by kernel_rfl) (by kernel_rfl) (by kernel_rfl) (fun _ _ _ h => h) (yieldsIf_load_mid (by rfl) 29 _ rfl (W.heap.size + 1 + 1) 3 rfl (hostC u.host).toList _ (fun _ h => host_range h.m.c) Tryd.underlying29 rfl (hostInfoL _)) hHeld ?_
        try simp only [Act.put, List.setIfInBounds_toArray, List.set_cons_zero, List.set_cons_succ]
        refine wpAnyH_ready (rs := [5]) (by kernel_rfl) (by simp) ?_
        refine AllReadyH.cons rfl (fun K hK => ?_) AllReadyH.nil
        go_simp
        refine (hostP_any all u.host _ hHeld.pol hfit.host (ht.next hHeld.m.below)).mono ?_
        rintro e x5 ⟨rfl, hb⟩
        rw [e3.out]
        have hT := hHeld.keep hb
        clear hb hHeld
        go_wp2_with fail
        refine hK.out _ _ (hT) (fun hHeld => ?_)
        clear hK K
        try simp only [Act.put, List.setIfInBounds_toArray, List.set_cons_zero, List.set_cons_succ]
        refine wpAnyH_ready (rs := [9]) (by kernel_rfl) (by simp) ?_
        refine AllReadyH.cons rfl (fun K hK => ?_) AllReadyH.nil
        go_simp
        refine (hostP_any p u.host _ (hp.below hHeld.m.below (Nat.le_refl _)) hfit.host (ht.next hHeld.m.below)).mono ?_
        rintro e x9 ⟨rfl, hb⟩
        rw [e1.out]
        have hT := hHeld.keep hb
        clear hb hHeld
        go_wp2_with fail
        refine hK.out _ _ (hT) (fun hHeld => ?_)
        clear hK K
        try simp only [Act.put, List.setIfInBounds_toArray, List.set_cons_zero, List.set_cons_succ]
        refine wpAnyH_take (i := 10) (oi := ⟨some 78, _, _, _, _, _⟩) (v := ?_) rfl (by kernel_rfl) (by kernel_rfl) (by kernel_rfl) (fun _ _ _ h => h) (Or.inl ⟨by rfl, ?_⟩) hHeld ?_
        rotate_left
        · first | (intro w hSw; (try dsimp only at hSw); go_simp; done) | (intro w hSw; (try dsimp only at hSw); go_simp; with_reducible rfl)
        try simp only [Act.put, List.setIfInBounds_toArray, List.set_cons_zero, List.set_cons_succ]
        refine wpAnyH_take (i := 11) (oi := ⟨some 79, _, _, _, _, _⟩) (v := .agg (polC q).toList.toArray) rfl (by kernel_rfl) (by kernel_rfl) (by kernel_rfl) (fun _ _ _ h => h) (yieldsIf_load_mid (by rfl) 24 _ rfl (W.heap.size + 1) 0 rfl (polC q).toList _ (fun _ h => pol_range h.m.b) Tryd.underlying24 rfl (polInfoL _)) hHeld ?_
        try simp only [Act.put, List.setIfInBounds_toArray, List.set_cons_zero, List.set_cons_succ]
        refine wpAnyH_take (i := 12) (oi := ⟨some 80, _, _, _, _, _⟩) (v := ?_) rfl (by kernel_rfl) (by kernel_rfl) (by kernel_rfl) (fun _ _ _ h => h) (Or.inl ⟨by rfl, ?_⟩) hHeld ?_
        rotate_left
        · first | (intro w hSw; (try dsimp only at hSw); go_simp; done) | (intro w hSw; (try dsimp only at hSw); go_simp; with_reducible rfl)
        try simp only [Act.put, List.setIfInBounds_toArray, List.set_cons_zero, List.set_cons_succ]
        refine wpAnyH_take (i := 13) (oi := ⟨some 81, _, _, _, _, _⟩) (v := .agg (hostC u.host).toList.toArray) rfl (by kernel_rfl) (by kernel_rfl) (by kernel_rfl) (fun _ _ _ h => h) (yieldsIf_load_mid (by rfl) 29 _ rfl (W.heap.size + 1 + 1) 3 rfl (hostC u.host).toList _ (fun _ h => host_range h.m.c) Tryd.underlying29 rfl (hostInfoL _)) hHeld ?_
        try simp only [Act.put, List.setIfInBounds_toArray, List.set_cons_zero, List.set_cons_succ]
        refine wpAnyH_ready (rs := [14]) (by kernel_rfl) (by simp) ?_
        refine AllReadyH.cons rfl (fun K hK => ?_) AllReadyH.nil
        go_simp
        refine (hostP_any q u.host _ (hq.below hHeld.m.below (Nat.le_refl _)) hfit.host (ht.next hHeld.m.below)).mono ?_
        rintro e x14 ⟨rfl, hb⟩
        rw [e2.out]
        have hT := hHeld.keep hb
        clear hb hHeld
        go_wp2_with fail
        refine hK.out _ _ (hT) (fun hHeld => ?_)
        clear hK K
        try simp only [Act.put, List.setIfInBounds_toArray, List.set_cons_zero, List.set_cons_succ]
        refine wpAnyH_take (i := 15) (oi := ⟨some 83, _, _, _, _, _⟩) (v := ?_) rfl (by kernel_rfl) (by kernel_rfl) (by kernel_rfl) (fun _ _ _ h => h) (Or.inl ⟨by rfl, ?_⟩) hHeld ?_
        rotate_left
        · first | (intro w hSw; (try dsimp only at hSw); go_simp; done) | (intro w hSw; (try dsimp only at hSw); go_simp; with_reducible rfl)
        try simp only [Act.put, List.setIfInBounds_toArray, List.set_cons_zero, List.set_cons_succ]
        refine wpAnyH_take (i := 16) (oi := ⟨some 84, _, _, _, _, _⟩) (v := ?_) rfl (by kernel_rfl) (by kernel_rfl) (by kernel_rfl) (fun _ _ _ h => h) (Or.inl ⟨by rfl, ?_⟩) hHeld ?_
        rotate_left
        · first | (intro w hSw; (try dsimp only at hSw); go_simp; done) | (intro w hSw; (try dsimp only at hSw); go_simp; with_reducible rfl)
        try simp only [Act.put, List.setIfInBounds_toArray, List.set_cons_zero, List.set_cons_succ]
        refine wpAnyH_take (i := 17) (oi := ⟨some 85, _, _, _, _, _⟩) (v := ?_) rfl (by kernel_rfl) (by kernel_rfl) (by kernel_rfl) (fun _ _ _ h => h) (Or.inl ⟨by rfl, ?_⟩) hHeld ?_
        rotate_left
        · first | (intro w hSw; (try dsimp only at hSw); go_simp; done) | (intro w hSw; (try dsimp only at hSw); go_simp; with_reducible rfl)
        try simp only [Act.put, List.setIfInBounds_toArray, List.set_cons_zero, List.set_cons_succ]
        refine wpAnyH_ready (rs := [18]) (by kernel_rfl) (by simp) ?_
        refine AllReadyH.cons rfl (fun K hK => ?_) AllReadyH.nil
        go_simp
        refine hK.out _ _ (hHeld) (fun hHeld => ?_)
        clear hK K
        try simp only [Act.put, List.setIfInBounds_toArray, List.set_cons_zero, List.set_cons_succ]
        refine wpAnyH_done (by kernel_rfl) ?_ _
        refine NoPanic.normal ?_
        go_wp2_with fail
        go_ret
        exact ⟨rfl, hHeld.m.below⟩
    · replace e3 := Lib.hid (e3.out.trans (Bool.true_or _))
      have hA1 : MAll W z6.drew p q u g all := hA.keep ((Below.refl _ _).drew)
      refine wp_region_noPanic ?_
      refine wp_region_held_drew (S := fun w' => MAll W w' p q u g all) (by kernel_rfl) (hA1) (fun hHeld => ?_)
      clear hA hA1
      refine wpAnyH_take (i := 0) (oi := ⟨some 68, _, _, _, _, _⟩) (v := ?_) rfl (by kernel_rfl) (by kernel_rfl) (by kernel_rfl) (fun _ _ _ h => h) (Or.inl ⟨by rfl, ?_⟩) hHeld ?_
      rotate_left
      · first | (intro w hSw; (try dsimp only at hSw); go_simp; done) | (intro w hSw; (try dsimp only at hSw); go_simp; with_reducible rfl)
      try simp only [Act.put, List.setIfInBounds_toArray, List.set_cons_zero, List.set_cons_succ]
      refine wpAnyH_take (i := 1) (oi := ⟨some 69, _, _, _, _, _⟩) (v := ?_) rfl (by kernel_rfl) (by kernel_rfl) (by kernel_rfl) (fun _ _ _ h => h) (Or.inl ⟨by rfl, ?_⟩) hHeld ?_
      rotate_left
      · first | (intro w hSw; (try dsimp only at hSw); go_simp; done) | (intro w hSw; (try dsimp only at hSw); go_simp; with_reducible rfl)
      try simp only [Act.put, List.setIfInBounds_toArray, List.set_cons_zero, List.set_cons_succ]
      refine wpAnyH_take (i := 2) (oi := ⟨some 70, _, _, _, _, _⟩) (v := .agg (polC all).toList.toArray) rfl (by kernel_rfl) (by kernel_rfl) (by kernel_rfl) (fun _ _ _ h => h) (yieldsIf_load_mid (by rfl) 24 _ rfl g 0 rfl (polC all).toList _ (fun _ h => pol_range h.blk) Tryd.underlying24 rfl (polInfoL _)) hHeld ?_
      try simp only [Act.put, List.setIfInBounds_toArray, List.set_cons_zero, List.set_cons_succ]
      refine wpAnyH_take (i := 3) (oi := ⟨some 71, _, _, _, _, _⟩) (v := ?_) rfl (by kernel_rfl) (by kernel_rfl) (by kernel_rfl) (fun _ _ _ h => h) (Or.inl ⟨by rfl, ?_⟩) hHeld ?_
      rotate_left
      · first | (intro w hSw; (try dsimp only at hSw); go_simp; done) | (intro w hSw; (try dsimp only at hSw); go_simp; with_reducible rfl)
      try simp only [Act.put, List.setIfInBounds_toArray, List.set_cons_zero, List.set_cons_succ]
      refine wpAnyH_take (i := 4) (oi := ⟨some 72, _, _, _, _, _⟩) (v := .agg (hostC u.host).toList.toArray) rfl (by kernel_rfl) (by kernel_rfl) (by kernel_rfl) (fun _ _ _ h => h) (yieldsIf_load_mid (by rfl) 29 _ rfl (W.heap.size + 1 + 1) 3 rfl (hostC u.host).toList _ (fun _ h => host_range h.m.c) Tryd.underlying29 rfl (hostInfoL _)) hHeld ?_
      try simp only [Act.put, List.setIfInBounds_toArray, List.set_cons_zero, List.set_cons_succ]
      refine wpAnyH_take (i := 6) (oi := ⟨some 74, _, _, _, _, _⟩) (v := .agg (polC p).toList.toArray) rfl (by kernel_rfl) (by kernel_rfl) (by kernel_rfl) (fun _ _ _ h => h) (yieldsIf_load_mid (by rfl) 24 _ rfl W.heap.size 0 rfl (polC p).toList _ (fun _ h => pol_range h.m.a) Tryd.underlying24 rfl (polInfoL _)) hHeld ?_
      try simp only [Act.put, List.setIfInBounds_toArray, List.set_cons_zero, List.set_cons_succ]
      refine wpAnyH_take (i := 7) (oi := ⟨some 75, _, _, _, _, _⟩) (v := ?_) rfl (by kernel_rfl) (by kernel_rfl) (by kernel_rfl) (fun _ _ _ h => h) (Or.inl ⟨by rfl, ?_⟩) hHeld ?_
      rotate_left
      · first | (intro w hSw; (try dsimp only at hSw); go_simp; done) | (intro w hSw; (try dsimp only at hSw); go_simp; with_reducible rfl)
      try simp only [Act.put, List.setIfInBounds_toArray, List.set_cons_zero, List.set_cons_succ]
      refine wpAnyH_take (i := 8) (oi := ⟨some 76, _, _, _, _, _⟩) (v := .agg (hostC u.host).toList.toArray) rfl (by kernel_rfl) (by kernel_rfl) (by kernel_rfl) (fun _ _ _ h => h) (yieldsIf_load_mid (by rfl) 29 _ rfl (W.heap.size + 1 + 1) 3 rfl (hostC u.host).toList _ (fun _ h => host_range h.m.c) Tryd.underlying29 rfl (hostInfoL _)) hHeld ?_
      try simp only [Act.put, List.setIfInBounds_toArray, List.set_cons_zero, List.set_cons_succ]
      refine wpAnyH_ready (rs := [5]) (by kernel_rfl) (by simp) ?_
      refine AllReadyH.cons rfl (fun K hK => ?_) AllReadyH.nil
      go_simp
      refine (hostP_any all u.host _ hHeld.pol hfit.host (ht.next hHeld.m.below)).mono ?_
      rintro e x5 ⟨rfl, hb⟩
      rw [e3.out]
      have hT := hHeld.keep hb
      clear hb hHeld
      go_wp2_with fail
      refine hK.out _ _ (hT) (fun hHeld => ?_)
      clear hK K
      try simp only [Act.put, List.setIfInBounds_toArray, List.set_cons_zero, List.set_cons_succ]
      refine wpAnyH_ready (rs := [9]) (by kernel_rfl) (by simp) ?_
      refine AllReadyH.cons rfl (fun K hK => ?_) AllReadyH.nil
      go_simp
      refine (hostP_any p u.host _ (hp.below hHeld.m.below (Nat.le_refl _)) hfit.host (ht.next hHeld.m.below)).mono ?_
      rintro e x9 ⟨rfl, hb⟩
      rw [e1.out]
      have hT := hHeld.keep hb
      clear hb hHeld
      go_wp2_with fail
      refine hK.out _ _ (hT) (fun hHeld => ?_)
      clear hK K
      try simp only [Act.put, List.setIfInBounds_toArray, List.set_cons_zero, List.set_cons_succ]
      refine wpAnyH_take (i := 10) (oi := ⟨some 78, _, _, _, _, _⟩) (v := ?_) rfl (by kernel_rfl) (by kernel_rfl) (by kernel_rfl) (fun _ _ _ h => h) (Or.inl ⟨by rfl, ?_⟩) hHeld ?_
      rotate_left
      · first | (intro w hSw; (try dsimp only at hSw); go_simp; done) | (intro w hSw; (try dsimp only at hSw); go_simp; with_reducible rfl)
      try simp only [Act.put, List.setIfInBounds_toArray, List.set_cons_zero, List.set_cons_succ]
      refine wpAnyH_take (i := 11) (oi := ⟨some 79, _, _, _, _, _⟩) (v := undef) rfl (by kernel_rfl) (by kernel_rfl) (by kernel_rfl) (fun _ _ _ h => h) (Or.inr ⟨by rfl, rfl⟩) hHeld ?_
      try simp only [Act.put, List.setIfInBounds_toArray, List.set_cons_zero, List.set_cons_succ]
      refine wpAnyH_take (i := 12) (oi := ⟨some 80, _, _, _, _, _⟩) (v := undef) rfl (by kernel_rfl) (by kernel_rfl) (by kernel_rfl) (fun _ _ _ h => h) (Or.inr ⟨by rfl, rfl⟩) hHeld ?_
      try simp only [Act.put, List.setIfInBounds_toArray, List.set_cons_zero, List.set_cons_succ]
      refine wpAnyH_take (i := 13) (oi := ⟨some 81, _, _, _, _, _⟩) (v := undef) rfl (by kernel_rfl) (by kernel_rfl) (by kernel_rfl) (fun _ _ _ h => h) (Or.inr ⟨by rfl, rfl⟩) hHeld ?_
      try simp only [Act.put, List.setIfInBounds_toArray, List.set_cons_zero, List.set_cons_succ]
      refine wpAnyH_take (i := 14) (oi := ⟨some 82, _, _, _, _, _⟩) (v := undef) rfl (by kernel_rfl) (by kernel_rfl) (by kernel_rfl) (fun _ _ _ h => h) (Or.inr ⟨by rfl, rfl⟩) hHeld ?_
      try simp only [Act.put, List.setIfInBounds_toArray, List.set_cons_zero, List.set_cons_succ]
      refine wpAnyH_take (i := 15) (oi := ⟨some 83, _, _, _, _, _⟩) (v := ?_) rfl (by kernel_rfl) (by kernel_rfl) (by kernel_rfl) (fun _ _ _ h => h) (Or.inl ⟨by rfl, ?_⟩) hHeld ?_
      rotate_left
      · first | (intro w hSw; (try dsimp only at hSw); go_simp; done) | (intro w hSw; (try dsimp only at hSw); go_simp; with_reducible rfl)
      try simp only [Act.put, List.setIfInBounds_toArray, List.set_cons_zero, List.set_cons_succ]
      refine wpAnyH_take (i := 16) (oi := ⟨some 84, _, _, _, _, _⟩) (v := ?_) rfl (by kernel_rfl) (by kernel_rfl) (by kernel_rfl) (fun _ _ _ h => h) (Or.inl ⟨by rfl, ?_⟩) hHeld ?_
      rotate_left
      · first | (intro w hSw; (try dsimp only at hSw); go_simp; done) | (intro w hSw; (try dsimp only at hSw); go_simp; with_reducible rfl)
      try simp only [Act.put, List.setIfInBounds_toArray, List.set_cons_zero, List.set_cons_succ]
      refine wpAnyH_take (i := 17) (oi := ⟨some 85, _, _, _, _, _⟩) (v := ?_) rfl (by kernel_rfl) (by kernel_rfl) (by kernel_rfl) (fun _ _ _ h => h) (Or.inl ⟨by rfl, ?_⟩) hHeld ?_
      rotate_left
      · first | (intro w hSw; (try dsimp only at hSw); go_simp; done) | (intro w hSw; (try dsimp only at hSw); go_simp; with_reducible rfl)
      try simp only [Act.put, List.setIfInBounds_toArray, List.set_cons_zero, List.set_cons_succ]
      refine wpAnyH_ready (rs := [18]) (by kernel_rfl) (by simp) ?_
      refine AllReadyH.cons rfl (fun K hK => ?_) AllReadyH.nil
      go_simp
      refine hK.out _ _ (hHeld) (fun hHeld => ?_)
      clear hK K
      try simp only [Act.put, List.setIfInBounds_toArray, List.set_cons_zero, List.set_cons_succ]
      refine wpAnyH_done (by kernel_rfl) ?_ _
      refine NoPanic.normal ?_
      go_wp2_with fail
      go_ret
      exact ⟨rfl, hHeld.m.below⟩
  · have hm2 := hm1 rfl
    clear hm1
    go_wp2_with (first
      | (refine wpList_unguard (by rfl) ?_; refine wpList_load_row rfl 24 _ rfl g rfl _ (polC all) _ _ hA.blk Tryd.underlying24 rfl polInfo ?_)
      | (refine wpList_unguard (by rfl) ?_; refine wpList_load_row rfl 31 _ rfl (W.heap.size + 1 + 1) rfl _ (urlC u) _ _ hA.m.c Tryd.underlying31 rfl urlInfo ?_))
    refine (allows_any all u _ hA.pol (hu.path.below hA.m.below (Nat.le_refl _)) hfit hz.out (ht.next hA.m.below) (hm.next hA.m.below)).mono ?_
    rintro e z5 ⟨rfl, hb⟩
    rw [hm2.out]
    replace hA := hA.keep hb
    clear hb
    go_wp2_with (first
      | (refine wpList_unguard (by rfl) ?_; refine wpList_load_row rfl 24 _ rfl g rfl _ (polC all) _ _ hA.blk Tryd.underlying24 rfl polInfo ?_)
      | (refine wpList_unguard (by rfl) ?_; refine wpList_load_row rfl 31 _ rfl (W.heap.size + 1 + 1) rfl _ (urlC u) _ _ hA.m.c Tryd.underlying31 rfl urlInfo ?_))
    refine (allows_any polN u _ (polN_in _) (hu.path.below hA.m.below (Nat.le_refl _)) hfit hz.out (ht.next hA.m.below) (hm.next hA.m.below)).mono ?_
    rintro e z6 ⟨rfl, hb⟩
    rw [show allowsA polN.schemes.l polN.hosts.l polN.types.l u = false from allowsA_none _ _ u]
    replace hA := hA.keep hb
    clear hb
    go_upto_region 13 with (fail)
    obtain ⟨c1, e1⟩ : ∃ c, hostA p.hosts.l u.host = c := ⟨_, rfl⟩
    obtain ⟨c2, e2⟩ : ∃ c, hostA q.hosts.l u.host = c := ⟨_, rfl⟩
    have e3 := hhost.out
    rw [e1, e2] at e3
    replace e1 := Lib.hid e1
    replace e2 := Lib.hid e2
    replace e3 := Lib.hid e3
    clear hhost
    cases c1
    · cases c2
      · have hA1 : MAll W z6.drew p q u g all := hA.keep ((Below.refl _ _).drew)
        refine wp_region_noPanic ?_
        refine wp_region_held_drew (S := fun w' => MAll W w' p q u g all) (by kernel_rfl) (hA1) (fun hHeld => ?_)
        clear hA hA1
        refine wpAnyH_take (i := 0) (oi := ⟨some 68, _, _, _, _, _⟩) (v := ?_) rfl (by kernel_rfl) (by kernel_rfl) (by kernel_rfl) (fun _ _ _ h => h) (Or.inl ⟨by rfl, ?_⟩) hHeld ?_
        rotate_left
        · first | (intro w hSw; (try dsimp only at hSw); go_simp; done) | (intro w hSw; (try dsimp only at hSw); go_simp; with_reducible rfl)
        try simp only [Act.put, List.setIfInBounds_toArray, List.set_cons_zero, List.set_cons_succ]
        refine wpAnyH_take (i := 1) (oi := ⟨some 69, _, _, _, _, _⟩) (v := ?_) rfl (by kernel_rfl) (by kernel_rfl) (by kernel_rfl) (fun _ _ _ h => h) (Or.inl ⟨by rfl, ?_⟩) hHeld ?_
        rotate_left
        · first | (intro w hSw; (try dsimp only at hSw); go_simp; done) | (intro w hSw; (try dsimp only at hSw); go_simp; with_reducible rfl)
        try simp only [Act.put, List.setIfInBounds_toArray, List.set_cons_zero, List.set_cons_succ]
        refine wpAnyH_take (i := 2) (oi := ⟨some 70, _, _, _, _, _⟩) (v := .agg (polC all).toList.toArray) rfl (by kernel_rfl) (by kernel_rfl) (by kernel_rfl) (fun _ _ _ h => h) (yieldsIf_load_mid (by rfl) 24 _ rfl g 0 rfl (polC all).toList _ (fun _ h => pol_range h.blk) Tryd.underlying24 rfl (polInfoL _)) hHeld ?_
        try simp only [Act.put, List.setIfInBounds_toArray, List.set_cons_zero, List.set_cons_succ]
        refine wpAnyH_take (i := 3) (oi := ⟨some 71, _, _, _, _, _⟩) (v := ?_) rfl (by kernel_rfl) (by kernel_rfl) (by kernel_rfl) (fun _ _ _ h => h) (Or.inl ⟨by rfl, ?_⟩) hHeld ?_
        rotate_left
        · first | (intro w hSw; (try dsimp only at hSw); go_simp; done) | (intro w hSw; (try dsimp only at hSw); go_simp; with_reducible rfl)
        try simp only [Act.put, List.setIfInBounds_toArray, List.set_cons_zero, List.set_cons_succ]
        refine wpAnyH_take (i := 4) (oi := ⟨some 72, _, _, _, _, _⟩) (v := .agg (hostC u.host).toList.toArray) rfl (by kernel_rfl) (by kernel_rfl) (by kernel_rfl) (fun _ _ _ h => h) (yieldsIf_load_mid (by rfl) 29 _ rfl (W.heap.size + 1 + 1) 3 rfl (hostC u.host).toList _ (fun _ h => host_range h.m.c) Tryd.underlying29 rfl (hostInfoL _)) hHeld ?_
        try simp only [Act.put, List.setIfInBounds_toArray, List.set_cons_zero, List.set_cons_succ]
        refine wpAnyH_take (i := 6) (oi := ⟨some 74, _, _, _, _, _⟩) (v := .agg (polC p).toList.toArray) rfl (by kernel_rfl) (by kernel_rfl) (by kernel_rfl) (fun _ _ _ h => h) (yieldsIf_load_mid (by rfl) 24 _ rfl W.heap.size 0 rfl (polC p).toList _ (fun _ h => pol_range h.m.a) Tryd.underlying24 rfl (polInfoL _)) hHeld ?_
        try simp only [Act.put, List.setIfInBounds_toArray, List.set_cons_zero, List.set_cons_succ]
        refine wpAnyH_take (i := 7) (oi := ⟨some 75, _, _, _, _, _⟩) (v := ?_) rfl (by kernel_rfl) (by kernel_rfl) (by kernel_rfl) (fun _ _ _ h => h) (Or.inl ⟨by rfl, ?_⟩) hHeld ?_
        rotate_left
        · first | (intro w hSw; (try dsimp only at hSw); go_simp; done) | (intro w hSw; (try dsimp only at hSw); go_simp; with_reducible rfl)
        try simp only [Act.put, List.setIfInBounds_toArray, List.set_cons_zero, List.set_cons_succ]
        refine wpAnyH_take (i := 8) (oi := ⟨some 76, _, _, _, _, _⟩) (v := .agg (hostC u.host).toList.toArray) rfl (by kernel_rfl) (by kernel_rfl) (by kernel_rfl) (fun _ _ _ h => h) (yieldsIf_load_mid (by rfl) 29 _ rfl (W.heap.size + 1 + 1) 3 rfl (hostC u.host).toList _ (fun _ h => host_range h.m.c) Tryd.underlying29 rfl (hostInfoL _)) hHeld ?_
        try simp only [Act.put, List.setIfInBounds_toArray, List.set_cons_zero, List.set_cons_succ]
        refine wpAnyH_ready (rs := [5]) (by kernel_rfl) (by simp) ?_
        refine AllReadyH.cons rfl (fun K hK => ?_) AllReadyH.nil
        go_simp
        refine (hostP_any all u.host _ hHeld.pol hfit.host (ht.next hHeld.m.below)).mono ?_
        rintro e x5 ⟨rfl, hb⟩
        rw [e3.out]
        have hT := hHeld.keep hb
        clear hb hHeld
        go_wp2_with fail
        refine hK.out _ _ (hT) (fun hHeld => ?_)
        clear hK K
        try simp only [Act.put, List.setIfInBounds_toArray, List.set_cons_zero, List.set_cons_succ]
        refine wpAnyH_ready (rs := [9]) (by kernel_rfl) (by simp) ?_
        refine AllReadyH.cons rfl (fun K hK => ?_) AllReadyH.nil
        go_simp
        refine (hostP_any p u.host _ (hp.below hHeld.m.below (Nat.le_refl _)) hfit.host (ht.next hHeld.m.below)).mono ?_
        rintro e x9 ⟨rfl, hb⟩
        rw [e1.out]
        have hT := hHeld.keep hb
        clear hb hHeld
        go_wp2_with fail
        refine hK.out _ _ (hT) (fun hHeld => ?_)
        clear hK K
        try simp only [Act.put, List.setIfInBounds_toArray, List.set_cons_zero, List.set_cons_succ]
        refine wpAnyH_take (i := 10) (oi := ⟨some 78, _, _, _, _, _⟩) (v := ?_) rfl (by kernel_rfl) (by kernel_rfl) (by kernel_rfl) (fun _ _ _ h => h) (Or.inl ⟨by rfl, ?_⟩) hHeld ?_
        rotate_left
        · first | (intro w hSw; (try dsimp only at hSw); go_simp; done) | (intro w hSw; (try dsimp only at hSw); go_simp; with_reducible rfl)
        try simp only [Act.put, List.setIfInBounds_toArray, List.set_cons_zero, List.set_cons_succ]
        refine wpAnyH_take (i := 11) (oi := ⟨some 79, _, _, _, _, _⟩) (v := .agg (polC q).toList.toArray) rfl (by kernel_rfl) (by kernel_rfl) (by kernel_rfl) (fun _ _ _ h => h) (yieldsIf_load_mid (by rfl) 24 _ rfl (W.heap.size + 1) 0 rfl (polC q).toList _ (fun _ h => pol_range h.m.b) Tryd.underlying24 rfl (polInfoL _)) hHeld ?_
        try simp only [Act.put, List.setIfInBounds_toArray, List.set_cons_zero, List.set_cons_succ]
        refine wpAnyH_take (i := 12) (oi := ⟨some 80, _, _, _, _, _⟩) (v := ?_) rfl (by kernel_rfl) (by kernel_rfl) (by kernel_rfl) (fun _ _ _ h => h) (Or.inl ⟨by rfl, ?_⟩) hHeld ?_
        rotate_left
        · first | (intro w hSw; (try dsimp only at hSw); go_simp; done) | (intro w hSw; (try dsimp only at hSw); go_simp; with_reducible rfl)
        try simp only [Act.put, List.setIfInBounds_toArray, List.set_cons_zero, List.set_cons_succ]
        refine wpAnyH_take (i := 13) (oi := ⟨some 81, _, _, _, _, _⟩) (v := .agg (hostC u.host).toList.toArray) rfl (by kernel_rfl) (by kernel_rfl) (by kernel_rfl) (fun _ _ _ h => h) (yieldsIf_load_mid (by rfl) 29 _ rfl (W.heap.size + 1 + 1) 3 rfl (hostC u.host).toList _ (fun _ h => host_range h.m.c) Tryd.underlying29 rfl (hostInfoL _)) hHeld ?_
        try simp only [Act.put, List.setIfInBounds_toArray, List.set_cons_zero, List.set_cons_succ]
        refine wpAnyH_ready (rs := [14]) (by kernel_rfl) (by simp) ?_
        refine AllReadyH.cons rfl (fun K hK => ?_) AllReadyH.nil
        go_simp
        refine (hostP_any q u.host _ (hq.below hHeld.m.below (Nat.le_refl _)) hfit.host (ht.next hHeld.m.below)).mono ?_
        rintro e x14 ⟨rfl, hb⟩
        rw [e2.out]
        have hT := hHeld.keep hb
        clear hb hHeld
        go_wp2_with fail
        refine hK.out _ _ (hT) (fun hHeld => ?_)
        clear hK K
        try simp only [Act.put, List.setIfInBounds_toArray, List.set_cons_zero, List.set_cons_succ]
        refine wpAnyH_take (i := 15) (oi := ⟨some 83, _, _, _, _, _⟩) (v := ?_) rfl (by kernel_rfl) (by kernel_rfl) (by kernel_rfl) (fun _ _ _ h => h) (Or.inl ⟨by rfl, ?_⟩) hHeld ?_
        rotate_left
        · first | (intro w hSw; (try dsimp only at hSw); go_simp; done) | (intro w hSw; (try dsimp only at hSw); go_simp; with_reducible rfl)
        try simp only [Act.put, List.setIfInBounds_toArray, List.set_cons_zero, List.set_cons_succ]
        refine wpAnyH_take (i := 16) (oi := ⟨some 84, _, _, _, _, _⟩) (v := ?_) rfl (by kernel_rfl) (by kernel_rfl) (by kernel_rfl) (fun _ _ _ h => h) (Or.inl ⟨by rfl, ?_⟩) hHeld ?_
        rotate_left
        · first | (intro w hSw; (try dsimp only at hSw); go_simp; done) | (intro w hSw; (try dsimp only at hSw); go_simp; with_reducible rfl)
        try simp only [Act.put, List.setIfInBounds_toArray, List.set_cons_zero, List.set_cons_succ]
        refine wpAnyH_take (i := 17) (oi := ⟨some 85, _, _, _, _, _⟩) (v := ?_) rfl (by kernel_rfl) (by kernel_rfl) (by kernel_rfl) (fun _ _ _ h => h) (Or.inl ⟨by rfl, ?_⟩) hHeld ?_
        rotate_left
        · first | (intro w hSw; (try dsimp only at hSw); go_simp; done) | (intro w hSw; (try dsimp only at hSw); go_simp; with_reducible rfl)
        try simp only [Act.put, List.setIfInBounds_toArray, List.set_cons_zero, List.set_cons_succ]
        refine wpAnyH_ready (rs := [18]) (by kernel_rfl) (by simp) ?_
        refine AllReadyH.cons rfl (fun K hK => ?_) AllReadyH.nil
        go_simp
        refine hK.out _ _ (hHeld) (fun hHeld => ?_)
        clear hK K
        try simp only [Act.put, List.setIfInBounds_toArray, List.set_cons_zero, List.set_cons_succ]
        refine wpAnyH_done (by kernel_rfl) ?_ _
        refine NoPanic.normal ?_
        go_wp2_with fail
        go_ret
        exact ⟨rfl, hHeld.m.below⟩
      · have hA1 : MAll W z6.drew p q u g all := hA.keep ((Below.refl _ _).drew)
        refine wp_region_noPanic ?_
        refine wp_region_held_drew (S := fun w' => MAll W w' p q u g all) (by kernel_rfl) (hA1) (fun hHeld => ?_)
        clear hA hA1
        refine wpAnyH_take (i := 0) (oi := ⟨some 68, _, _, _, _, _⟩) (v := ?_) rfl (by kernel_rfl) (by kernel_rfl) (by kernel_rfl) (fun _ _ _ h => h) (Or.inl ⟨by rfl, ?_⟩) hHeld ?_
        rotate_left
        · first | (intro w hSw; (try dsimp only at hSw); go_simp; done) | (intro w hSw; (try dsimp only at hSw); go_simp; with_reducible rfl)
        try simp only [Act.put, List.setIfInBounds_toArray, List.set_cons_zero, List.set_cons_succ]
        refine wpAnyH_take (i := 1) (oi := ⟨some 69, _, _, _, _, _⟩) (v := ?_) rfl (by kernel_rfl) (by kernel_rfl) (by kernel_rfl) (fun _ _ _ h => h) (Or.inl ⟨by rfl, ?_⟩) hHeld ?_
        rotate_left
        · first | (intro w hSw; (try dsimp only at hSw); go_simp; done) | (intro w hSw; (try dsimp only at hSw); go_simp; with_reducible rfl)
        try simp only [Act.put, List.setIfInBounds_toArray, List.set_cons_zero, List.set_cons_succ]
        refine wpAnyH_take (i := 2) (oi := ⟨some 70, _, _, _, _, _⟩) (v := .agg (polC all).toList.toArray) rfl (by kernel_rfl) (by kernel_rfl) (by kernel_rfl) (fun _ _ _ h => h) (yieldsIf_load_mid (by rfl) 24 _ rfl g 0 rfl (polC all).toList _ (fun _ h => pol_range h.blk) Tryd.underlying24 rfl (polInfoL _)) hHeld ?_
        try simp only [Act.put, List.setIfInBounds_toArray, List.set_cons_zero, List.set_cons_succ]
        refine wpAnyH_take (i := 3) (oi := ⟨some 71, _, _, _, _, _⟩) (v := ?_) rfl (by kernel_rfl) (by kernel_rfl) (by kernel_rfl) (fun _ _ _ h => h) (Or.inl ⟨by rfl, ?_⟩) hHeld ?_
        rotate_left
        · first | (intro w hSw; (try dsimp only at hSw); go_simp; done) | (intro w hSw; (try dsimp only at hSw); go_simp; with_reducible rfl)
        try simp only [Act.put, List.setIfInBounds_toArray, List.set_cons_zero, List.set_cons_succ]
        refine wpAnyH_take (i := 4) (oi := ⟨some 72, _, _, _, _, _⟩) (v := .agg (hostC u.host).toList.toArray) rfl (by kernel_rfl) (by kernel_rfl) (by kernel_rfl) (fun _ _ _ h => h) (yieldsIf_load_mid (by rfl) 29 _ rfl (W.heap.size + 1 + 1) 3 rfl (hostC u.host).toList _ (fun _ h => host_range h.m.c) Tryd.underlying29 rfl (hostInfoL _)) hHeld ?_
        try simp only [Act.put, List.setIfInBounds_toArray, List.set_cons_zero, List.set_cons_succ]
        refine wpAnyH_take (i := 6) (oi := ⟨some 74, _, _, _, _, _⟩) (v := .agg (polC p).toList.toArray) rfl (by kernel_rfl) (by kernel_rfl) (by kernel_rfl) (fun _ _ _ h => h) (yieldsIf_load_mid (by rfl) 24 _ rfl W.heap.size 0 rfl (polC p).toList _ (fun _ h => pol_range h.m.a) Tryd.underlying24 rfl (polInfoL _)) hHeld ?_
        try simp only [Act.put, List.setIfInBounds_toArray, List.set_cons_zero, List.set_cons_succ]
        refine wpAnyH_take (i := 7) (oi := ⟨some 75, _, _, _, _, _⟩) (v := ?_) rfl (by kernel_rfl) (by kernel_rfl) (by kernel_rfl) (fun _ _ _ h => h) (Or.inl ⟨by rfl, ?_⟩) hHeld ?_
        rotate_left
        · first | (intro w hSw; (try dsimp only at hSw); go_simp; done) | (intro w hSw; (try dsimp only at hSw); go_simp; with_reducible rfl)
        try simp only [Act.put, List.setIfInBounds_toArray, List.set_cons_zero, List.set_cons_succ]
        refine wpAnyH_take (i := 8) (oi := ⟨some 76, _, _, _, _, _⟩) (v := .agg (hostC u.host).toList.toArray) rfl (by kernel_rfl) (by kernel_rfl) (by kernel_rfl) (fun _ _ _ h => h) (yieldsIf_load_mid (by rfl) 29 _ rfl (W.heap.size + 1 + 1) 3 rfl (hostC u.host).toList _ (fun _ h => host_range h.m.c) Tryd.underlying29 rfl (hostInfoL _)) hHeld ?_
        try simp only [Act.put, List.setIfInBounds_toArray, List.set_cons_zero, List.set_cons_succ]
        refine wpAnyH_ready (rs := [5]) (by kernel_rfl) (by simp) ?_
        refine AllReadyH.cons rfl (fun K hK => ?_) AllReadyH.nil
        go_simp
        refine (hostP_any all u.host _ hHeld.pol hfit.host (ht.next hHeld.m.below)).mono ?_
        rintro e x5 ⟨rfl, hb⟩
        rw [e3.out]
        have hT := hHeld.keep hb
        clear hb hHeld
        go_wp2_with fail
        refine hK.out _ _ (hT) (fun hHeld => ?_)
        clear hK K
        try simp only [Act.put, List.setIfInBounds_toArray, List.set_cons_zero, List.set_cons_succ]
        refine wpAnyH_ready (rs := [9]) (by kernel_rfl) (by simp) ?_
        refine AllReadyH.cons rfl (fun K hK => ?_) AllReadyH.nil
        go_simp
        refine (hostP_any p u.host _ (hp.below hHeld.m.below (Nat.le_refl _)) hfit.host (ht.next hHeld.m.below)).mono ?_
        rintro e x9 ⟨rfl, hb⟩
        rw [e1.out]
        have hT := hHeld.keep hb
        clear hb hHeld
        go_wp2_with fail
        refine hK.out _ _ (hT) (fun hHeld => ?_)
        clear hK K
        try simp only [Act.put, List.setIfInBounds_toArray, List.set_cons_zero, List.set_cons_succ]
        refine wpAnyH_take (i := 10) (oi := ⟨some 78, _, _, _, _, _⟩) (v := ?_) rfl (by kernel_rfl) (by kernel_rfl) (by kernel_rfl) (fun _ _ _ h => h) (Or.inl ⟨by rfl, ?_⟩) hHeld ?_
        rotate_left
        · first | (intro w hSw; (try dsimp only at hSw); go_simp; done) | (intro w hSw; (try dsimp only at hSw); go_simp; with_reducible rfl)
        try simp only [Act.put, List.setIfInBounds_toArray, List.set_cons_zero, List.set_cons_succ]
        refine wpAnyH_take (i := 11) (oi := ⟨some 79, _, _, _, _, _⟩) (v := .agg (polC q).toList.toArray) rfl (by kernel_rfl) (by kernel_rfl) (by kernel_rfl) (fun _ _ _ h => h) (yieldsIf_load_mid (by rfl) 24 _ rfl (W.heap.size + 1) 0 rfl (polC q).toList _ (fun _ h => pol_range h.m.b) Tryd.underlying24 rfl (polInfoL _)) hHeld ?_
        try simp only [Act.put, List.setIfInBounds_toArray, List.set_cons_zero, List.set_cons_succ]
        refine wpAnyH_take (i := 12) (oi := ⟨some 80, _, _, _, _, _⟩) (v := ?_) rfl (by kernel_rfl) (by kernel_rfl) (by kernel_rfl) (fun _ _ _ h => h) (Or.inl ⟨by rfl, ?_⟩) hHeld ?_
        rotate_left
        · first | (intro w hSw; (try dsimp only at hSw); go_simp; done) | (intro w hSw; (try dsimp only at hSw); go_simp; with_reducible rfl)
        try simp only [Act.put, List.setIfInBounds_toArray, List.set_cons_zero, List.set_cons_succ]
        refine wpAnyH_take (i := 13) (oi := ⟨some 81, _, _, _, _, _⟩) (v := .agg (hostC u.host).toList.toArray) rfl (by kernel_rfl) (by kernel_rfl) (by kernel_rfl) (fun _ _ _ h => h) (yieldsIf_load_mid (by rfl) 29 _ rfl (W.heap.size + 1 + 1) 3 rfl (hostC u.host).toList _ (fun _ h => host_range h.m.c) Tryd.underlying29 rfl (hostInfoL _)) hHeld ?_
        try simp only [Act.put, List.setIfInBounds_toArray, List.set_cons_zero, List.set_cons_succ]
        refine wpAnyH_ready (rs := [14]) (by kernel_rfl) (by simp) ?_
        refine AllReadyH.cons rfl (fun K hK => ?_) AllReadyH.nil
        go_simp
        refine (hostP_any q u.host _ (hq.below hHeld.m.below (Nat.le_refl _)) hfit.host (ht.next hHeld.m.below)).mono ?_
        rintro e x14 ⟨rfl, hb⟩
        rw [e2.out]
        have hT := hHeld.keep hb
        clear hb hHeld
        go_wp2_with fail
        refine hK.out _ _ (hT) (fun hHeld => ?_)
        clear hK K
        try simp only [Act.put, List.setIfInBounds_toArray, List.set_cons_zero, List.set_cons_succ]
        refine wpAnyH_take (i := 15) (oi := ⟨some 83, _, _, _, _, _⟩) (v := ?_) rfl (by kernel_rfl) (by kernel_rfl) (by kernel_rfl) (fun _ _ _ h => h) (Or.inl ⟨by rfl, ?_⟩) hHeld ?_
        rotate_left
        · first | (intro w hSw; (try dsimp only at hSw); go_simp; done) | (intro w hSw; (try dsimp only at hSw); go_simp; with_reducible rfl)
        try simp only [Act.put, List.setIfInBounds_toArray, List.set_cons_zero, List.set_cons_succ]
        refine wpAnyH_take (i := 16) (oi := ⟨some 84, _, _, _, _, _⟩) (v := ?_) rfl (by kernel_rfl) (by kernel_rfl) (by kernel_rfl) (fun _ _ _ h => h) (Or.inl ⟨by rfl, ?_⟩) hHeld ?_
        rotate_left
        · first | (intro w hSw; (try dsimp only at hSw); go_simp; done) | (intro w hSw; (try dsimp only at hSw); go_simp; with_reducible rfl)
        try simp only [Act.put, List.setIfInBounds_toArray, List.set_cons_zero, List.set_cons_succ]
        refine wpAnyH_take (i := 17) (oi := ⟨some 85, _, _, _, _, _⟩) (v := ?_) rfl (by kernel_rfl) (by kernel_rfl) (by kernel_rfl) (fun _ _ _ h => h) (Or.inl ⟨by rfl, ?_⟩) hHeld ?_
        rotate_left
        · first | (intro w hSw; (try dsimp only at hSw); go_simp; done) | (intro w hSw; (try dsimp only at hSw); go_simp; with_reducible rfl)
        try simp only [Act.put, List.setIfInBounds_toArray, List.set_cons_zero, List.set_cons_succ]
        refine wpAnyH_ready (rs := [18]) (by kernel_rfl) (by simp) ?_
        refine AllReadyH.cons rfl (fun K hK => ?_) AllReadyH.nil
        go_simp
        refine hK.out _ _ (hHeld) (fun hHeld => ?_)
        clear hK K
        try simp only [Act.put, List.setIfInBounds_toArray, List.set_cons_zero, List.set_cons_succ]
        refine wpAnyH_done (by kernel_rfl) ?_ _
        refine NoPanic.normal ?_
        go_wp2_with fail
        go_ret
        exact ⟨rfl, hHeld.m.below⟩
    · replace e3 := Lib.hid (e3.out.trans (Bool.true_or _))
      have hA1 : MAll W z6.drew p q u g all := hA.keep ((Below.refl _ _).drew)
      refine wp_region_noPanic ?_
      refine wp_region_held_drew (S := fun w' => MAll W w' p q u g all) (by kernel_rfl) (hA1) (fun hHeld => ?_)
      clear hA hA1
      refine wpAnyH_take (i := 0) (oi := ⟨some 68, _, _, _, _, _⟩) (v := ?_) rfl (by kernel_rfl) (by kernel_rfl) (by kernel_rfl) (fun _ _ _ h => h) (Or.inl ⟨by rfl, ?_⟩) hHeld ?_
      rotate_left
      · first | (intro w hSw; (try dsimp only at hSw); go_simp; done) | (intro w hSw; (try dsimp only at hSw); go_simp; with_reducible rfl)
      try simp only [Act.put, List.setIfInBounds_toArray, List.set_cons_zero, List.set_cons_succ]
      refine wpAnyH_take (i := 1) (oi := ⟨some 69, _, _, _, _, _⟩) (v := ?_) rfl (by kernel_rfl) (by kernel_rfl) (by kernel_rfl) (fun _ _ _ h => h) (Or.inl ⟨by rfl, ?_⟩) hHeld ?_
      rotate_left
      · first | (intro w hSw; (try dsimp only at hSw); go_simp; done) | (intro w hSw; (try dsimp only at hSw); go_simp; with_reducible rfl)
      try simp only [Act.put, List.setIfInBounds_toArray, List.set_cons_zero, List.set_cons_succ]
      refine wpAnyH_take (i := 2) (oi := ⟨some 70, _, _, _, _, _⟩) (v := .agg (polC all).toList.toArray) rfl (by kernel_rfl) (by kernel_rfl) (by kernel_rfl) (fun _ _ _ h => h) (yieldsIf_load_mid (by rfl) 24 _ rfl g 0 rfl (polC all).toList _ (fun _ h => pol_range h.blk) Tryd.underlying24 rfl (polInfoL _)) hHeld ?_
      try simp only [Act.put, List.setIfInBounds_toArray, List.set_cons_zero, List.set_cons_succ]
      refine wpAnyH_take (i := 3) (oi := ⟨some 71, _, _, _, _, _⟩) (v := ?_) rfl (by kernel_rfl) (by kernel_rfl) (by kernel_rfl) (fun _ _ _ h => h) (Or.inl ⟨by rfl, ?_⟩) hHeld ?_
      rotate_left
      · first | (intro w hSw; (try dsimp only at hSw); go_simp; done) | (intro w hSw; (try dsimp only at hSw); go_simp; with_reducible rfl)
      try simp only [Act.put, List.setIfInBounds_toArray, List.set_cons_zero, List.set_cons_succ]
      refine wpAnyH_take (i := 4) (oi := ⟨some 72, _, _, _, _, _⟩) (v := .agg (hostC u.host).toList.toArray) rfl (by kernel_rfl) (by kernel_rfl) (by kernel_rfl) (fun _ _ _ h => h) (yieldsIf_load_mid (by rfl) 29 _ rfl (W.heap.size + 1 + 1) 3 rfl (hostC u.host).toList _ (fun _ h => host_range h.m.c) Tryd.underlying29 rfl (hostInfoL _)) hHeld ?_
      try simp only [Act.put, List.setIfInBounds_toArray, List.set_cons_zero, List.set_cons_succ]
      refine wpAnyH_take (i := 6) (oi := ⟨some 74, _, _, _, _, _⟩) (v := .agg (polC p).toList.toArray) rfl (by kernel_rfl) (by kernel_rfl) (by kernel_rfl) (fun _ _ _ h => h) (yieldsIf_load_mid (by rfl) 24 _ rfl W.heap.size 0 rfl (polC p).toList _ (fun _ h => pol_range h.m.a) Tryd.underlying24 rfl (polInfoL _)) hHeld ?_
      try simp only [Act.put, List.setIfInBounds_toArray, List.set_cons_zero, List.set_cons_succ]
      refine wpAnyH_take (i := 7) (oi := ⟨some 75, _, _, _, _, _⟩) (v := ?_) rfl (by kernel_rfl) (by kernel_rfl) (by kernel_rfl) (fun _ _ _ h => h) (Or.inl ⟨by rfl, ?_⟩) hHeld ?_
      rotate_left
      · first | (intro w hSw; (try dsimp only at hSw); go_simp; done) | (intro w hSw; (try dsimp only at hSw); go_simp; with_reducible rfl)
      try simp only [Act.put, List.setIfInBounds_toArray, List.set_cons_zero, List.set_cons_succ]
      refine wpAnyH_take (i := 8) (oi := ⟨some 76, _, _, _, _, _⟩) (v := .agg (hostC u.host).toList.toArray) rfl (by kernel_rfl) (by kernel_rfl) (by kernel_rfl) (fun _ _ _ h => h) (yieldsIf_load_mid (by rfl) 29 _ rfl (W.heap.size + 1 + 1) 3 rfl (hostC u.host).toList _ (fun _ h => host_range h.m.c) Tryd.underlying29 rfl (hostInfoL _)) hHeld ?_
      try simp only [Act.put, List.setIfInBounds_toArray, List.set_cons_zero, List.set_cons_succ]
      refine wpAnyH_ready (rs := [5]) (by kernel_rfl) (by simp) ?_
      refine AllReadyH.cons rfl (fun K hK => ?_) AllReadyH.nil
      go_simp
      refine (hostP_any all u.host _ hHeld.pol hfit.host (ht.next hHeld.m.below)).mono ?_
      rintro e x5 ⟨rfl, hb⟩
      rw [e3.out]
      have hT := hHeld.keep hb
      clear hb hHeld
      go_wp2_with fail
      refine hK.out _ _ (hT) (fun hHeld => ?_)
      clear hK K
      try simp only [Act.put, List.setIfInBounds_toArray, List.set_cons_zero, List.set_cons_succ]
      refine wpAnyH_ready (rs := [9]) (by kernel_rfl) (by simp) ?_
      refine AllReadyH.cons rfl (fun K hK => ?_) AllReadyH.nil
      go_simp
      refine (hostP_any p u.host _ (hp.below hHeld.m.below (Nat.le_refl _)) hfit.host (ht.next hHeld.m.below)).mono ?_
      rintro e x9 ⟨rfl, hb⟩
      rw [e1.out]
      have hT := hHeld.keep hb
      clear hb hHeld
      go_wp2_with fail
      refine hK.out _ _ (hT) (fun hHeld => ?_)
      clear hK K
      try simp only [Act.put, List.setIfInBounds_toArray, List.set_cons_zero, List.set_cons_succ]
      refine wpAnyH_take (i := 10) (oi := ⟨some 78, _, _, _, _, _⟩) (v := ?_) rfl (by kernel_rfl) (by kernel_rfl) (by kernel_rfl) (fun _ _ _ h => h) (Or.inl ⟨by rfl, ?_⟩) hHeld ?_
      rotate_left
      · first | (intro w hSw; (try dsimp only at hSw); go_simp; done) | (intro w hSw; (try dsimp only at hSw); go_simp; with_reducible rfl)
      try simp only [Act.put, List.setIfInBounds_toArray, List.set_cons_zero, List.set_cons_succ]
      refine wpAnyH_take (i := 11) (oi := ⟨some 79, _, _, _, _, _⟩) (v := undef) rfl (by kernel_rfl) (by kernel_rfl) (by kernel_rfl) (fun _ _ _ h => h) (Or.inr ⟨by rfl, rfl⟩) hHeld ?_
      try simp only [Act.put, List.setIfInBounds_toArray, List.set_cons_zero, List.set_cons_succ]
      refine wpAnyH_take (i := 12) (oi := ⟨some 80, _, _, _, _, _⟩) (v := undef) rfl (by kernel_rfl) (by kernel_rfl) (by kernel_rfl) (fun _ _ _ h => h) (Or.inr ⟨by rfl, rfl⟩) hHeld ?_
      try simp only [Act.put, List.setIfInBounds_toArray, List.set_cons_zero, List.set_cons_succ]
      refine wpAnyH_take (i := 13) (oi := ⟨some 81, _, _, _, _, _⟩) (v := undef) rfl (by kernel_rfl) (by kernel_rfl) (by kernel_rfl) (fun _ _ _ h => h) (Or.inr ⟨by rfl, rfl⟩) hHeld ?_
      try simp only [Act.put, List.setIfInBounds_toArray, List.set_cons_zero, List.set_cons_succ]
      refine wpAnyH_take (i := 14) (oi := ⟨some 82, _, _, _, _, _⟩) (v := undef) rfl (by kernel_rfl) (by kernel_rfl) (by kernel_rfl) (fun _ _ _ h => h) (Or.inr ⟨by rfl, rfl⟩) hHeld ?_
      try simp only [Act.put, List.setIfInBounds_toArray, List.set_cons_zero, List.set_cons_succ]
      refine wpAnyH_take (i := 15) (oi := ⟨some 83, _, _, _, _, _⟩) (v := ?_) rfl (by kernel_rfl) (by kernel_rfl) (by kernel_rfl) (fun _ _ _ h => h) (Or.inl ⟨by rfl, ?_⟩) hHeld ?_
      rotate_left
      · first | (intro w hSw; (try dsimp only at hSw); go_simp; done) | (intro w hSw; (try dsimp only at hSw); go_simp; with_reducible rfl)
      try simp only [Act.put, List.setIfInBounds_toArray, List.set_cons_zero, List.set_cons_succ]
      refine wpAnyH_take (i := 16) (oi := ⟨some 84, _, _, _, _, _⟩) (v := ?_) rfl (by kernel_rfl) (by kernel_rfl) (by kernel_rfl) (fun _ _ _ h => h) (Or.inl ⟨by rfl, ?_⟩) hHeld ?_
      rotate_left
      · first | (intro w hSw; (try dsimp only at hSw); go_simp; done) | (intro w hSw; (try dsimp only at hSw); go_simp; with_reducible rfl)
      try simp only [Act.put, List.setIfInBounds_toArray, List.set_cons_zero, List.set_cons_succ]
      refine wpAnyH_take (i := 17) (oi := ⟨some 85, _, _, _, _, _⟩) (v := ?_) rfl (by kernel_rfl) (by kernel_rfl) (by kernel_rfl) (fun _ _ _ h => h) (Or.inl ⟨by rfl, ?_⟩) hHeld ?_
      rotate_left
      · first | (intro w hSw; (try dsimp only at hSw); go_simp; done) | (intro w hSw; (try dsimp only at hSw); go_simp; with_reducible rfl)
      try simp only [Act.put, List.setIfInBounds_toArray, List.set_cons_zero, List.set_cons_succ]
      refine wpAnyH_ready (rs := [18]) (by kernel_rfl) (by simp) ?_
      refine AllReadyH.cons rfl (fun K hK => ?_) AllReadyH.nil
      go_simp
      refine hK.out _ _ (hHeld) (fun hHeld => ?_)
      clear hK K
      try simp only [Act.put, List.setIfInBounds_toArray, List.set_cons_zero, List.set_cons_succ]
      refine wpAnyH_done (by kernel_rfl) ?_ _
      refine NoPanic.normal ?_
      go_wp2_with fail
      go_ret
      exact ⟨rfl, hHeld.m.below⟩
end Go.Proofs.YtnalafhepnfggaaDoor
