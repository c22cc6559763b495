/- The walk of SerialPaths. -/
import Derived.Test.YteffhkafocfajaaDoorRef13
import Derived.Test.YteffhkafocfajaaDoorAppendS
import Derived.Deep.RegionHeld3
import Derived.Lib.QuoteBits
import Derived.Laws.CopyOwn
namespace Go.Proofs.YteffhkafocfajaaDoor
open Go.RowKit
set_option linter.unusedVariables false
set_option linter.unusedSimpArgs false

/-- The address with one piece more. -/
def moreU (u : UrlS) (pa : Option Addr) (pc : Nat) (t : ByteArray) : UrlS := { u with pathA := pa, pathC := pc, path := u.path ++ [t] }
theorem moreU_cells (u : UrlS) (pa : Option Addr) (pc : Nat) (t : ByteArray) : (urlC u).setIfInBounds 18 (.slice pa (u.path.length + 1) pc) = urlC (moreU u pa pc t) := by
  have e : (u.path ++ [t]).length = u.path.length + 1 := by simp
  rw [← e]; rfl
theorem more_in {W w3 w5 : World} {u : UrlS} {g pc : Nat} {pa : Option Addr} {t : ByteArray} (hI : UIn W w3 u) (hgW : W.heap.size < g) (hgl : g < w3.heap.size) (hb2 : Below w3.heap.size w3 w5)
    (hG5 : w5.heap[g]? = some (.cells (urlC u) 29 (0, 0))) (ho : OwnS w5 w3.heap.size 9 (.slice pa ([] ++ u.path ++ [t]).length pc) ([] ++ u.path ++ [t]))
    (hr : 0 < ([] ++ u.path ++ [t]).length → ∃ g o, pa = some ⟨g, o, none⟩ ∧ ∀ i (h : i < ([] ++ u.path ++ [t]).length), w5.cell? ⟨g, o + i, none⟩ = some (.string ([] ++ u.path ++ [t])[i])) :
    UIn W (w5.setCell ⟨g, 18, none⟩ (.slice pa (u.path.length + 1) pc)) u ∧ (w5.setCell ⟨g, 18, none⟩ (.slice pa (u.path.length + 1) pc)).heap[g]? = some (.cells (urlC (moreU u pa pc t)) 29 (0, 0)) ∧
      PathIn (w5.setCell ⟨g, 18, none⟩ (.slice pa (u.path.length + 1) pc)) (moreU u pa pc t) := by
  rw [setCell_eq_setRow _ _ _ _ _ _ _ hG5, moreU_cells u pa pc t]
  have hI5 := hI.keep hb2
  refine ⟨⟨below_setRow hI5.below (by omega) _, (setRow_other _ _ _ _ (by omega)).trans hI5.blk, by rw [setRow_size]; exact hI5.size⟩, setRow_heap _ _ _ _ _ _ hG5, ?_⟩
  intro _
  obtain ⟨gg, o, rfl, hc⟩ := hr (by simp)
  have hgg := (World.ownsRow.lt ho gg rfl).1
  refine ⟨gg, o, rfl, fun i hi => ?_⟩
  rw [cell_setRow_other _ _ _ _ (by show gg ≠ g; omega)]
  exact hc i hi
/-- Two addresses in their boxes. -/
structure TwoIn (W wx : World) (g : Nat) (u v : UrlS) : Prop where
  a : UIn W wx u
  blk : wx.heap[g]? = some (.cells (urlC v) 29 (0, 0))
  p : PathIn wx v
theorem TwoIn.keep {W wx w' : World} {g : Nat} {u v : UrlS} (h : TwoIn W wx g u v) (hb : Below wx.heap.size wx w') : TwoIn W w' g u v :=
  ⟨h.a.keep hb, (hb.block _ (Array.getElem?_eq_some_iff.1 h.blk).1).trans h.blk, h.p.below hb (Nat.le_refl _)⟩
theorem TwoIn.drew {W wx : World} {g : Nat} {u v : UrlS} (h : TwoIn W wx g u v) : TwoIn W wx.drew g u v := h.keep (Below.refl _ _).drew
theorem TwoIn.range {W wx : World} {g : Nat} {u v : UrlS} (h : TwoIn W wx g u v) : wx.rangeAt g 0 (urlC v).toList := fun j x hx => by
  rw [Nat.zero_add]
  exact (cell_of_row _ _ _ _ _ _ h.blk).trans (by rw [← Array.getElem?_toList]; exact hx)
theorem TwoIn.c17 {W wx : World} {g : Nat} {u v : UrlS} (h : TwoIn W wx g u v) : TwoIn W wx g u v ∧ wx.cell? ⟨W.heap.size, 17, none⟩ = some (.string u.flat) := ⟨h, (h.a.box 17).trans rfl⟩
set_option maxRecDepth 100000 in
set_option maxHeartbeats 2000000 in
theorem serialPaths_walk (u : UrlS) (t : ByteArray) (W : World) (hu : UrlIn W u) (htz : t.size ≤ maxLen) (ht : Tabs W) : Calls Tryd.prog 6 #[.agg (urlC u), .string t] W (RetB W true) := by
  obtain ⟨x0, x1, x2, x3, x4, x5, x6, x7, x8, x9, x10, x11, x12, x13, x14, x15, x16, x17, x18, x19, x20, x21, x22⟩ := urlC_at u
  have hI := UIn.start W u
  unfold maxLen at htz
  go_enter Tryd.func6, Tryd.ntmps6
  go_wp2_with fail
  refine (small13_any _ (ht.next hI.below)).mono ?_
  rintro e w1 ⟨rfl, hb⟩
  replace hI := hI.keep hb
  clear hb
  go_wp2_with (refine wpList_load_row rfl 29 _ rfl W.heap.size rfl _ (urlC u) _ _ hI.blk Tryd.underlying29 rfl urlInfo ?_)
  refine (few_in u W _ hu hI).mono ?_
  rintro e w2 ⟨b, rfl, hf, hb⟩
  replace hI := hI.keep hb
  clear hb
  cases b
  · go_wp2_with fail
    go_ret
    exact ⟨rfl, hI.below⟩
  replace hf := hf rfl
  by_cases hbig : 500 < t.size
  · have q3 : (500 : Int) < (t.size : Int) := by omega
    go_wp2_with fail
    go_ret
    exact ⟨rfl, hI.below⟩
  have q3 : (t.size : Int) ≤ 500 := by omega
  have hbx := hI.box
  have hpc : 0 < u.path.length → ∃ g o, u.pathA = some ⟨g, o, none⟩ ∧ ∀ i (h : i < u.path.length), w2.cell? ⟨g, o + i, none⟩ = some (.string u.path[i]) := hu.path.below hI.below (Nat.le_refl _)
  replace hpc := Lib.hid hpc
  go_upto_region 6 with (first
    | (refine wpList_load_row rfl 29 _ rfl W.heap.size rfl _ (urlC u) _ _ hI.blk Tryd.underlying29 rfl urlInfo ?_)
    | (refine wpList_store_new rfl 29 _ _ rfl rfl (urlC u) _ _ _ rfl (by simp) rfl urlInfo rfl (urlC_cells _) ?_))
  refine wp_gen13 (R := fun wx => UIn W wx u ∧ wx.heap[w2.heap.size]? = some (.cells (urlC u) 29 (0, 0))) ⟨hI.alloc _, heap_new rfl⟩ ?_
  have hgW : W.heap.size < w2.heap.size := hI.size
  clear hI hbx hpc
  generalize w2.heap.size = g at hgW ⊢
  rintro w3 ⟨hI, hG⟩
  have hgl : g < w3.heap.size := (Array.getElem?_eq_some_iff.1 hG).1
  have hbx := hI.box
  have hlt0 : W.heap.size < w3.heap.size := hI.size
  have hpc : 0 < u.path.length → ∃ g o, u.pathA = some ⟨g, o, none⟩ ∧ ∀ i (h : i < u.path.length), (w3.alloc (.cells #[] 9)).cell? ⟨g, o + i, none⟩ = some (.string u.path[i]) := hu.path.below (hI.alloc _).below (Nat.le_refl _)
  have hnil : u.pathA = none → u.pathC = 0 ∧ u.path = [] := fun h => ⟨hu.nilC h, by
    cases hp : u.path with
    | nil => rfl
    | cons a b => obtain ⟨g, o, e, _⟩ := hu.path (by rw [hp]; simp); rw [h] at e; cases e⟩
  replace hpc := Lib.hid hpc
  replace hnil := Lib.hid hnil
  have hpn := hf.n
  have hem := OwnS.empty (w := w3) (E := 9) (Nat.le_refl w3.heap.size)
  have hbe : Below w3.heap.size w3 (w3.alloc (.cells #[] 9)) := (Below.refl _ _).alloc (Nat.le_refl _) _
  go_upto_region 7 with (first
    | (at_builtin; refine wpList_moreS tyStr rfl _ _ rfl u.path u.pathA u.pathC rfl rfl hnil.out hpc.out hem hbe (by simp) (by simp only [List.length_nil, maxLen]; omega) (by simp only [List.length_nil]; omega) ?_; intro v1 w4 ho1 hb1)
    | (at_builtin; refine wpList_pushS tyStr rfl _ _ rfl rfl rfl ho1 hb1 hb1.size (by simp only [List.nil_append, maxLen]; omega) (by simp only [List.nil_append]; omega) ?_; intro v2 w5 ho2 hb2 _; obtain ⟨pa, pc, rfl, hrd⟩ := ho2.read; replace hrd := Lib.hid hrd; replace ho2 := Lib.hid ho2; have hG5 := Lib.hid ((hb2.block g hgl).trans hG); have hc18 := (cell_of_row _ _ 18 _ _ _ hG5.out).trans x18; have hfr := frozen_of_row _ _ 18 _ _ hG5.out))
  refine wp_gen13 (R := fun wx => UIn W wx u ∧ wx.heap[g]? = some (.cells (urlC (moreU u pa pc t)) 29 (0, 0)) ∧ PathIn wx (moreU u pa pc t)) ?_ ?_
  · exact more_in hI hgW hgl hb2 hG5.out ho2.out hrd.out
  clear hI hbx hpc hG hG5 hc18 hfr hrd ho2 hb2 hlt0 hgl hnil hem hbe hb1 ho1
  rintro w6 ⟨hI, hG, hP⟩
  have hbx := hI.box
  have hT : TwoIn W w6 g u (moreU u pa pc t) := ⟨hI, hG, hP⟩
  have hl1 : (pathT u.path).length ≤ 549755813888 := Nat.le_trans hf.path (by decide)
  have hl2 : (pathT (moreU u pa pc t).path).length ≤ 549755813888 := by
    show (pathT (u.path ++ [t])).length ≤ _
    have := hf.path
    unfold pathT at this ⊢
    rw [List.flatMap_append, List.length_append]; simp only [List.flatMap_cons, List.flatMap_nil, List.append_nil, List.length_cons, size_toList]; omega
  have hn1 := hu.n
  have hn2 : (moreU u pa pc t).path.length ≤ maxLen := by show (u.path ++ [t]).length ≤ _; have := hf.n; simp only [maxLen, List.length_append, List.length_cons, List.length_nil]; omega
  have hl := hf.path
  have hfz := hf.n
  replace hl1 := Lib.hid hl1
  replace hl2 := Lib.hid hl2
  replace hn1 := Lib.hid hn1
  replace hn2 := Lib.hid hn2
  clear hG hP hpn
  rcases bool_or u.flatP with hfl | hfl
  · rw [hfl] at x16
    have hX : Hid (pathX (moreU u pa pc t) = pathT u.path ++ 47 :: t.toList) := Lib.hid (by
      have e : pathX (moreU u pa pc t) = pathT (u.path ++ [t]) := by unfold pathX moreU; rw [hfl]; rfl
      rw [e]; unfold pathT; rw [List.flatMap_append]; simp)
    have hX2 : Hid (pathX u = pathT u.path) := Lib.hid (by unfold pathX; rw [hfl]; rfl)
    have c16 := (hbx 16).trans x16
    have c18 := (hbx 18).trans x18
    have hPu : Hid (0 < u.path.length → ∃ g o, u.pathA = some ⟨g, o, none⟩ ∧ ∀ i (h : i < u.path.length), w6.cell? ⟨g, o + i, none⟩ = some (.string u.path[i])) := Lib.hid (hu.path.below hI.below (Nat.le_refl _))
    replace hfl := Lib.hid hfl
    clear hbx hI x0 x1 x2 x3 x4 x5 x6 x7 x8 x9 x10 x11 x12 x13 x14 x15 x16 x17 x18 x19 x20 x21 x22
    go_wp2_with fail
    go_loop [8, 9] (fun nv iv => ∃ k : Nat, iv = .int .i64 k ∧ nv = .int .i64 ((pathT (u.path.take k)).length : Int) ∧ k ≤ u.path.length) (fun _ i => u.path.length - (intOf i).toNat)
    case atStart => exact ⟨0, rfl, rfl, Nat.zero_le _⟩
    case round =>
      obtain ⟨k, rfl, rfl, hk⟩ := hrel
      have hle := pathT_le u.path k
      by_cases hlt : k < u.path.length
      · obtain ⟨gg, o, hpa, hcc⟩ := hPu.out (by omega)
        have y1 := hcc k hlt
        have hle2 := pathT_le u.path (k + 1)
        have hsn := congrArg List.length (pathT_snoc hlt)
        rw [List.length_append, List.length_cons, size_toList] at hsn
        have hltI : (k : Int) < (u.path.length : Int) := by omega
        have e8 : ((pathT (u.path.take (k + 1))).length : Int) = ((pathT (u.path.take k)).length : Int) + 1 + (u.path[k].size : Int) := by omega
        have b8 : (pathT (u.path.take k)).length ≤ 2050 := by omega
        have b9 : u.path[k].size ≤ 2050 := by omega
        replace e8 := Lib.hid e8
        replace hsn := Lib.hid hsn
        generalize hN : (pathT (u.path.take k)).length = N at b8 e8 ⊢
        replace hN := Lib.hid hN
        clear hcc hle hle2
        rw [hpa] at c18
        go_wp2_with fail
        go_round
        case rel => exact ⟨k + 1, by go_num, by rw [e8.out], by omega⟩
        case measure => simp [intOf]; omega
      · obtain rfl : k = u.path.length := by omega
        have hgeI : (u.path.length : Int) ≤ (u.path.length : Int) := Int.le_refl _
        have hall : Hid ((pathT (u.path.take u.path.length)).length = (pathT u.path).length) := Lib.hid (by rw [List.take_of_length_le (Nat.le_refl _)])
        generalize hN : (pathT (u.path.take u.path.length)).length = N at hall ⊢
        replace hN := Lib.hid hN
        clear hle


        go_upto_region 14 with (fail)
        refine wp_region_noPanic ?_
        refine wp_region_held_drew (S := fun w' => TwoIn W w' g u (moreU u pa pc t)) (by kernel_rfl) (hT.drew) (fun hHeld => ?_)
        refine wpAnyH_take (i := 0) (v := ?_) rfl (by kernel_rfl) (by kernel_rfl) (by kernel_rfl) (fun _ _ _ h => h) (Or.inl ⟨by rfl, ?_⟩) hHeld ?_
        rotate_left
        · first | (intro w hSw; (try dsimp only at hSw); go_simp; done) | (intro w hSw; (try dsimp only at hSw); go_simp; with_reducible rfl)
        try simp only [Act.put, List.setIfInBounds_toArray, List.set_cons_zero, List.set_cons_succ]
        refine wpAnyH_take (i := 1) (v := ?_) rfl (by kernel_rfl) (by kernel_rfl) (by kernel_rfl) (fun _ _ _ h => h) (Or.inl ⟨by rfl, ?_⟩) hHeld ?_
        rotate_left
        · first | (intro w hSw; (try dsimp only at hSw); go_simp; done) | (intro w hSw; (try dsimp only at hSw); go_simp; with_reducible rfl)
        try simp only [Act.put, List.setIfInBounds_toArray, List.set_cons_zero, List.set_cons_succ]
        refine wpAnyH_take (i := 2) (v := .agg (urlC (moreU u pa pc t)).toList.toArray) rfl (by kernel_rfl) (by kernel_rfl) (by kernel_rfl) (fun _ _ _ h => h) (yieldsIf_load_mid (by rfl) 29 _ rfl g 0 rfl (urlC (moreU u pa pc t)).toList _ (fun _ h => h.range) Tryd.underlying29 rfl (urlInfoL (moreU u pa pc t))) hHeld ?_
        try simp only [Act.put, List.setIfInBounds_toArray, List.set_cons_zero, List.set_cons_succ]
        refine wpAnyH_take (i := 4) (v := .agg (urlC u).toList.toArray) rfl (by kernel_rfl) (by kernel_rfl) (by kernel_rfl) (fun _ _ _ h => h) (yieldsIf_load_mid (by rfl) 29 _ rfl W.heap.size 0 rfl (urlC u).toList _ (fun _ h => h.a.range) Tryd.underlying29 rfl (urlInfoL u)) hHeld ?_
        try simp only [Act.put, List.setIfInBounds_toArray, List.set_cons_zero, List.set_cons_succ]
        refine wpAnyH_take (i := 7) (v := ?_) rfl (by kernel_rfl) (by kernel_rfl) (by kernel_rfl) (fun _ _ _ h => h) (Or.inl ⟨by rfl, ?_⟩) hHeld ?_
        rotate_left
        · first | (intro w hSw; (try dsimp only at hSw); go_simp; done) | (intro w hSw; (try dsimp only at hSw); go_simp; with_reducible rfl)
        try simp only [Act.put, List.setIfInBounds_toArray, List.set_cons_zero, List.set_cons_succ]
        refine wpAnyH_ready (rs := [3]) (by kernel_rfl) (by simp) ?_
        refine AllReadyH.cons rfl (fun K hK => ?_) AllReadyH.nil
        go_simp
        refine (path_any (moreU u pa pc t) _ hHeld.p hl2.out hn2.out).mono ?_
        rintro e w7 ⟨y1, rfl, hy1, hb⟩
        have hTy1 := hHeld.keep hb
        clear hb hHeld
        go_wp2_with fail
        refine hK.out _ _ (hTy1) (fun hHeld => ?_)
        clear hK K
        try simp only [Act.put, List.setIfInBounds_toArray, List.set_cons_zero, List.set_cons_succ]
        refine wpAnyH_ready (rs := [5]) (by kernel_rfl) (by simp) ?_
        refine AllReadyH.cons rfl (fun K hK => ?_) AllReadyH.nil
        go_simp
        refine (path_any u _ (hu.path.below hHeld.a.below (Nat.le_refl _)) hl1.out hn1.out).mono ?_
        rintro e w7 ⟨y2, rfl, hy2, hb⟩
        have hTy2 := hHeld.keep hb
        clear hb hHeld
        have hy2z : y2.size = (pathT u.path).length := by rw [← size_toList, hy2.out, hX2.out]
        have s1 : ¬ (9223372036854775807 < y2.size + 1) := by omega
        have s2 : ¬ (9223372036854775807 < y2.size + 1 + t.size) := by omega
        obtain rfl : y1 = y2 ++ ⟨#[47]⟩ ++ t := toList_inj (by rw [hy1.out, hX.out, toList_append, toList_append, hy2.out, hX2.out, show (ByteArray.mk #[47]).toList = [47] from toList_mk _]; simp)
        replace hy2z := Lib.hid hy2z
        go_wp2_with fail
        refine hK.out _ _ (hTy2) (fun hHeld => ?_)
        clear hK K
        try simp only [Act.put, List.setIfInBounds_toArray, List.set_cons_zero, List.set_cons_succ]
        refine wpAnyH_take (i := 6) (v := ?_) rfl (by kernel_rfl) (by kernel_rfl) (by kernel_rfl) (fun _ _ _ h => h) (Or.inl ⟨by rfl, ?_⟩) hHeld ?_
        rotate_left
        · first | (intro w hSw; (try dsimp only at hSw); go_simp; done) | (intro w hSw; (try dsimp only at hSw); go_simp; with_reducible rfl)
        try simp only [Act.put, List.setIfInBounds_toArray, List.set_cons_zero, List.set_cons_succ]
        refine wpAnyH_take (i := 8) (v := ?_) rfl (by kernel_rfl) (by kernel_rfl) (by kernel_rfl) (fun _ _ _ h => h) (Or.inl ⟨by rfl, ?_⟩) hHeld ?_
        rotate_left
        · first | (intro w hSw; (try dsimp only at hSw); go_simp; done) | (intro w hSw; (try dsimp only at hSw); go_simp; with_reducible rfl)
        try simp only [Act.put, List.setIfInBounds_toArray, List.set_cons_zero, List.set_cons_succ]
        refine wpAnyH_take (i := 9) (v := ?_) rfl (by kernel_rfl) (by kernel_rfl) (by kernel_rfl) (fun _ _ _ h => h) (Or.inl ⟨by rfl, ?_⟩) hHeld ?_
        rotate_left
        · first | (intro w hSw; (try dsimp only at hSw); go_simp; done) | (intro w hSw; (try dsimp only at hSw); go_simp; with_reducible rfl)
        try simp only [Act.put, List.setIfInBounds_toArray, List.set_cons_zero, List.set_cons_succ]
        refine wpAnyH_take (i := 10) (v := ?_) rfl (by kernel_rfl) (by kernel_rfl) (by kernel_rfl) (fun _ _ _ h => h) (Or.inl ⟨by rfl, ?_⟩) hHeld ?_
        rotate_left
        · first | (intro w hSw; (try dsimp only at hSw); go_simp; done) | (intro w hSw; (try dsimp only at hSw); go_simp; with_reducible rfl)
        try simp only [Act.put, List.setIfInBounds_toArray, List.set_cons_zero, List.set_cons_succ]
        refine wpAnyH_take (i := 11) (v := ?_) rfl (by kernel_rfl) (by kernel_rfl) (by kernel_rfl) (fun _ _ _ h => h) (Or.inl ⟨by rfl, ?_⟩) hHeld ?_
        rotate_left
        · first | (intro w hSw; (try dsimp only at hSw); go_simp; done) | (intro w hSw; (try dsimp only at hSw); go_simp; with_reducible rfl)
        try simp only [Act.put, List.setIfInBounds_toArray, List.set_cons_zero, List.set_cons_succ]
        refine wpAnyH_take (i := 12) (v := .agg (urlC u).toList.toArray) rfl (by kernel_rfl) (by kernel_rfl) (by kernel_rfl) (fun _ _ _ h => h) (yieldsIf_load_mid (by rfl) 29 _ rfl W.heap.size 0 rfl (urlC u).toList _ (fun _ h => h.a.range) Tryd.underlying29 rfl (urlInfoL u)) hHeld ?_
        try simp only [Act.put, List.setIfInBounds_toArray, List.set_cons_zero, List.set_cons_succ]
        refine wpAnyH_take (i := 15) (v := ?_) rfl (by kernel_rfl) (by kernel_rfl) (by kernel_rfl) (fun _ _ _ h => h) (Or.inl ⟨by rfl, ?_⟩) hHeld ?_
        rotate_left
        · first | (intro w hSw; (try dsimp only at hSw); go_simp; done) | (intro w hSw; (try dsimp only at hSw); go_simp; with_reducible rfl)
        try simp only [Act.put, List.setIfInBounds_toArray, List.set_cons_zero, List.set_cons_succ]
        refine wpAnyH_ready (rs := [13]) (by kernel_rfl) (by simp) ?_
        refine AllReadyH.cons rfl (fun K hK => ?_) AllReadyH.nil
        go_simp
        refine (path_any u _ (hu.path.below hHeld.a.below (Nat.le_refl _)) hl1.out hn1.out).mono ?_
        rintro e w7 ⟨y3, rfl, hy3, hb⟩
        have hTy3 := hHeld.keep hb
        clear hb hHeld
        obtain rfl : y3 = y2 := toList_inj (hy3.out.trans hy2.out.symm)
        have s3 : ((y3.size : Int) == (N : Int)) = true := beq_iff_eq.2 (by have := hall.out; have := hy2z.out; omega)
        go_wp2_with fail
        refine hK.out _ _ (hTy3) (fun hHeld => ?_)
        clear hK K
        try simp only [Act.put, List.setIfInBounds_toArray, List.set_cons_zero, List.set_cons_succ]
        refine wpAnyH_take (i := 14) (v := ?_) rfl (by kernel_rfl) (by kernel_rfl) (by kernel_rfl) (fun _ _ _ h => h) (Or.inl ⟨by rfl, ?_⟩) hHeld ?_
        rotate_left
        · first | (intro w hSw; (try dsimp only at hSw); go_simp; done) | (intro w hSw; (try dsimp only at hSw); go_simp; with_reducible rfl)
        try simp only [Act.put, List.setIfInBounds_toArray, List.set_cons_zero, List.set_cons_succ]
        refine wpAnyH_take (i := 16) (v := ?_) rfl (by kernel_rfl) (by kernel_rfl) (by kernel_rfl) (fun _ _ _ h => h) (Or.inl ⟨by rfl, ?_⟩) hHeld ?_
        rotate_left
        · first | (intro w hSw; (try dsimp only at hSw); go_simp; done) | (intro w hSw; (try dsimp only at hSw); go_simp; with_reducible rfl)
        try simp only [Act.put, List.setIfInBounds_toArray, List.set_cons_zero, List.set_cons_succ]
        refine wpAnyH_take (i := 17) (v := ?_) rfl (by kernel_rfl) (by kernel_rfl) (by kernel_rfl) (fun _ _ _ h => h) (Or.inl ⟨by rfl, ?_⟩) hHeld ?_
        rotate_left
        · first | (intro w hSw; (try dsimp only at hSw); go_simp; done) | (intro w hSw; (try dsimp only at hSw); go_simp; with_reducible rfl)
        try simp only [Act.put, List.setIfInBounds_toArray, List.set_cons_zero, List.set_cons_succ]
        refine wpAnyH_ready (rs := [18]) (by kernel_rfl) (by simp) ?_
        refine AllReadyH.cons rfl (fun K hK => ?_) AllReadyH.nil
        go_simp
        refine hK.out _ _ (hTy3) (fun hHeld => ?_)
        clear hK K
        try simp only [Act.put, List.setIfInBounds_toArray, List.set_cons_zero, List.set_cons_succ]
        refine wpAnyH_done (by kernel_rfl) ?_ _
        refine NoPanic.normal ?_
        go_wp2_with fail
        go_ret
        exact ⟨rfl, hHeld.a.below⟩
  · rw [hfl] at x16
    have hX : Hid (pathX (moreU u pa pc t) = u.flat.toList) := Lib.hid (by unfold pathX moreU; rw [hfl]; rfl)
    have hX2 : Hid (pathX u = u.flat.toList) := Lib.hid (by unfold pathX; rw [hfl]; rfl)
    have c16 := (hbx 16).trans x16
    clear hbx hI x0 x1 x2 x3 x4 x5 x6 x7 x8 x9 x10 x11 x12 x13 x14 x15 x16 x17 x18 x19 x20 x21 x22
    go_upto_region 8 with (fail)
    refine wp_region_noPanic ?_
    refine wp_region_held_drew (S := fun w' => TwoIn W w' g u (moreU u pa pc t) ∧ w'.cell? ⟨W.heap.size, 17, none⟩ = some (.string u.flat)) (by kernel_rfl) (hT.drew.c17) (fun hHeld => ?_)
    refine wpAnyH_take (i := 0) (v := ?_) rfl (by kernel_rfl) (by kernel_rfl) (by kernel_rfl) (fun _ _ _ h => h) (Or.inl ⟨by rfl, ?_⟩) hHeld ?_
    rotate_left
    · first | (intro w hSw; (try dsimp only at hSw); go_simp; done) | (intro w hSw; (try dsimp only at hSw); go_simp; with_reducible rfl)
    try simp only [Act.put, List.setIfInBounds_toArray, List.set_cons_zero, List.set_cons_succ]
    refine wpAnyH_take (i := 1) (v := ?_) rfl (by kernel_rfl) (by kernel_rfl) (by kernel_rfl) (fun _ _ _ h => h) (Or.inl ⟨by rfl, ?_⟩) hHeld ?_
    rotate_left
    · first | (intro w hSw; (try dsimp only at hSw); go_simp; done) | (intro w hSw; (try dsimp only at hSw); go_simp; with_reducible rfl)
    try simp only [Act.put, List.setIfInBounds_toArray, List.set_cons_zero, List.set_cons_succ]
    refine wpAnyH_take (i := 2) (v := .agg (urlC (moreU u pa pc t)).toList.toArray) rfl (by kernel_rfl) (by kernel_rfl) (by kernel_rfl) (fun _ _ _ h => h) (yieldsIf_load_mid (by rfl) 29 _ rfl g 0 rfl (urlC (moreU u pa pc t)).toList _ (fun _ h => h.1.range) Tryd.underlying29 rfl (urlInfoL (moreU u pa pc t))) hHeld ?_
    try simp only [Act.put, List.setIfInBounds_toArray, List.set_cons_zero, List.set_cons_succ]
    refine wpAnyH_take (i := 4) (v := .agg (urlC u).toList.toArray) rfl (by kernel_rfl) (by kernel_rfl) (by kernel_rfl) (fun _ _ _ h => h) (yieldsIf_load_mid (by rfl) 29 _ rfl W.heap.size 0 rfl (urlC u).toList _ (fun _ h => h.1.a.range) Tryd.underlying29 rfl (urlInfoL u)) hHeld ?_
    try simp only [Act.put, List.setIfInBounds_toArray, List.set_cons_zero, List.set_cons_succ]
    refine wpAnyH_ready (rs := [3]) (by kernel_rfl) (by simp) ?_
    refine AllReadyH.cons rfl (fun K hK => ?_) AllReadyH.nil
    go_simp
    refine (path_any (moreU u pa pc t) _ hHeld.1.p hl2.out hn2.out).mono ?_
    rintro e w7 ⟨y1, rfl, hy1, hb⟩
    have hTy1 := hHeld.1.keep hb
    clear hb hHeld
    go_wp2_with fail
    refine hK.out _ _ (hTy1.c17) (fun hHeld => ?_)
    clear hK K
    try simp only [Act.put, List.setIfInBounds_toArray, List.set_cons_zero, List.set_cons_succ]
    refine wpAnyH_ready (rs := [5]) (by kernel_rfl) (by simp) ?_
    refine AllReadyH.cons rfl (fun K hK => ?_) AllReadyH.nil
    go_simp
    refine (path_any u _ (hu.path.below hHeld.1.a.below (Nat.le_refl _)) hl1.out hn1.out).mono ?_
    rintro e w7 ⟨y2, rfl, hy2, hb⟩
    have hTy2 := hHeld.1.keep hb
    clear hb hHeld
    obtain rfl : y2 = y1 := toList_inj (by rw [hy1.out, hy2.out, hX.out, hX2.out])
    go_wp2_with fail
    refine hK.out _ _ (hTy2.c17) (fun hHeld => ?_)
    clear hK K
    try simp only [Act.put, List.setIfInBounds_toArray, List.set_cons_zero, List.set_cons_succ]
    refine wpAnyH_take (i := 6) (v := ?_) rfl (by kernel_rfl) (by kernel_rfl) (by kernel_rfl) (fun _ _ _ h => h) (Or.inl ⟨by rfl, ?_⟩) hHeld ?_
    rotate_left
    · first | (intro w hSw; (try dsimp only at hSw); go_simp; done) | (intro w hSw; (try dsimp only at hSw); go_simp; with_reducible rfl)
    try simp only [Act.put, List.setIfInBounds_toArray, List.set_cons_zero, List.set_cons_succ]
    refine wpAnyH_take (i := 7) (v := ?_) rfl (by kernel_rfl) (by kernel_rfl) (by kernel_rfl) (fun _ _ _ h => h) (Or.inl ⟨by rfl, ?_⟩) hHeld ?_
    rotate_left
    · first | (intro w hSw; (try dsimp only at hSw); go_simp; done) | (intro w hSw; (try dsimp only at hSw); go_simp; with_reducible rfl)
    try simp only [Act.put, List.setIfInBounds_toArray, List.set_cons_zero, List.set_cons_succ]
    refine wpAnyH_take (i := 8) (v := ?_) rfl (by kernel_rfl) (by kernel_rfl) (by kernel_rfl) (fun _ _ _ h => h) (Or.inl ⟨by rfl, ?_⟩) hHeld ?_
    rotate_left
    · first | (intro w hSw; (try dsimp only at hSw); go_simp; done) | (intro w hSw; (try dsimp only at hSw); go_simp; with_reducible rfl)
    try simp only [Act.put, List.setIfInBounds_toArray, List.set_cons_zero, List.set_cons_succ]
    refine wpAnyH_take (i := 9) (v := .agg (urlC u).toList.toArray) rfl (by kernel_rfl) (by kernel_rfl) (by kernel_rfl) (fun _ _ _ h => h) (yieldsIf_load_mid (by rfl) 29 _ rfl W.heap.size 0 rfl (urlC u).toList _ (fun _ h => h.1.a.range) Tryd.underlying29 rfl (urlInfoL u)) hHeld ?_
    try simp only [Act.put, List.setIfInBounds_toArray, List.set_cons_zero, List.set_cons_succ]
    refine wpAnyH_take (i := 11) (v := ?_) rfl (by kernel_rfl) (by kernel_rfl) (by kernel_rfl) (fun _ _ _ h => h) (Or.inl ⟨by rfl, ?_⟩) hHeld ?_
    rotate_left
    · first | (intro w hSw; (try dsimp only at hSw); go_simp; done) | (intro w hSw; (try dsimp only at hSw); go_simp; with_reducible rfl)
    try simp only [Act.put, List.setIfInBounds_toArray, List.set_cons_zero, List.set_cons_succ]
    refine wpAnyH_take (i := 12) (v := ?_) rfl (by kernel_rfl) (by kernel_rfl) (by kernel_rfl) (fun _ _ _ h => h) (Or.inl ⟨by rfl, ?_⟩) hHeld ?_
    rotate_left
    · first | (intro w hSw; (try dsimp only at hSw); go_simp; done) | (intro w hSw; (try dsimp only at hSw); go_simp; with_reducible rfl)
    try simp only [Act.put, List.setIfInBounds_toArray, List.set_cons_zero, List.set_cons_succ]
    refine wpAnyH_ready (rs := [10]) (by kernel_rfl) (by simp) ?_
    refine AllReadyH.cons rfl (fun K hK => ?_) AllReadyH.nil
    go_simp
    refine (path_any u _ (hu.path.below hHeld.1.a.below (Nat.le_refl _)) hl1.out hn1.out).mono ?_
    rintro e w7 ⟨y3, rfl, hy3, hb⟩
    have hTy3 := hHeld.1.keep hb
    clear hb hHeld
    obtain rfl : y3 = u.flat := toList_inj (by rw [hy3.out, hX2.out])
    go_wp2_with fail
    refine hK.out _ _ (hTy3.c17) (fun hHeld => ?_)
    clear hK K
    try simp only [Act.put, List.setIfInBounds_toArray, List.set_cons_zero, List.set_cons_succ]
    refine wpAnyH_take (i := 13) (v := ?_) rfl (by kernel_rfl) (by kernel_rfl) (by kernel_rfl) (fun _ _ _ h => h) (Or.inl ⟨by rfl, ?_⟩) hHeld ?_
    rotate_left
    · first | (intro w hSw; (try dsimp only at hSw); go_simp; done) | (intro w hSw; (try dsimp only at hSw); go_simp; with_reducible rfl)
    try simp only [Act.put, List.setIfInBounds_toArray, List.set_cons_zero, List.set_cons_succ]
    refine wpAnyH_take (i := 14) (v := ?_) rfl (by kernel_rfl) (by kernel_rfl) (by kernel_rfl) (fun _ _ _ h => h) (Or.inl ⟨by rfl, ?_⟩) hHeld ?_
    rotate_left
    · first | (intro w hSw; (try dsimp only at hSw); go_simp; done) | (intro w hSw; (try dsimp only at hSw); go_simp; with_reducible rfl)
    try simp only [Act.put, List.setIfInBounds_toArray, List.set_cons_zero, List.set_cons_succ]
    refine wpAnyH_ready (rs := [15]) (by kernel_rfl) (by simp) ?_
    refine AllReadyH.cons rfl (fun K hK => ?_) AllReadyH.nil
    go_simp
    refine hK.out _ _ (hTy3.c17) (fun hHeld => ?_)
    clear hK K
    try simp only [Act.put, List.setIfInBounds_toArray, List.set_cons_zero, List.set_cons_succ]
    refine wpAnyH_done (by kernel_rfl) ?_ _
    refine NoPanic.normal ?_
    go_wp2_with fail
    go_ret
    exact ⟨rfl, hHeld.1.a.below⟩
end Go.Proofs.YteffhkafocfajaaDoor
