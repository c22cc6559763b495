/- The walk of SerialTail. -/
import Derived.Test.YteffhkafocfajaaDoorLaws13
import Derived.Deep.RegionHeld3
import Derived.Lib.QuoteBits
namespace Go.Proofs.YteffhkafocfajaaDoor
open Go.RowKit
set_option linter.unusedVariables false

set_option maxRecDepth 100000 in
set_option maxHeartbeats 2000000 in
theorem serialTail_walk (u : UrlS) (W : World) (hu : UrlIn W u) (ht : Tabs W) : Calls Tryd.prog 4 #[.agg (urlC u)] W (RetB W true) := by
  obtain ⟨x0, x1, x2, x3, x4, x5, x6, x7, x8, x9, x10, x11, x12, x13, x14, x15, x16, x17, x18, x19, x20, x21, x22⟩ := urlC_at u
  have hI := UIn.start W u
  go_enter Tryd.func4, Tryd.ntmps4
  go_wp2_with fail
  refine (small13_any _ (ht.next hI.below)).mono ?_
  rintro e w1 ⟨rfl, hb⟩
  replace hI := hI.keep hb
  clear hb
  go_wp2_with (refine wpList_load_row rfl 29 _ rfl W.heap.size rfl _ (urlC u) _ _ hI.blk Tryd.underlying29 rfl urlInfo ?_)
  refine (few_in u W _ hu hI).mono ?_
  rintro e w2 ⟨b, rfl, hf, hb⟩
  replace hI := hI.keep hb
  clear hb
  cases b
  · go_wp2_with fail
    go_ret
    exact ⟨rfl, hI.below⟩
  replace hf := hf rfl
  go_wp2_with (refine wpList_load_row rfl 29 _ rfl W.heap.size rfl _ (urlC u) _ _ hI.blk Tryd.underlying29 rfl urlInfo ?_)
  refine (write_in u true W _ hu hf ht hI).mono ?_
  rintro e w3 ⟨s, rfl, hs, hb⟩
  replace hI := hI.keep hb
  clear hb
  go_wp2_with (refine wpList_load_row rfl 29 _ rfl W.heap.size rfl _ (urlC u) _ _ hI.blk Tryd.underlying29 rfl urlInfo ?_)
  refine (write_in u false W _ hu hf ht hI).mono ?_
  rintro e w4 ⟨t, rfl, htx, hb⟩
  replace hI := hI.keep hb
  clear hb
  go_upto_region 9 with (first
    | (refine wpList_load_row rfl 29 _ rfl W.heap.size rfl _ (urlC u) _ _ hI.blk Tryd.underlying29 rfl urlInfo ?_)
    | (refine wpList_store_new rfl 29 _ _ rfl rfl (urlC u) _ _ _ rfl (by simp) rfl urlInfo rfl (urlC_cells _) ?_))
  have hv : UrlIn W { u with hasQuery := false } := hu.noQuery
  rw [show (urlC u).setIfInBounds 19 (.bool false) = urlC { u with hasQuery := false } from rfl]
  refine wp_gen13 (R := fun wx => UIn W wx u ∧ wx.heap[w4.heap.size]? = some (.cells (urlC { u with hasQuery := false }) 29 (0, 0))) ⟨hI.alloc _, heap_new rfl⟩ ?_
  generalize w4.heap.size = g
  rintro w5 ⟨hI, hG⟩
  go_wp2_with (refine wpList_load_row rfl 29 _ rfl g rfl _ (urlC { u with hasQuery := false }) _ _ hG Tryd.underlying29 rfl urlInfo ?_)
  refine (write_any { u with hasQuery := false } false _ (hv.path.below hI.below (Nat.le_refl _)) (fit_of hv ⟨hf.n, hf.path, hf.scheme, hf.user, hf.pass, hf.flat, hf.query, hf.frag, hf.name⟩) (ht.next hI.below)).mono ?_
  rintro e w6 ⟨x, rfl, hx, hb⟩
  replace hI := hI.keep hb
  clear hb
  go_wp2_with (refine wpList_load_row rfl 29 _ rfl W.heap.size rfl _ (urlC u) _ _ hI.blk Tryd.underlying29 rfl urlInfo ?_)
  refine (path_in u W _ hu hf hI).mono ?_
  rintro e w7 ⟨p, rfl, hp, hb⟩
  replace hI := hI.keep hb
  clear hb
  obtain ⟨m, hm⟩ : ∃ m : ByteArray, m.toList = optB u.hasFrag ([35] ++ u.frag.toList) := ⟨⟨(optB u.hasFrag ([35] ++ u.frag.toList)).toArray⟩, toList_mk _⟩
  obtain ⟨q, hq⟩ : ∃ q : ByteArray, q.toList = optB u.hasQuery ([63] ++ u.query.toList) := ⟨⟨(optB u.hasQuery ([63] ++ u.query.toList)).toArray⟩, toList_mk _⟩
  obtain ⟨y, hy⟩ : ∃ y : ByteArray, y.toList = u.scheme.toList ++ [58] ++ aheadX u := ⟨⟨(u.scheme.toList ++ [58] ++ aheadX u).toArray⟩, toList_mk _⟩
  obtain rfl : s = t ++ m := toList_inj (by rw [toList_append, hs.out, htx.out, hm]; simp [writeX, optB])
  obtain rfl : t = x ++ q := toList_inj (by rw [toList_append, hx.out, htx.out, hq]; simp [writeX, optB, aheadX, dotB, portL, whoL, pathX])
  obtain rfl : x = y ++ p := toList_inj (by rw [toList_append, hx.out, hp.out, hy]; simp [writeX, optB, aheadX, dotB, portL, whoL, pathX])
  have hys : y.size = u.scheme.size + 1 + (aheadX u).length := by rw [← size_toList, hy]; simp [size_toList]; omega
  have l1 := hf.scheme
  have l2 := aheadX_len u (fit_of hu hf)
  have e1 : (y ++ p).extract y.size (y ++ p).size = p := toList_inj (by rw [toList_extract, ← size_toList (y ++ p), List.take_length, toList_append, ← size_toList y]; exact List.drop_left)
  have e2 : (y ++ p).extract 0 (u.scheme.size + 1) = u.scheme ++ ⟨#[58]⟩ := toList_inj (by rw [toList_extract, List.drop_zero, toList_append, hy, toList_append, show (ByteArray.mk #[58]).toList = [58] from toList_mk _, show u.scheme.size + 1 = (u.scheme.toList ++ [58]).length by simp [size_toList], List.append_assoc, List.take_left])
  have hps : p.size ≤ 2050 := by
    rw [← size_toList, hp.out]; unfold pathX; split
    · rw [size_toList]; have := hf.flat; omega
    · exact hf.path
  have lf := hf.frag
  have lq := hf.query
  have hms : m.size ≤ 1001 := by rw [← size_toList, hm]; unfold optB; split <;> simp [size_toList] <;> omega
  have hqs : q.size ≤ 1001 := by rw [← size_toList, hq]; unfold optB; split <;> simp [size_toList] <;> omega
  clear hs htx hx hp hy
  have hbx := hI.box
  go_upto_if 30 with (fail)
  go_cut [10] (fun s10 wx => s10 = .string m ∧ UIn W wx u)
  case first =>
    rcases bool_or u.hasFrag with hfb | hfb
    · rw [hfb]
      have hm2 : m = ⟨#[]⟩ := toList_inj (by rw [hm, hfb]; exact (toList_mk []).symm)
      go_wp2_with fail
      go_meet
      exact ⟨by rw [hm2], hI⟩
    · rw [hfb]
      have hm2 : m = ⟨#[35]⟩ ++ u.frag := toList_inj (by rw [hm, hfb, toList_append]; rw [show (ByteArray.mk #[35]).toList = [35] from toList_mk _]; rfl)
      go_wp2_with fail
      go_meet
      exact ⟨by rw [hm2], hI⟩
  case rest =>
    clear hI hbx
    obtain ⟨rfl, hI⟩ := hcut
    have hbx := hI.box
    go_upto_if 35 with (fail)
    go_cut [11] (fun s11 wx => s11 = .string q ∧ UIn W wx u)
    case first =>
      rcases bool_or u.hasQuery with hfb | hfb
      · rw [hfb]
        have hq2 : q = ⟨#[]⟩ := toList_inj (by rw [hq, hfb]; exact (toList_mk []).symm)
        go_wp2_with fail
        go_meet
        exact ⟨by rw [hq2], hI⟩
      · rw [hfb]
        have hq2 : q = ⟨#[63]⟩ ++ u.query := toList_inj (by rw [hq, hfb, toList_append]; rw [show (ByteArray.mk #[63]).toList = [63] from toList_mk _]; rfl)
        go_wp2_with fail
        go_meet
        exact ⟨by rw [hq2], hI⟩
    case rest =>
      clear hI hbx
      obtain ⟨rfl, hI⟩ := hcut
      have hbx := hI.box
      have n0 : (y ++ p).size = y.size + p.size := ByteArray.size_append
      have n1 : ((y ++ p).size : Int) - (p.size : Int) = (y.size : Int) := by omega
      have n2 : (u.scheme.size : Int) + 1 ≤ (y.size : Int) := by omega
      have n3 : (y.size : Int) ≤ ((y ++ p).size : Int) := by omega
      have n4 : (y ++ p).size ≤ 1099511627776 := by omega
      replace hm := Lib.hid hm
      replace hq := Lib.hid hq
      have n5 : y.size ≤ 1099511627776 := by omega
      rw [n0] at e1
      have nw : IntKind.i64.wrap ((u.scheme.size : Int) + 1) = (u.scheme.size : Int) + 1 := by
        have hh := Lib.wrap_i64_small (u.scheme.size + 1) (by omega)
        rwa [Int.natCast_add] at hh
      have n6 : decide ((u.scheme.size : Int) + 1 ≤ (y.size : Int)) = true := decide_eq_true n2
      have f1 : ¬ (9223372036854775807 < y.size + p.size + q.size + m.size) := by omega
      have f2 : ¬ (9223372036854775807 < y.size + p.size + q.size) := by omega
      have f3 : ¬ (9223372036854775807 < u.scheme.size + 1) := by omega
      have f4 : (0 : Int) ≤ (y.size : Int) := by omega
      have f5 : (0 : Int) ≤ (p.size : Int) := by omega
      have f6 : (y.size : Int) ≤ (y.size : Int) + (p.size : Int) := by omega
      have f7 : (0 : Int) ≤ (u.scheme.size : Int) + 1 := by omega
      have f8 : (u.scheme.size : Int) + 1 ≤ (y.size : Int) + (p.size : Int) := by omega
      clear hys l2 n4 n0 hu hf ht hG hv hm hq
      go_upto_region 18 with fail
      have hc0 := (hI.box 0).trans x0
      clear hbx x0 x1 x2 x3 x4 x5 x6 x7 x8 x9 x10 x11 x12 x13 x14 x15 x16 x17 x18 x19 x20 x21 x22
      go_region_held3 (fun w' => w'.cell? ⟨W.heap.size, 0, none⟩ = some (.string u.scheme)) (first | go_keep | (simp [go_sem])) (fail)
      go_wp2_with fail
      go_ret
      exact ⟨rfl, hI.below.drew⟩
end Go.Proofs.YteffhkafocfajaaDoor
