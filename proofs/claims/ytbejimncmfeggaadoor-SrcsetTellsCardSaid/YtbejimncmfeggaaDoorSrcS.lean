/- The contracts of the reference's positive and Describe. -/
import Derived.Test.YtbejimncmfeggaaDoorSrcE
import Derived.Test.YtbejimncmfeggaaDoorAppendS
namespace Go.Proofs.YtbejimncmfeggaaDoor
open Go.RowKit
set_option linter.unusedVariables false
set_option linter.unusedSimpArgs false

set_option maxRecDepth 100000 in
theorem positive_any (s : ByteArray) (w : World) (hs : s.size ≤ 1000000) :
    Calls Tryd.prog 25 #[.string s] w fun e w' => e = .returned (.tuple #[.int .i64 (numN s.toList : Int), .bool ((digs1 10 s.toList).isSome && decide (1 ≤ numN s.toList))]) ∧ w = w' := by
  have hw := Lib.hid (fun w => wholeR_any s w (by omega))
  unfold RetN at hw
  rw [show min ((digs1 10 s.toList).getD 0) maxI = numN s.toList from rfl] at hw
  obtain ⟨b, hb⟩ : ∃ b, (digs1 10 s.toList).isSome = b := ⟨_, rfl⟩
  generalize numN s.toList = n at hw ⊢
  rw [hb] at hw ⊢
  replace hb := Lib.hid hb
  have hway : b = false ∨ (b = true ∧ decide (0 < n) = true ∧ Hid (decide (1 ≤ n) = true)) ∨ (b = true ∧ decide (0 < n) = false ∧ Hid (decide (1 ≤ n) = false)) := by
    cases b
    · exact .inl rfl
    · by_cases h : 1 ≤ n
      · exact .inr (.inl ⟨rfl, decide_eq_true (by omega), Lib.hid (decide_eq_true h)⟩)
      · exact .inr (.inr ⟨rfl, decide_eq_false (by omega), Lib.hid (decide_eq_false h)⟩)
  generalize decide (1 ≤ n) = d at hway ⊢
  go_enter Tryd.func25, Tryd.ntmps25
  rcases hway with rfl | ⟨rfl, hn, hd⟩ | ⟨rfl, hn, hd⟩
  · go_wp2_with fail
    refine (hw.out _).mono ?_
    rintro e w' ⟨rfl, rfl⟩
    go_wp2_with fail
    go_ret2
    exact ⟨rfl, rfl⟩
  · obtain rfl := hd.out
    go_wp2_with fail
    refine (hw.out _).mono ?_
    rintro e w' ⟨rfl, rfl⟩
    go_wp2_with fail
    go_ret2
    exact ⟨rfl, rfl⟩
  · obtain rfl := hd.out
    go_wp2_with fail
    refine (hw.out _).mono ?_
    rintro e w' ⟨rfl, rfl⟩
    go_wp2_with fail
    go_ret2
    exact ⟨rfl, rfl⟩
theorem descr_ret2 {R : Ending → World → Prop} {a : Act} {w : World} {g : Nat} {u : ByteArray} {wv : Value} {st : DSt} {b : Bool} (h2 : a.tmps.getD 2 undef = .pointer (some ⟨g, 0, none⟩)) (h3 : a.tmps.getD 3 undef = .bool b) (hd : a.defers = [])
    (hg : w.heap[g]? = some (.cells (candC u wv st) 27 (0, 0))) (hR : R (.returned (.tuple #[.agg (candC u wv st), .bool b])) w) :
    bodyPost Tryd.prog Tryd.f12 R .ret a w := by
  refine bodyPost_ret (v := .tuple #[.agg (candC u wv st), .bool b]) ?_ hd hR
  rw [results_cell_tmp rfl, h2, h3]
  simp [asAddr, Result.andThen, run_loadVar_row (P := Tryd.prog) w g _ 27 _ _ _ hg Tryd.underlying27 rfl (candInfo u wv st)]
set_option maxRecDepth 100000 in
set_option maxHeartbeats 4000000 in
theorem refDescribe_any (pa : Option Addr) (n c : Nat) (l : List ByteArray) (w : World) (hr : ReadS w (.slice pa n c) l) (hnl : l.length = n) (hnil : pa = none → c = 0) (hz : ∀ x ∈ l, x.size ≤ 1000000) (hl : l.length ≤ 1000000) :
    Calls Tryd.prog 12 #[.slice pa n c] w (RetDescr l w) := by
  subst hnl
  have hrd := hr
  obtain ⟨a1, c1, hv, hc⟩ := hr
  obtain ⟨rfl, -, rfl⟩ : pa = a1 ∧ l.length = l.length ∧ c = c1 := by simpa using hv
  clear hv
  replace hnil := Lib.hid hnil
  replace hc := Lib.hid hc
  go_enter Tryd.func12, Tryd.ntmps12
  go_wp2_with fail
  go_loopw [5] (fun i wr => ∃ (k : Nat) (st : DSt), i = .int .i64 k ∧ k ≤ l.length ∧ Hid (takeAll d0 (l.map (·.toList)) = takeAll st ((l.drop k).map (·.toList))) ∧
    wr.heap[w.heap.size]? = some (.cells (candC e0 nilV d0) 27 (0, 0)) ∧ wr.heap[w.heap.size + 1]? = some (.cells (candC e0 nilV st) 27 (0, 0)) ∧ Below w.heap.size w wr) (fun i _ => l.length - (intOf i).toNat)
  case atStart => exact ⟨0, d0, rfl, Nat.zero_le _, rfl, (heap_alloc_old _ _ (by simp)).trans (heap_alloc_new _ _), two_snd _ _ _, ((Below.refl _ _).alloc (Nat.le_refl _) _).alloc (by simp) _⟩
  case round =>
    obtain ⟨k, st, rfl, hk, hrun, hrb, hcb, hbel⟩ := hrel
    have lc : w.heap.size + 1 < wr.heap.size := (Array.getElem?_eq_some_iff.1 hcb).1
    by_cases hlt : k < l.length
    · have z1 : (k : Int) < (l.length : Int) := by omega
      obtain ⟨g1, o1, rfl, hcell1⟩ := hc.out (by omega)
      have x1 := hcell1 k hlt
      have b1 := World.block_lt_of_cell? w _ x1
      have y1 : wr.cell? ⟨g1, o1 + k, none⟩ = some (.string l[k]) := (hbel.cell (by simpa using b1)).trans x1
      have hzk : l[k].size ≤ 1000000 := hz _ (List.getElem_mem ..)
      have hst := Lib.hid (takeAll_cons st l k hlt)
      obtain ⟨t, ht⟩ : ∃ t, l[k] = t := ⟨_, rfl⟩
      rw [ht] at y1 hzk hst
      replace ht := Lib.hid ht
      clear hcell1 x1 b1
      replace hrb := Lib.hid hrb
      by_cases h0 : 0 < t.size
      rotate_left
      · have e : t.toList = [] := (toList_empty_iff t).2 (by omega)
        have hno : Hid (descL (l.map (·.toList)) = none) := Lib.hid (by unfold descL; rw [hrun.out, hst.out, e]; rfl)
        have hem : t.toList.isEmpty = true := by rw [e]; rfl
        have heq : (t.toList == []) = true := by rw [e]; rfl
        replace e := Lib.hid e
        replace hcb := Lib.hid hcb
        go_wp2_with (refine wpList_store_rowTo rfl 27 _ _ rfl rfl w.heap.size (candC e0 nilV d0) rfl rfl 27 (candC e0 nilV d0) hrb.out (candInfo _ _ _) rfl (candCells _ _ _ _ _) ?_)
        refine descr_ret2 rfl rfl rfl (setRow_heap _ _ _ _ _ _ hrb.out) (.inl ⟨hno, rfl, below_setRow hbel (Nat.le_refl _) _⟩)
      have hne : (!t.toList.isEmpty) = true := by rw [extract1 t h0]; rfl
      have hem : t.toList.isEmpty = false := by rw [extract1 t h0]; rfl
      obtain ⟨-, hl1, hl2⟩ := last_split t h0
      obtain ⟨H, hH⟩ : ∃ H, t.extract 0 (t.size - 1) = H := ⟨_, rfl⟩
      rw [hH] at hl2
      have hHz : H.size ≤ 1000000 := by rw [← hH, ByteArray.size_extract]; omega
      obtain ⟨hw, sw, hh, sh, hd, sd⟩ := st
      have hT : Hid (takeS ⟨hw, sw, hh, sh, hd, sd⟩ t.toList = takeC ⟨hw, sw, hh, sh, hd, sd⟩ H.toList t[t.size - 1]) := Lib.hid (by unfold takeS; rw [hl1, hl2])
      clear hl1 hl2
      have h1I : (1 : Int) ≤ (t.size : Int) := by omega
      obtain ⟨c, hc2⟩ : ∃ c, t[t.size - 1] = c := ⟨_, rfl⟩
      rw [hc2] at hT
      have x2 := cell_of_row _ _ 2 _ _ _ hcb
      have x4 := cell_of_row _ _ 4 _ _ _ hcb
      have x6 := cell_of_row _ _ 6 _ _ _ hcb
      simp only [candC, List.getElem?_toArray, List.getElem?_cons_zero, List.getElem?_cons_succ] at x2 x4 x6
      have f2 := frozen_of_row _ _ 2 _ _ hcb
      have f3 := frozen_of_row _ _ 3 _ _ hcb
      have f4 := frozen_of_row _ _ 4 _ _ hcb
      have f5 := frozen_of_row _ _ 5 _ _ hcb
      have f6 := frozen_of_row _ _ 6 _ _ hcb
      have f7 := frozen_of_row _ _ 7 _ _ hcb
      have x3 := cell_of_row _ _ 3 _ _ _ hcb
      have x5 := cell_of_row _ _ 5 _ _ _ hcb
      have x7 := cell_of_row _ _ 7 _ _ _ hcb
      simp only [candC, List.getElem?_toArray, List.getElem?_cons_zero, List.getElem?_cons_succ] at x3 x5 x7
      replace hcb := Lib.hid hcb
      replace hc2 := Lib.hid hc2
      by_cases c1 : c = 119
      · have q1 : ((c.toNat : Int) == 119) = true := by rw [c1]; rfl
        have hV : Hid (takeS ⟨hw, sw, hh, sh, hd, sd⟩ t.toList = if okW ⟨hw, sw, hh, sh, hd, sd⟩ H.toList = true then some ⟨true, (numN H.toList : Int), hh, sh, hd, sd⟩ else none) := Lib.hid (by rw [hT.out]; unfold takeC; rw [if_pos c1])
        clear hT
        replace c1 := Lib.hid c1
        obtain ⟨p, z, hz2, hcall, hway⟩ : ∃ (p : Bool) (z : Int), Hid ((numN H.toList : Int) = z) ∧ Hid (∀ w, Calls Tryd.prog 25 #[.string H] w fun e w' => e = .returned (.tuple #[.int .i64 z, .bool p]) ∧ w = w') ∧
            ((hw = true ∧ Hid (okW ⟨hw, sw, hh, sh, hd, sd⟩ H.toList = false)) ∨ (hw = false ∧ hd = true ∧ Hid (okW ⟨hw, sw, hh, sh, hd, sd⟩ H.toList = false)) ∨ (hw = false ∧ hd = false ∧ p = false ∧ Hid (okW ⟨hw, sw, hh, sh, hd, sd⟩ H.toList = false)) ∨
             (hw = false ∧ hd = false ∧ p = true ∧ Hid (okW ⟨hw, sw, hh, sh, hd, sd⟩ H.toList = true))) := by
          refine ⟨_, _, Lib.hid rfl, Lib.hid (fun w => positive_any H w hHz), ?_⟩
          unfold okW
          cases hw
          · cases hd
            · cases ((digs1 10 H.toList).isSome && decide (1 ≤ numN H.toList))
              · exact .inr (.inr (.inl ⟨rfl, rfl, rfl, Lib.hid rfl⟩))
              · exact .inr (.inr (.inr ⟨rfl, rfl, rfl, Lib.hid rfl⟩))
            · exact .inr (.inl ⟨rfl, rfl, Lib.hid (by simp)⟩)
          · exact .inl ⟨rfl, Lib.hid (by simp)⟩
        rw [hz2.out] at hV
        rw [← hc2.out] at q1
        have hrow : Hid (((wr.setCell ⟨w.heap.size + 1, 2, none⟩ (.bool true)).setCell ⟨w.heap.size + 1, 3, none⟩ (.int .i64 z)).heap[w.heap.size]? = some (.cells (candC e0 nilV d0) 27 (0, 0))) := Lib.hid ((set_off (by omega)).trans ((set_off (by omega)).trans hrb.out))
        have hbox : Hid (((wr.setCell ⟨w.heap.size + 1, 2, none⟩ (.bool true)).setCell ⟨w.heap.size + 1, 3, none⟩ (.int .i64 z)).heap[w.heap.size + 1]? = some (.cells (candC e0 nilV ⟨true, z, hh, sh, hd, sd⟩) 27 (0, 0))) := Lib.hid (by rw [set_blockA (set_blockA hcb.out)]; rfl)
        have hbX : Below w.heap.size w ((wr.setCell ⟨w.heap.size + 1, 2, none⟩ (.bool true)).setCell ⟨w.heap.size + 1, 3, none⟩ (.int .i64 z)) := below_set (below_set hbel (by omega)) (by omega)
        rcases hway with ⟨rfl, hk2⟩ | ⟨rfl, rfl, hk2⟩ | ⟨rfl, rfl, rfl, hk2⟩ | ⟨rfl, rfl, rfl, hk2⟩
        · have hno : Hid (descL (l.map (·.toList)) = none) := Lib.hid (by unfold descL; rw [hrun.out, hst.out, hV.out, if_neg (by rw [hk2.out]; decide)]; rfl)
          clear hk2
          go_wp2_with fail
          refine (hcall.out _).mono ?_
          rintro e w' ⟨rfl, rfl⟩
          go_wp2_with (refine wpList_store_rowTo rfl 27 _ _ rfl rfl w.heap.size (candC e0 nilV d0) rfl rfl 27 (candC e0 nilV d0) hrow.out (candInfo _ _ _) rfl (candCells _ _ _ _ _) ?_)
          refine descr_ret2 rfl rfl rfl (setRow_heap _ _ _ _ _ _ hrow.out) (.inl ⟨hno, rfl, below_setRow hbX (Nat.le_refl _) _⟩)
        · have hno : Hid (descL (l.map (·.toList)) = none) := Lib.hid (by unfold descL; rw [hrun.out, hst.out, hV.out, if_neg (by rw [hk2.out]; decide)]; rfl)
          clear hk2
          go_wp2_with fail
          refine (hcall.out _).mono ?_
          rintro e w' ⟨rfl, rfl⟩
          go_wp2_with (refine wpList_store_rowTo rfl 27 _ _ rfl rfl w.heap.size (candC e0 nilV d0) rfl rfl 27 (candC e0 nilV d0) hrow.out (candInfo _ _ _) rfl (candCells _ _ _ _ _) ?_)
          refine descr_ret2 rfl rfl rfl (setRow_heap _ _ _ _ _ _ hrow.out) (.inl ⟨hno, rfl, below_setRow hbX (Nat.le_refl _) _⟩)
        · have hno : Hid (descL (l.map (·.toList)) = none) := Lib.hid (by unfold descL; rw [hrun.out, hst.out, hV.out, if_neg (by rw [hk2.out]; decide)]; rfl)
          clear hk2
          go_wp2_with fail
          refine (hcall.out _).mono ?_
          rintro e w' ⟨rfl, rfl⟩
          go_wp2_with (refine wpList_store_rowTo rfl 27 _ _ rfl rfl w.heap.size (candC e0 nilV d0) rfl rfl 27 (candC e0 nilV d0) hrow.out (candInfo _ _ _) rfl (candCells _ _ _ _ _) ?_)
          refine descr_ret2 rfl rfl rfl (setRow_heap _ _ _ _ _ _ hrow.out) (.inl ⟨hno, rfl, below_setRow hbX (Nat.le_refl _) _⟩)
        · have hnew : Hid (takeAll d0 (l.map (·.toList)) = takeAll ⟨true, z, hh, sh, false, sd⟩ ((l.drop (k + 1)).map (·.toList))) := Lib.hid (by rw [hrun.out, hst.out, hV.out, if_pos hk2.out]; rfl)
          clear hk2
          go_wp2_with fail
          refine (hcall.out _).mono ?_
          rintro e w' ⟨rfl, rfl⟩
          go_wp2_with fail
          go_roundw
          case rel => exact ⟨k + 1, ⟨true, z, hh, sh, false, sd⟩, by go_num, by omega, hnew, hrow.out, hbox.out, hbX⟩
          case measure => simp [intOf]; omega
      have q1 : ((c.toNat : Int) == 119) = false := u8c.2 c1
      by_cases c2 : c = 104
      · have q2 : ((c.toNat : Int) == 104) = true := by rw [c2]; rfl
        have hV : Hid (takeS ⟨hw, sw, hh, sh, hd, sd⟩ t.toList = if okH ⟨hw, sw, hh, sh, hd, sd⟩ H.toList = true then some ⟨hw, sw, true, (numN H.toList : Int), hd, sd⟩ else none) := Lib.hid (by rw [hT.out]; unfold takeC; rw [if_neg c1]; rw [if_pos c2])
        clear hT
        replace c2 := Lib.hid c2
        obtain ⟨p, z, hz2, hcall, hway⟩ : ∃ (p : Bool) (z : Int), Hid ((numN H.toList : Int) = z) ∧ Hid (∀ w, Calls Tryd.prog 25 #[.string H] w fun e w' => e = .returned (.tuple #[.int .i64 z, .bool p]) ∧ w = w') ∧
            ((hh = true ∧ Hid (okH ⟨hw, sw, hh, sh, hd, sd⟩ H.toList = false)) ∨ (hh = false ∧ hd = true ∧ Hid (okH ⟨hw, sw, hh, sh, hd, sd⟩ H.toList = false)) ∨ (hh = false ∧ hd = false ∧ p = false ∧ Hid (okH ⟨hw, sw, hh, sh, hd, sd⟩ H.toList = false)) ∨
             (hh = false ∧ hd = false ∧ p = true ∧ Hid (okH ⟨hw, sw, hh, sh, hd, sd⟩ H.toList = true))) := by
          refine ⟨_, _, Lib.hid rfl, Lib.hid (fun w => positive_any H w hHz), ?_⟩
          unfold okH
          cases hh
          · cases hd
            · cases ((digs1 10 H.toList).isSome && decide (1 ≤ numN H.toList))
              · exact .inr (.inr (.inl ⟨rfl, rfl, rfl, Lib.hid rfl⟩))
              · exact .inr (.inr (.inr ⟨rfl, rfl, rfl, Lib.hid rfl⟩))
            · exact .inr (.inl ⟨rfl, rfl, Lib.hid (by simp)⟩)
          · exact .inl ⟨rfl, Lib.hid (by simp)⟩
        rw [hz2.out] at hV
        rw [← hc2.out] at q1 q2
        have hrow : Hid (((wr.setCell ⟨w.heap.size + 1, 4, none⟩ (.bool true)).setCell ⟨w.heap.size + 1, 5, none⟩ (.int .i64 z)).heap[w.heap.size]? = some (.cells (candC e0 nilV d0) 27 (0, 0))) := Lib.hid ((set_off (by omega)).trans ((set_off (by omega)).trans hrb.out))
        have hbox : Hid (((wr.setCell ⟨w.heap.size + 1, 4, none⟩ (.bool true)).setCell ⟨w.heap.size + 1, 5, none⟩ (.int .i64 z)).heap[w.heap.size + 1]? = some (.cells (candC e0 nilV ⟨hw, sw, true, z, hd, sd⟩) 27 (0, 0))) := Lib.hid (by rw [set_blockA (set_blockA hcb.out)]; rfl)
        have hbX : Below w.heap.size w ((wr.setCell ⟨w.heap.size + 1, 4, none⟩ (.bool true)).setCell ⟨w.heap.size + 1, 5, none⟩ (.int .i64 z)) := below_set (below_set hbel (by omega)) (by omega)
        rcases hway with ⟨rfl, hk2⟩ | ⟨rfl, rfl, hk2⟩ | ⟨rfl, rfl, rfl, hk2⟩ | ⟨rfl, rfl, rfl, hk2⟩
        · have hno : Hid (descL (l.map (·.toList)) = none) := Lib.hid (by unfold descL; rw [hrun.out, hst.out, hV.out, if_neg (by rw [hk2.out]; decide)]; rfl)
          clear hk2
          go_wp2_with fail
          refine (hcall.out _).mono ?_
          rintro e w' ⟨rfl, rfl⟩
          go_wp2_with (refine wpList_store_rowTo rfl 27 _ _ rfl rfl w.heap.size (candC e0 nilV d0) rfl rfl 27 (candC e0 nilV d0) hrow.out (candInfo _ _ _) rfl (candCells _ _ _ _ _) ?_)
          refine descr_ret2 rfl rfl rfl (setRow_heap _ _ _ _ _ _ hrow.out) (.inl ⟨hno, rfl, below_setRow hbX (Nat.le_refl _) _⟩)
        · have hno : Hid (descL (l.map (·.toList)) = none) := Lib.hid (by unfold descL; rw [hrun.out, hst.out, hV.out, if_neg (by rw [hk2.out]; decide)]; rfl)
          clear hk2
          go_wp2_with fail
          refine (hcall.out _).mono ?_
          rintro e w' ⟨rfl, rfl⟩
          go_wp2_with (refine wpList_store_rowTo rfl 27 _ _ rfl rfl w.heap.size (candC e0 nilV d0) rfl rfl 27 (candC e0 nilV d0) hrow.out (candInfo _ _ _) rfl (candCells _ _ _ _ _) ?_)
          refine descr_ret2 rfl rfl rfl (setRow_heap _ _ _ _ _ _ hrow.out) (.inl ⟨hno, rfl, below_setRow hbX (Nat.le_refl _) _⟩)
        · have hno : Hid (descL (l.map (·.toList)) = none) := Lib.hid (by unfold descL; rw [hrun.out, hst.out, hV.out, if_neg (by rw [hk2.out]; decide)]; rfl)
          clear hk2
          go_wp2_with fail
          refine (hcall.out _).mono ?_
          rintro e w' ⟨rfl, rfl⟩
          go_wp2_with (refine wpList_store_rowTo rfl 27 _ _ rfl rfl w.heap.size (candC e0 nilV d0) rfl rfl 27 (candC e0 nilV d0) hrow.out (candInfo _ _ _) rfl (candCells _ _ _ _ _) ?_)
          refine descr_ret2 rfl rfl rfl (setRow_heap _ _ _ _ _ _ hrow.out) (.inl ⟨hno, rfl, below_setRow hbX (Nat.le_refl _) _⟩)
        · have hnew : Hid (takeAll d0 (l.map (·.toList)) = takeAll ⟨hw, sw, true, z, false, sd⟩ ((l.drop (k + 1)).map (·.toList))) := Lib.hid (by rw [hrun.out, hst.out, hV.out, if_pos hk2.out]; rfl)
          clear hk2
          go_wp2_with fail
          refine (hcall.out _).mono ?_
          rintro e w' ⟨rfl, rfl⟩
          go_wp2_with fail
          go_roundw
          case rel => exact ⟨k + 1, ⟨hw, sw, true, z, false, sd⟩, by go_num, by omega, hnew, hrow.out, hbox.out, hbX⟩
          case measure => simp [intOf]; omega
      have q2 : ((c.toNat : Int) == 104) = false := u8c.2 c2
      by_cases c3 : c = 120
      · have q3 : ((c.toNat : Int) == 120) = true := by rw [c3]; rfl
        have hV : Hid (takeS ⟨hw, sw, hh, sh, hd, sd⟩ t.toList = if okX ⟨hw, sw, hh, sh, hd, sd⟩ H.toList = true then some ⟨hw, sw, hh, sh, true, numF H.toList⟩ else none) := Lib.hid (by rw [hT.out]; unfold takeC; rw [if_neg c1, if_neg c2, if_pos c3])
        clear hT
        replace c1 := Lib.hid c1
        replace c2 := Lib.hid c2
        replace c3 := Lib.hid c3
        have hcall := Lib.hid (fun w => refFloat_any H w hHz)
        obtain ⟨p, hp⟩ : ∃ b, (floatP H.toList).isSome = b := ⟨_, rfl⟩
        obtain ⟨n, hn⟩ : ∃ n, numF H.toList = n := ⟨_, rfl⟩
        unfold RetG at hcall
        rw [show ((floatP H.toList).map floatW).getD 0 = n from hn, hp] at hcall
        rw [hn] at hV
        rw [← hc2.out] at q1 q2 q3
        obtain ⟨r, hr⟩ : ∃ r, FloatKind.f64.format.order n 0 = r := ⟨_, rfl⟩
        have hway : (hw = true ∧ Hid (okX ⟨hw, sw, hh, sh, hd, sd⟩ H.toList = false)) ∨ (hw = false ∧ hh = true ∧ Hid (okX ⟨hw, sw, hh, sh, hd, sd⟩ H.toList = false)) ∨ (hw = false ∧ hh = false ∧ hd = true ∧ Hid (okX ⟨hw, sw, hh, sh, hd, sd⟩ H.toList = false)) ∨
            (hw = false ∧ hh = false ∧ hd = false ∧ p = false ∧ Hid (okX ⟨hw, sw, hh, sh, hd, sd⟩ H.toList = false)) ∨
            (hw = false ∧ hh = false ∧ hd = false ∧ p = true ∧ (((r = none ∨ r = some .lt) ∧ Hid (okX ⟨hw, sw, hh, sh, hd, sd⟩ H.toList = false)) ∨ ((r = some .gt ∨ r = some .eq) ∧ Hid (okX ⟨hw, sw, hh, sh, hd, sd⟩ H.toList = true)))) := by
          unfold okX geZ
          rw [hp, hn, hr]
          cases hw
          · cases hh
            · cases hd
              · cases p
                · exact .inr (.inr (.inr (.inl ⟨rfl, rfl, rfl, rfl, Lib.hid rfl⟩)))
                · refine .inr (.inr (.inr (.inr ⟨rfl, rfl, rfl, rfl, ?_⟩)))
                  cases r with
                  | none => exact .inl ⟨.inl rfl, Lib.hid rfl⟩
                  | some r =>
                    cases r with
                    | lt => exact .inl ⟨.inr rfl, Lib.hid rfl⟩
                    | gt => exact .inr ⟨.inl rfl, Lib.hid rfl⟩
                    | eq => exact .inr ⟨.inr rfl, Lib.hid rfl⟩
              · exact .inr (.inr (.inl ⟨rfl, rfl, rfl, Lib.hid (by simp)⟩))
            · exact .inr (.inl ⟨rfl, rfl, Lib.hid (by simp)⟩)
          · exact .inl ⟨rfl, Lib.hid (by simp)⟩
        replace hp := Lib.hid hp
        replace hn := Lib.hid hn
        have y7 : (wr.setCell ⟨w.heap.size + 1, 6, none⟩ (.bool true)).cell? ⟨w.heap.size + 1, 7, none⟩ = some (.float .f64 sd) := (cell_of_row _ _ 7 _ _ _ (set_blockA hcb.out)).trans rfl
        have g7 : (wr.setCell ⟨w.heap.size + 1, 6, none⟩ (.bool true)).frozen? ⟨w.heap.size + 1, 7, none⟩ = false := frozen_of_row _ _ 7 _ _ (set_blockA hcb.out)
        have zst : (store ⟨w.heap.size + 1, 7, none⟩ (.float .f64 n)).run Tryd.prog (wr.setCell ⟨w.heap.size + 1, 6, none⟩ (.bool true)) = .ok () ((wr.setCell ⟨w.heap.size + 1, 6, none⟩ (.bool true)).setCell ⟨w.heap.size + 1, 7, none⟩ (.float .f64 n)) := by
          rw [run_store _ _ _ _ _ rfl, y7]
          dsimp only
          rw [g7]; rfl
        clear y7 g7
        have hrow : Hid (((wr.setCell ⟨w.heap.size + 1, 6, none⟩ (.bool true)).setCell ⟨w.heap.size + 1, 7, none⟩ (.float .f64 n)).heap[w.heap.size]? = some (.cells (candC e0 nilV d0) 27 (0, 0))) := Lib.hid ((set_off (by omega)).trans ((set_off (by omega)).trans hrb.out))
        have hbox : Hid (((wr.setCell ⟨w.heap.size + 1, 6, none⟩ (.bool true)).setCell ⟨w.heap.size + 1, 7, none⟩ (.float .f64 n)).heap[w.heap.size + 1]? = some (.cells (candC e0 nilV ⟨hw, sw, hh, sh, true, n⟩) 27 (0, 0))) := Lib.hid (by rw [set_blockA (set_blockA hcb.out)]; rfl)
        have hbX : Below w.heap.size w ((wr.setCell ⟨w.heap.size + 1, 6, none⟩ (.bool true)).setCell ⟨w.heap.size + 1, 7, none⟩ (.float .f64 n)) := below_set (below_set hbel (by omega)) (by omega)
        rcases hway with ⟨rfl, hk2⟩ | ⟨rfl, rfl, hk2⟩ | ⟨rfl, rfl, rfl, hk2⟩ | ⟨rfl, rfl, rfl, rfl, hk2⟩ | ⟨rfl, rfl, rfl, rfl, ⟨hr0 | hr0, hk2⟩ | ⟨hr0 | hr0, hk2⟩⟩
        · replace hr := Lib.hid hr
          have hno : Hid (descL (l.map (·.toList)) = none) := Lib.hid (by unfold descL; rw [hrun.out, hst.out, hV.out, if_neg (by rw [hk2.out]; decide)]; rfl)
          clear hk2
          go_wp2_with fail
          refine (hcall.out _).mono ?_
          rintro e w' ⟨rfl, rfl⟩
          go_wp2_with (refine wpList_store_rowTo rfl 27 _ _ rfl rfl w.heap.size (candC e0 nilV d0) rfl rfl 27 (candC e0 nilV d0) hrow.out (candInfo _ _ _) rfl (candCells _ _ _ _ _) ?_)
          refine descr_ret2 rfl rfl rfl (setRow_heap _ _ _ _ _ _ hrow.out) (.inl ⟨hno, rfl, below_setRow hbX (Nat.le_refl _) _⟩)
        · replace hr := Lib.hid hr
          have hno : Hid (descL (l.map (·.toList)) = none) := Lib.hid (by unfold descL; rw [hrun.out, hst.out, hV.out, if_neg (by rw [hk2.out]; decide)]; rfl)
          clear hk2
          go_wp2_with fail
          refine (hcall.out _).mono ?_
          rintro e w' ⟨rfl, rfl⟩
          go_wp2_with (refine wpList_store_rowTo rfl 27 _ _ rfl rfl w.heap.size (candC e0 nilV d0) rfl rfl 27 (candC e0 nilV d0) hrow.out (candInfo _ _ _) rfl (candCells _ _ _ _ _) ?_)
          refine descr_ret2 rfl rfl rfl (setRow_heap _ _ _ _ _ _ hrow.out) (.inl ⟨hno, rfl, below_setRow hbX (Nat.le_refl _) _⟩)
        · replace hr := Lib.hid hr
          have hno : Hid (descL (l.map (·.toList)) = none) := Lib.hid (by unfold descL; rw [hrun.out, hst.out, hV.out, if_neg (by rw [hk2.out]; decide)]; rfl)
          clear hk2
          go_wp2_with fail
          refine (hcall.out _).mono ?_
          rintro e w' ⟨rfl, rfl⟩
          go_wp2_with (refine wpList_store_rowTo rfl 27 _ _ rfl rfl w.heap.size (candC e0 nilV d0) rfl rfl 27 (candC e0 nilV d0) hrow.out (candInfo _ _ _) rfl (candCells _ _ _ _ _) ?_)
          refine descr_ret2 rfl rfl rfl (setRow_heap _ _ _ _ _ _ hrow.out) (.inl ⟨hno, rfl, below_setRow hbX (Nat.le_refl _) _⟩)
        · replace hr := Lib.hid hr
          have hno : Hid (descL (l.map (·.toList)) = none) := Lib.hid (by unfold descL; rw [hrun.out, hst.out, hV.out, if_neg (by rw [hk2.out]; decide)]; rfl)
          clear hk2
          go_wp2_with fail
          refine (hcall.out _).mono ?_
          rintro e w' ⟨rfl, rfl⟩
          go_wp2_with (refine wpList_store_rowTo rfl 27 _ _ rfl rfl w.heap.size (candC e0 nilV d0) rfl rfl 27 (candC e0 nilV d0) hrow.out (candInfo _ _ _) rfl (candCells _ _ _ _ _) ?_)
          refine descr_ret2 rfl rfl rfl (setRow_heap _ _ _ _ _ _ hrow.out) (.inl ⟨hno, rfl, below_setRow hbX (Nat.le_refl _) _⟩)
        · rw [hr0] at hr
          clear hr0
          have hno : Hid (descL (l.map (·.toList)) = none) := Lib.hid (by unfold descL; rw [hrun.out, hst.out, hV.out, if_neg (by rw [hk2.out]; decide)]; rfl)
          clear hk2
          go_wp2_with fail
          refine (hcall.out _).mono ?_
          rintro e w' ⟨rfl, rfl⟩
          go_wp2_with (refine wpList_store_rowTo rfl 27 _ _ rfl rfl w.heap.size (candC e0 nilV d0) rfl rfl 27 (candC e0 nilV d0) hrow.out (candInfo _ _ _) rfl (candCells _ _ _ _ _) ?_)
          refine descr_ret2 rfl rfl rfl (setRow_heap _ _ _ _ _ _ hrow.out) (.inl ⟨hno, rfl, below_setRow hbX (Nat.le_refl _) _⟩)
        · rw [hr0] at hr
          clear hr0
          have hno : Hid (descL (l.map (·.toList)) = none) := Lib.hid (by unfold descL; rw [hrun.out, hst.out, hV.out, if_neg (by rw [hk2.out]; decide)]; rfl)
          clear hk2
          go_wp2_with fail
          refine (hcall.out _).mono ?_
          rintro e w' ⟨rfl, rfl⟩
          go_wp2_with (refine wpList_store_rowTo rfl 27 _ _ rfl rfl w.heap.size (candC e0 nilV d0) rfl rfl 27 (candC e0 nilV d0) hrow.out (candInfo _ _ _) rfl (candCells _ _ _ _ _) ?_)
          refine descr_ret2 rfl rfl rfl (setRow_heap _ _ _ _ _ _ hrow.out) (.inl ⟨hno, rfl, below_setRow hbX (Nat.le_refl _) _⟩)
        · rw [hr0] at hr
          clear hr0
          have hnew : Hid (takeAll d0 (l.map (·.toList)) = takeAll ⟨false, sw, false, sh, true, n⟩ ((l.drop (k + 1)).map (·.toList))) := Lib.hid (by rw [hrun.out, hst.out, hV.out, if_pos hk2.out]; rfl)
          clear hk2
          go_wp2_with fail
          refine (hcall.out _).mono ?_
          rintro e w' ⟨rfl, rfl⟩
          go_wp2_with fail
          go_roundw
          case rel => exact ⟨k + 1, ⟨false, sw, false, sh, true, n⟩, by go_num, by omega, hnew, hrow.out, hbox.out, hbX⟩
          case measure => simp [intOf]; omega
        · rw [hr0] at hr
          clear hr0
          have hnew : Hid (takeAll d0 (l.map (·.toList)) = takeAll ⟨false, sw, false, sh, true, n⟩ ((l.drop (k + 1)).map (·.toList))) := Lib.hid (by rw [hrun.out, hst.out, hV.out, if_pos hk2.out]; rfl)
          clear hk2
          go_wp2_with fail
          refine (hcall.out _).mono ?_
          rintro e w' ⟨rfl, rfl⟩
          go_wp2_with fail
          go_roundw
          case rel => exact ⟨k + 1, ⟨false, sw, false, sh, true, n⟩, by go_num, by omega, hnew, hrow.out, hbox.out, hbX⟩
          case measure => simp [intOf]; omega
      have q3 : ((c.toNat : Int) == 120) = false := u8c.2 c3
      have hno : Hid (descL (l.map (·.toList)) = none) := Lib.hid (by unfold descL; rw [hrun.out, hst.out, hT.out]; unfold takeC; rw [if_neg c1, if_neg c2, if_neg c3]; rfl)
      rw [← hc2.out] at q1 q2 q3
      replace c1 := Lib.hid c1
      replace c2 := Lib.hid c2
      replace c3 := Lib.hid c3
      go_wp2_with (refine wpList_store_rowTo rfl 27 _ _ rfl rfl w.heap.size (candC e0 nilV d0) rfl rfl 27 (candC e0 nilV d0) hrb.out (candInfo _ _ _) rfl (candCells _ _ _ _ _) ?_)
      refine descr_ret2 rfl rfl rfl (setRow_heap _ _ _ _ _ _ hrb.out) (.inl ⟨hno, rfl, below_setRow hbel (Nat.le_refl _) _⟩)
    · have hge : (l.length : Int) ≤ (k : Int) := by omega
      have hall : takeAll d0 (l.map (·.toList)) = some st := by rw [hrun.out, List.drop_of_length_le (by omega)]; rfl
      have hD : Hid (descL (l.map (·.toList)) = if (st.hh && !st.hw) = true then none else some st) := Lib.hid (by unfold descL; rw [hall]; rfl)
      have hread : ReadS wr (.slice pa l.length c) l := hrd.below hbel (Nat.le_refl _)
      clear hrun hall
      have x2 := cell_of_row _ _ 2 _ _ _ hcb
      have x4 := cell_of_row _ _ 4 _ _ _ hcb
      simp only [candC, List.getElem?_toArray, List.getElem?_cons_zero, List.getElem?_cons_succ] at x2 x4
      obtain ⟨bw, hbw⟩ : ∃ b, st.hw = b := ⟨_, rfl⟩
      obtain ⟨bh, hbh⟩ : ∃ b, st.hh = b := ⟨_, rfl⟩
      rw [hbw] at x2
      rw [hbh] at x4
      rw [hbw, hbh] at hD
      replace hbw := Lib.hid hbw
      replace hbh := Lib.hid hbh
      replace hrb := Lib.hid hrb
      replace hcb := Lib.hid hcb
      have hway : (bh = true ∧ bw = false) ∨ (bh = false ∨ (bh = true ∧ bw = true)) := by cases bh <;> cases bw <;> simp
      rcases hway with ⟨rfl, rfl⟩ | hway
      · have hno : Hid (descL (l.map (·.toList)) = none) := hD
        go_wp2_with (refine wpList_store_rowTo rfl 27 _ _ rfl rfl w.heap.size (candC e0 nilV d0) rfl rfl 27 (candC e0 nilV d0) hrb.out (candInfo _ _ _) rfl (candCells _ _ _ _ _) ?_)
        refine descr_ret2 rfl rfl rfl (setRow_heap _ _ _ _ _ _ hrb.out) (.inl ⟨hno, rfl, below_setRow hbel (Nat.le_refl _) _⟩)
      · have hyes : Hid (descL (l.map (·.toList)) = some st) := Lib.hid (by rw [hD.out]; rcases hway with rfl | ⟨rfl, rfl⟩ <;> simp)
        clear hD
        have hemp : OwnS (wr.alloc (.cells #[] 9)) wr.heap.size 9 (.slice (some ⟨wr.heap.size, 0, none⟩) 0 0) [] := OwnS.empty (Nat.le_refl _)
        have hbl : Below wr.heap.size wr (wr.alloc (.cells #[] 9)) := (Below.refl _ _).alloc (Nat.le_refl _) _
        obtain ⟨pa3, c3, he3, hcell3⟩ := hread.below hbl (Nat.le_refl _)
        obtain ⟨rfl, -, rfl⟩ : pa = pa3 ∧ l.length = l.length ∧ c = c3 := by simpa using he3
        clear he3
        have hnil2 : pa = none → c = 0 ∧ l = [] := fun h => ⟨hnil.out h, by
          cases l with
          | nil => rfl
          | cons a r => obtain ⟨g, o, e, _⟩ := hc.out (by simp); rw [h] at e; cases e⟩
        replace hcell3 := Lib.hid hcell3
        replace hnil2 := Lib.hid hnil2
        replace hemp := Lib.hid hemp
        rcases hway with rfl | ⟨rfl, rfl⟩
        all_goals
          go_wp2_with (first
            | (refine wpList_moreS tyStr rfl (.tmp 124) (.tmp 125) rfl l pa c rfl rfl hnil2.out hcell3.out hemp.out hbl hbl.size (by unfold maxLen; simp; omega) (by simp; omega) ?_
               intro wv w2 ho hb2
               rw [List.nil_append] at ho
               obtain ⟨pb, cb, rfl, -⟩ := ho.read
               have hrb2 : w2.heap[w.heap.size]? = some (.cells (candC e0 nilV d0) 27 (0, 0)) := (hb2.block _ (by omega)).trans hrb.out
               have hcb2 : w2.heap[w.heap.size + 1]? = some (.cells (candC e0 nilV st) 27 (0, 0)) := (hb2.block _ (by omega)).trans hcb.out
               have hcb3 : (w2.setCell ⟨w.heap.size + 1, 1, none⟩ (.slice pb l.length cb)).heap[w.heap.size + 1]? = some (.cells (candC e0 (.slice pb l.length cb) st) 27 (0, 0)) := set_blockA hcb2
               have hrb3 : (w2.setCell ⟨w.heap.size + 1, 1, none⟩ (.slice pb l.length cb)).heap[w.heap.size]? = some (.cells (candC e0 nilV d0) 27 (0, 0)) := (set_off (by omega)).trans hrb2
               have y1 := cell_of_row _ _ 1 _ _ _ hcb2
               have f1 := frozen_of_row _ _ 1 _ _ hcb2
               simp only [candC, List.getElem?_toArray, List.getElem?_cons_zero, List.getElem?_cons_succ] at y1
               replace hrb2 := Lib.hid hrb2
               replace hcb2 := Lib.hid hcb2
               replace hrb3 := Lib.hid hrb3
               replace hcb3 := Lib.hid hcb3
               have hbel3 : Below w.heap.size w (w2.setCell ⟨w.heap.size + 1, 1, none⟩ (.slice pb l.length cb)) := below_set (hbel.trans (hb2.mono (by omega))) (by omega)
               have hown3 : ∀ cs, OwnS ((w2.setCell ⟨w.heap.size + 1, 1, none⟩ (.slice pb l.length cb)).setRow w.heap.size cs) w.heap.size 9 (.slice pb l.length cb) l := fun cs => (ho.chg (fun i h1 h2 => (setRow_other _ _ _ _ (by omega)).trans (set_off (by omega)))).low (by omega)
               replace hown3 := Lib.hid hown3
               clear ho)
            | (refine wpList_load_row rfl 27 _ rfl (w.heap.size + 1) rfl _ _ _ _ hcb3.out Tryd.underlying27 rfl (candInfo _ _ _) ?_)
            | (refine wpList_store_rowTo rfl 27 _ _ rfl rfl w.heap.size (candC e0 (.slice pb l.length cb) st) rfl rfl 27 (candC e0 nilV d0) hrb3.out (candInfo _ _ _) rfl (candCells _ _ _ _ _) ?_))
          refine descr_ret2 rfl rfl rfl (setRow_heap _ _ _ _ _ _ hrb3.out) (.inr ⟨_, _, hyes, rfl, hown3.out _, below_setRow hbel3 (Nat.le_refl _) _⟩)
end Go.Proofs.YtbejimncmfeggaaDoor
