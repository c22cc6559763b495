/- The walk of SrcsetBack. -/
import Derived.Test.YtbejimncmfeggaaDoorSrcN
namespace Go.Proofs.YtbejimncmfeggaaDoor
open Go.RowKit
set_option linter.unusedVariables false
set_option linter.unusedSimpArgs false

theorem good_url {u : ByteArray} {C : Cand} (hg : GoodC C) (e : C.url = u.toList) : 0 < u.size ∧ (∀ (i : Nat) (h : i < u.size), isBl u[i] = false) ∧ (∀ h : 0 < u.size, u[0] ≠ 44) ∧ (∀ h : 0 < u.size, u[u.size - 1] ≠ 44) := by
  have hp : 0 < u.size := by
    rw [← size_toList, ← e]
    exact List.length_pos_iff.2 hg.ne
  refine ⟨hp, fun i hi => ?_, fun h => ?_, fun h => ?_⟩
  · have hm : u[i] ∈ u.toList := by rw [← toList_get u i hi]; exact List.getElem_mem _
    have := hg.nb u[i] (by rw [e]; exact hm)
    unfold notBl at this
    simpa using this
  · have := hg.hd
    rw [e] at this
    intro h2
    apply this
    rw [List.head?_eq_getElem?, List.getElem?_eq_getElem (by rw [size_toList]; exact h), toList_get u 0 h, h2]
  · have := hg.lt
    rw [e] at this
    intro h2
    apply this
    rw [List.getLast?_eq_getElem?, size_toList, List.getElem?_eq_getElem (by rw [size_toList]; omega), toList_get u _ (by omega), h2]
set_option maxRecDepth 100000 in
set_option maxHeartbeats 4000000 in
theorem srcsetBack_walk (s : ByteArray) (w : World) (ws : s.size ≤ maxLen) :
    Calls Tryd.prog 4 #[.string s] w (RetB w true) := by
  have hB : Below w.heap.size w w := Below.refl _ _
  unfold maxLen at ws
  go_enter Tryd.func4, Tryd.ntmps4
  go_wp2_with fail
  refine (small19_any _).mono ?_
  rintro e w1 ⟨rfl, hb⟩
  replace hB := hB.next hb
  clear hb
  by_cases hbig : 500 < s.size
  · have q1 : (500 : Int) < (s.size : Int) := by omega
    go_wp2_with fail
    go_ret
    exact ⟨rfl, hB⟩
  have q1 : (s.size : Int) ≤ 500 := by omega
  have hlenW : (writeL (splL s.toList)).length ≤ 1500 := by
    have := writeL_len s.toList
    rw [size_toList] at this; omega
  have hgood := splL_good _ s.toList (Nat.le_refl _)
  have hback := splL_write _ hgood
  replace hlenW := Lib.hid hlenW
  replace hgood := Lib.hid hgood
  replace hback := Lib.hid hback
  clear hbig
  go_wp2_with fail
  refine (split_at _ _ (by omega)).mono ?_
  rintro e w2 ⟨pa, n, c, l, rfl, h1, hb⟩
  replace hB := hB.next hb
  clear hb
  have hln := h1.small
  obtain ⟨a1, c1, hv, hc1, hr1⟩ := h1.read
  have hn := h1.len
  subst hn
  obtain ⟨rfl, -, rfl⟩ : pa = a1 ∧ l.length = l.length ∧ c = c1 := by simpa using hv
  clear hv
  replace hc1 := Lib.hid hc1
  replace hr1 := Lib.hid hr1
  have hB2 : Below w2.heap.size w2 w2 := Below.refl _ _
  go_wp2_with fail
  go_loopw [5] (fun iv wr => ∃ k : Nat, iv = .int .i64 k ∧ k ≤ l.length ∧ Below w2.heap.size w2 wr) (fun i _ => l.length - (intOf i).toNat)
  case atStart => exact ⟨0, rfl, Nat.zero_le _, hB2⟩
  case round =>
    obtain ⟨k, rfl, hk, hbel⟩ := hrel
    clear hB2
    by_cases hlt : k < l.length
    · obtain ⟨g1, o1, rfl, hcell1⟩ := hc1.out (by omega)
      have y := rangeAt_below (hcell1 k hlt) hbel (Nat.le_refl _)
      have hm := List.getElem_mem (l := l) hlt
      have q1 := (hr1.out l[k] hm).below hbel (Nat.le_refl _)
      have q2 := h1.ws l[k] hm
      have q3 := h1.sz l[k] hm
      have q4 := h1.nan l[k] hm
      have q5 := h1.uz l[k] hm
      have hG := hgood.out (candIs l[k]) (by rw [← h1.list]; exact List.mem_map_of_mem hm)
      obtain ⟨c, hc⟩ : ∃ c, l[k] = c := ⟨_, rfl⟩
      rw [hc] at y q1 q2 q3 q4 q5 hG
      obtain ⟨cu, cv, cw, cs⟩ := c
      dsimp only at q1 q2 q3 q4 q5
      obtain ⟨u0, u1, u2, u3⟩ := good_url (u := cu) hG rfl
      have hds : descL (cw.map (·.toList)) = some cs := hG.ds
      have q1' := q1
      obtain ⟨ga, gc, rfl, -⟩ := q1'
      have y0 := y 0 _ rfl
      have y1 := y 1 _ rfl
      simp only [Nat.add_zero] at y0 y1
      have z1 : (k : Int) < (l.length : Int) := by omega
      have ee0 : cu.toList.isEmpty = false := by rw [extract1 cu u0]; rfl
      have e1 : ((cu[0].toNat : Int) == 44) = false := u8c.2 (u2 u0)
      have e2 : ((cu[cu.size - 1].toNat : Int) == 44) = false := u8c.2 (u3 u0)
      replace hds := Lib.hid hds
      replace y := Lib.hid y
      replace hc := Lib.hid hc
      replace q1 := Lib.hid q1
      replace q3 := Lib.hid q3
      replace q4 := Lib.hid q4
      replace u1 := Lib.hid u1
      have zu : (1 : Int) ≤ (cu.size : Int) := by omega
      clear hG hm hcell1 u2 u3
      go_wp2_with fail
      go_loop [7] (fun iv => ∃ j : Nat, iv = .int .i64 j ∧ j ≤ cu.size) (fun iv => cu.size - (intOf iv).toNat)
      case atStart => exact ⟨0, rfl, Nat.zero_le _⟩
      case round =>
        obtain ⟨j, rfl, hj⟩ := hrel
        by_cases hju : j < cu.size
        · have z2 : (j : Int) < (cu.size : Int) := by omega
          have hbl : blankZ (cu[j].toNat : Int) = false := u1.out j hju
          go_wp2_with fail
          refine (blank_any _ _).mono ?_
          rintro e w' ⟨rfl, rfl⟩
          rw [hbl]
          replace hbl := Lib.hid hbl
          go_wp2_with fail
          go_round
          case rel => exact ⟨j + 1, by go_num, by omega⟩
          case measure => simp [intOf]; omega
        · have z2 : (cu.size : Int) ≤ (j : Int) := by omega
          go_wp2_with fail
          refine (describe_good _ cw cs _ q1.out q3.out q2 hds.out).mono ?_
          rintro e w3 ⟨pb, cb, rfl, hrb, hb3⟩
          go_wp2_with (refine wpList_store_newC rfl 27 _ _ rfl rfl (candC e0 (.slice pb cw.length cb) cs) 27 _ _ rfl rfl rfl (candInfo _ _ _) rfl (candCells _ _ _ _ _) ?_)
          rw [show (candC e0 (.slice pb cw.length cb) cs).setIfInBounds 0 (.string cu) = candC cu (.slice pb cw.length cb) cs from rfl]
          have yb : (w3.alloc (.cells (candC cu (.slice pb cw.length cb) cs) 27)).rangeAt w3.heap.size 0 (candC cu (.slice pb cw.length cb) cs).toList := fun j v hv => by
            rw [Nat.zero_add, cell_of_row _ _ j _ _ _ (heap_alloc_new w3 _)]
            simpa using hv
          have hbx : Below wr.heap.size wr (w3.alloc (.cells (candC cu (.slice pb cw.length cb) cs) 27)) := hb3.alloc hb3.size _
          have hrx := hrb.below ((Below.refl w3.heap.size w3).alloc (Nat.le_refl _) (.cells (candC cu (.slice pb cw.length cb) cs) 27)) (Nat.le_refl _)
          generalize w3.alloc (.cells (candC cu (.slice pb cw.length cb) cs) 27) = wx at yb hbx hrx ⊢
          have yl := rangeAt_below y.out hbx (Nat.le_refl _)
          have hone := Lib.hid (fun w' (hb : Below wx.heap.size wx w') => one_yes cu (.slice pb cw.length cb) (.slice ga cw.length gc) cw cs w' (hrx.below hb (Nat.le_refl _)) ((q1.out.below hbx (Nat.le_refl _)).below hb (Nat.le_refl _)) q2 q4.out)
          replace yb := Lib.hid yb
          replace yl := Lib.hid yl
          have hB3 := hbel.next hbx
          clear hb3 hrb hrx
          refine wp_region_noPanic ?_
          refine wp_region_held_drew (S := (fun w' => Below wx.heap.size wx w')) (by kernel_rfl) ((Below.refl _ _).drew) (fun hHeld => ?_)
          refine wpAnyH_take (i := 0) (oi := ⟨some 64, _, _, _, _, _⟩) (v := ?_) rfl (by kernel_rfl) (by kernel_rfl) (by kernel_rfl) (fun _ _ _ h => h) (Or.inl ⟨by rfl, ?_⟩) hHeld ?_
          rotate_left
          · first | (intro w hSw; (try dsimp only at hSw); go_simp; done) | (intro w hSw; (try dsimp only at hSw); go_simp; with_reducible rfl)
          try simp only [Act.put, List.setIfInBounds_toArray, List.set_cons_zero, List.set_cons_succ]
          refine wpAnyH_take (i := 1) (oi := ⟨some 65, _, _, _, _, _⟩) (v := ?_) rfl (by kernel_rfl) (by kernel_rfl) (by kernel_rfl) (fun _ _ _ h => h) (Or.inl ⟨by rfl, ?_⟩) hHeld ?_
          rotate_left
          · first | (intro w hSw; (try dsimp only at hSw); go_simp; done) | (intro w hSw; (try dsimp only at hSw); go_simp; with_reducible rfl)
          try simp only [Act.put, List.setIfInBounds_toArray, List.set_cons_zero, List.set_cons_succ]
          refine wpAnyH_take (i := 2) (oi := ⟨some 66, _, _, _, _, _⟩) (v := ?_) rfl (by kernel_rfl) (by kernel_rfl) (by kernel_rfl) (fun _ _ _ h => h) (Or.inl ⟨by rfl, ?_⟩) hHeld ?_
          rotate_left
          · first | (intro w hSw; (try dsimp only at hSw); go_simp; done) | (intro w hSw; (try dsimp only at hSw); go_simp; with_reducible rfl)
          try simp only [Act.put, List.setIfInBounds_toArray, List.set_cons_zero, List.set_cons_succ]
          refine wpAnyH_take (i := 3) (oi := ⟨some 67, _, _, _, _, _⟩) (v := .agg (candC cu (.slice pb cw.length cb) cs).toList.toArray) rfl (by kernel_rfl) (by kernel_rfl) (by kernel_rfl) (fun _ _ _ h => h) (yieldsIf_load_mid (by rfl) 27 _ rfl w3.heap.size 0 rfl (candC cu (.slice pb cw.length cb) cs).toList _ (fun w' h => rangeAt_below yb.out h (Nat.le_refl _)) Tryd.underlying27 rfl (candInfoL _ _ _)) hHeld ?_
          try simp only [Act.put, List.setIfInBounds_toArray, List.set_cons_zero, List.set_cons_succ]
          refine wpAnyH_take (i := 4) (oi := ⟨some 68, _, _, _, _, _⟩) (v := ?_) rfl (by kernel_rfl) (by kernel_rfl) (by kernel_rfl) (fun _ _ _ h => h) (Or.inl ⟨by rfl, ?_⟩) hHeld ?_
          rotate_left
          · first | (intro w hSw; (try dsimp only at hSw); go_simp; done) | (intro w hSw; (try dsimp only at hSw); go_simp; with_reducible rfl)
          try simp only [Act.put, List.setIfInBounds_toArray, List.set_cons_zero, List.set_cons_succ]
          refine wpAnyH_take (i := 5) (oi := ⟨some 69, _, _, _, _, _⟩) (v := ?_) rfl (by kernel_rfl) (by kernel_rfl) (by kernel_rfl) (fun _ _ _ h => h) (Or.inl ⟨by rfl, ?_⟩) hHeld ?_
          rotate_left
          · first | (intro w hSw; (try dsimp only at hSw); go_simp; done) | (intro w hSw; (try dsimp only at hSw); go_simp; with_reducible rfl)
          try simp only [Act.put, List.setIfInBounds_toArray, List.set_cons_zero, List.set_cons_succ]
          refine wpAnyH_take (i := 6) (oi := ⟨some 70, _, _, _, _, _⟩) (v := ?_) rfl (by kernel_rfl) (by kernel_rfl) (by kernel_rfl) (fun _ _ _ h => h) (Or.inl ⟨by rfl, ?_⟩) hHeld ?_
          rotate_left
          · first | (intro w hSw; (try dsimp only at hSw); go_simp; done) | (intro w hSw; (try dsimp only at hSw); go_simp; with_reducible rfl)
          try simp only [Act.put, List.setIfInBounds_toArray, List.set_cons_zero, List.set_cons_succ]
          refine wpAnyH_take (i := 7) (oi := ⟨some 71, _, _, _, _, _⟩) (v := .agg (candC cu (.slice ga cw.length gc) cs).toList.toArray) rfl (by kernel_rfl) (by kernel_rfl) (by kernel_rfl) (fun _ _ _ h => h) (yieldsIf_load_mid (by rfl) 27 _ rfl g1 (o1 + k * 8) rfl (candC cu (.slice ga cw.length gc) cs).toList _ (fun w' h => rangeAt_below yl.out h (Nat.le_refl _)) Tryd.underlying27 rfl (candInfoL _ _ _)) hHeld ?_
          try simp only [Act.put, List.setIfInBounds_toArray, List.set_cons_zero, List.set_cons_succ]
          refine wpAnyH_ready (rs := [8]) (by kernel_rfl) (by simp) ?_
          refine AllReadyH.cons rfl (fun K hK => ?_) AllReadyH.nil
          go_simp
          refine (hone.out _ (Below.refl _ _).drew).mono ?_
          rintro e w5 ⟨rfl, hb5⟩
          have hB5 : Below wx.heap.size wx w5 := (Below.refl wx.heap.size wx).drew.trans hb5
          clear hb5
          go_wp2_with fail
          refine hK.out _ _ (hB5) (fun hHeld => ?_)
          clear hK K
          try simp only [Act.put, List.setIfInBounds_toArray, List.set_cons_zero, List.set_cons_succ]
          refine wpAnyH_ready (rs := [9]) (by kernel_rfl) (by simp) ?_
          refine AllReadyH.cons rfl (fun K hK => ?_) AllReadyH.nil
          go_simp
          refine hK.out _ _ (hB5) (fun hHeld => ?_)
          clear hK K
          try simp only [Act.put, List.setIfInBounds_toArray, List.set_cons_zero, List.set_cons_succ]
          refine wpAnyH_ready (rs := [10]) (by kernel_rfl) (by simp) ?_
          refine AllReadyH.cons rfl (fun K hK => ?_) AllReadyH.nil
          go_simp
          refine hK.out _ _ (hB5) (fun hHeld => ?_)
          clear hK K
          try simp only [Act.put, List.setIfInBounds_toArray, List.set_cons_zero, List.set_cons_succ]
          refine wpAnyH_done (by kernel_rfl) ?_ _
          refine NoPanic.normal ?_
          go_wp2_with fail
          go_roundw
          case rel => exact ⟨k + 1, by go_num, by omega, hB3.next hB5⟩
          case measure => simp [intOf]; omega
    · have hge : (l.length : Int) ≤ (k : Int) := by omega
      have hT := (writeC_any pa l.length c l wr (h1.read.below hbel (Nat.le_refl _)) rfl (by rw [h1.list]; have := hlenW.out; omega) hln h1.ws)
      replace hT := Lib.hid hT
      go_wp2_with fail
      refine hT.out.mono ?_
      rintro e w4 ⟨t, rfl, ht, rfl⟩
      clear hT
      have hsp : Hid (splL t.toList = splL s.toList) := Lib.hid (by rw [ht.out, h1.list, hback.out])
      have htz : t.size ≤ 900000 := by
        rw [← size_toList, ht.out, h1.list]
        have := hlenW.out
        omega
      go_wp2_with fail
      refine (split_at _ _ htz).mono ?_
      rintro e w5 ⟨pb, nb, cb, lb, rfl, h2, hb⟩
      rw [hsp.out] at h2
      have h1' := (h1.below hbel (Nat.le_refl _)).below hb (Nat.le_refl _)
      replace hbel := hbel.next hb
      clear hb
      go_wp2_with fail
      refine (same_at h2 h1').mono ?_
      rintro e w6 ⟨rfl, hb⟩
      replace hbel := hB.next (hbel.next hb)
      clear hb h1 h1' h2
      go_wp2_with fail
      go_ret
      exact ⟨rfl, hbel⟩
end Go.Proofs.YtbejimncmfeggaaDoor
