/- The reference's Same at rows of candidates that are the same. -/
import Derived.Test.YtbejimncmfeggaaDoorSrcH
namespace Go.Proofs.YtbejimncmfeggaaDoor
open Go.RowKit
set_option linter.unusedVariables false
set_option linter.unusedSimpArgs false

theorem candInfoL (u : ByteArray) (wv : Value) (st : DSt) : (Tryd.prog.info? 27).map (·.size) = some (candC u wv st).toList.length := by kernel_rfl
set_option maxRecDepth 100000 in
set_option maxHeartbeats 4000000 in
theorem same_yes (v1 v2 : Value) (l m : List HCand) (w : World) (h1 : ReadC w v1 l) (h2 : ReadC w v2 m) (he : l.map candIs = m.map candIs) (hn : ∀ c ∈ l, NoNaN c.st.d) (hws : ∀ c ∈ l, c.ws.length ≤ 1000000) (hl : l.length ≤ 1000000) :
    Calls Tryd.prog 15 #[v1, v2] w (RetB w true) := by
  have hlen : l.length = m.length := by simpa using congrArg List.length he
  obtain ⟨a1, c1, rfl, hc1, hr1⟩ := h1
  obtain ⟨a2, c2, rfl, hc2, hr2⟩ := h2
  obtain ⟨e1, n1⟩ := beq_of (show (l.length : Int) = (m.length : Int) by omega)
  replace he := Lib.hid he
  replace hn := Lib.hid hn
  replace hws := Lib.hid hws
  replace hr1 := Lib.hid hr1
  replace hr2 := Lib.hid hr2
  replace hlen := Lib.hid hlen
  go_enter Tryd.func15, Tryd.ntmps15
  go_wp2_with fail
  go_loopw [5] (fun i wr => ∃ k : Nat, i = .int .i64 k ∧ k ≤ l.length ∧ Below w.heap.size w wr) (fun i _ => l.length - (intOf i).toNat)
  case atStart => exact ⟨0, rfl, Nat.zero_le _, Below.refl _ _⟩
  case round =>
    obtain ⟨k, rfl, hk, hbel⟩ := hrel
    by_cases hlt : k < l.length
    · have hlt2 : k < m.length := by have := hlen.out; omega
      obtain ⟨g1, o1, rfl, hcell1⟩ := hc1 (by omega)
      obtain ⟨g2, o2, rfl, hcell2⟩ := hc2 (by omega)
      have y1 := rangeAt_below (hcell1 k hlt) hbel (Nat.le_refl _)
      have y2 := rangeAt_below (hcell2 k hlt2) hbel (Nat.le_refl _)
      have hek : candIs l[k] = candIs m[k] := by
        have e := congrArg (fun q => q[k]?) he.out
        simpa [List.getElem?_map, List.getElem?_eq_getElem hlt, List.getElem?_eq_getElem hlt2] using e
      have q1 := (hr1.out l[k] (List.getElem_mem ..)).below hbel (Nat.le_refl _)
      have q2 := (hr2.out m[k] (List.getElem_mem ..)).below hbel (Nat.le_refl _)
      have q3 := hn.out l[k] (List.getElem_mem ..)
      have q4 := hws.out l[k] (List.getElem_mem ..)
      obtain ⟨eu, ew, es⟩ := candIs_inj hek
      obtain ⟨c, hc⟩ : ∃ c, l[k] = c := ⟨_, rfl⟩
      obtain ⟨d, hd⟩ : ∃ d, m[k] = d := ⟨_, rfl⟩
      rw [hc] at y1 q1 q3 q4 eu ew es
      rw [hd] at y2 q2 eu ew es
      obtain ⟨cu, cv, cw, cs⟩ := c
      obtain ⟨du, dv, dw, ds⟩ := d
      dsimp only at eu ew es q1 q2 q3 q4
      subst eu; subst ew; subst es
      have hone := Lib.hid (fun w' (hb : Below wr.heap.size wr w') => one_yes cu cv dv cw cs w' (q1.below hb (Nat.le_refl _)) (q2.below hb (Nat.le_refl _)) q4 q3)
      have z1 : (k : Int) < (l.length : Int) := by omega
      have z2 : (k : Int) < (m.length : Int) := by omega
      replace y1 := Lib.hid y1
      replace y2 := Lib.hid y2
      replace q1 := Lib.hid q1
      replace q2 := Lib.hid q2
      replace q3 := Lib.hid q3
      replace hc := Lib.hid hc
      replace hd := Lib.hid hd
      clear hc1 hc2 hcell1 hcell2 hek
      go_upto_region 6 with fail
      refine wp_region_noPanic ?_
      refine wp_region_held_drew (S := (fun w' => Below wr.heap.size wr w')) (by kernel_rfl) ((Below.refl _ _).drew) (fun hHeld => ?_)
      refine wpAnyH_take (i := 0) (oi := ⟨some 17, _, _, _, _, _⟩) (v := ?_) rfl (by kernel_rfl) (by kernel_rfl) (by kernel_rfl) (fun _ _ _ h => h) (Or.inl ⟨by rfl, ?_⟩) hHeld ?_
      rotate_left
      · first | (intro w hSw; (try dsimp only at hSw); go_simp; done) | (intro w hSw; (try dsimp only at hSw); go_simp; with_reducible rfl)
      try simp only [Act.put, List.setIfInBounds_toArray, List.set_cons_zero, List.set_cons_succ]
      refine wpAnyH_take (i := 1) (oi := ⟨some 18, _, _, _, _, _⟩) (v := ?_) rfl (by kernel_rfl) (by kernel_rfl) (by kernel_rfl) (fun _ _ _ h => h) (Or.inl ⟨by rfl, ?_⟩) hHeld ?_
      rotate_left
      · first | (intro w hSw; (try dsimp only at hSw); go_simp; done) | (intro w hSw; (try dsimp only at hSw); go_simp; with_reducible rfl)
      try simp only [Act.put, List.setIfInBounds_toArray, List.set_cons_zero, List.set_cons_succ]
      refine wpAnyH_take (i := 2) (oi := ⟨some 19, _, _, _, _, _⟩) (v := ?_) rfl (by kernel_rfl) (by kernel_rfl) (by kernel_rfl) (fun _ _ _ h => h) (Or.inl ⟨by rfl, ?_⟩) hHeld ?_
      rotate_left
      · first | (intro w hSw; (try dsimp only at hSw); go_simp; done) | (intro w hSw; (try dsimp only at hSw); go_simp; with_reducible rfl)
      try simp only [Act.put, List.setIfInBounds_toArray, List.set_cons_zero, List.set_cons_succ]
      refine wpAnyH_take (i := 3) (oi := ⟨some 20, _, _, _, _, _⟩) (v := .agg (candC cu cv cs).toList.toArray) rfl (by kernel_rfl) (by kernel_rfl) (by kernel_rfl) (fun _ _ _ h => h) (yieldsIf_load_mid (by rfl) 27 _ rfl g1 (o1 + k * 8) rfl (candC cu cv cs).toList _ (fun w' h => rangeAt_below y1.out h (Nat.le_refl _)) Tryd.underlying27 rfl (candInfoL _ _ _)) hHeld ?_
      try simp only [Act.put, List.setIfInBounds_toArray, List.set_cons_zero, List.set_cons_succ]
      refine wpAnyH_take (i := 4) (oi := ⟨some 21, _, _, _, _, _⟩) (v := ?_) rfl (by kernel_rfl) (by kernel_rfl) (by kernel_rfl) (fun _ _ _ h => h) (Or.inl ⟨by rfl, ?_⟩) hHeld ?_
      rotate_left
      · first | (intro w hSw; (try dsimp only at hSw); go_simp; done) | (intro w hSw; (try dsimp only at hSw); go_simp; with_reducible rfl)
      try simp only [Act.put, List.setIfInBounds_toArray, List.set_cons_zero, List.set_cons_succ]
      refine wpAnyH_take (i := 5) (oi := ⟨some 22, _, _, _, _, _⟩) (v := ?_) rfl (by kernel_rfl) (by kernel_rfl) (by kernel_rfl) (fun _ _ _ h => h) (Or.inl ⟨by rfl, ?_⟩) hHeld ?_
      rotate_left
      · first | (intro w hSw; (try dsimp only at hSw); go_simp; done) | (intro w hSw; (try dsimp only at hSw); go_simp; with_reducible rfl)
      try simp only [Act.put, List.setIfInBounds_toArray, List.set_cons_zero, List.set_cons_succ]
      refine wpAnyH_take (i := 6) (oi := ⟨some 23, _, _, _, _, _⟩) (v := ?_) rfl (by kernel_rfl) (by kernel_rfl) (by kernel_rfl) (fun _ _ _ h => h) (Or.inl ⟨by rfl, ?_⟩) hHeld ?_
      rotate_left
      · first | (intro w hSw; (try dsimp only at hSw); go_simp; done) | (intro w hSw; (try dsimp only at hSw); go_simp; with_reducible rfl)
      try simp only [Act.put, List.setIfInBounds_toArray, List.set_cons_zero, List.set_cons_succ]
      refine wpAnyH_take (i := 7) (oi := ⟨some 24, _, _, _, _, _⟩) (v := .agg (candC cu dv cs).toList.toArray) rfl (by kernel_rfl) (by kernel_rfl) (by kernel_rfl) (fun _ _ _ h => h) (yieldsIf_load_mid (by rfl) 27 _ rfl g2 (o2 + k * 8) rfl (candC cu dv cs).toList _ (fun w' h => rangeAt_below y2.out h (Nat.le_refl _)) Tryd.underlying27 rfl (candInfoL _ _ _)) hHeld ?_
      try simp only [Act.put, List.setIfInBounds_toArray, List.set_cons_zero, List.set_cons_succ]
      refine wpAnyH_ready (rs := [8]) (by kernel_rfl) (by simp) ?_
      refine AllReadyH.cons rfl (fun K hK => ?_) AllReadyH.nil
      go_simp
      refine (hone.out _ (Below.refl _ _).drew).mono ?_
      rintro e w3 ⟨rfl, hb3⟩
      have hB3 : Below wr.heap.size wr w3 := (Below.refl wr.heap.size wr).drew.trans hb3
      clear hb3
      go_wp2_with fail
      refine hK.out _ _ (hB3) (fun hHeld => ?_)
      clear hK K
      try simp only [Act.put, List.setIfInBounds_toArray, List.set_cons_zero, List.set_cons_succ]
      refine wpAnyH_ready (rs := [9]) (by kernel_rfl) (by simp) ?_
      refine AllReadyH.cons rfl (fun K hK => ?_) AllReadyH.nil
      go_simp
      refine hK.out _ _ (hB3) (fun hHeld => ?_)
      clear hK K
      try simp only [Act.put, List.setIfInBounds_toArray, List.set_cons_zero, List.set_cons_succ]
      refine wpAnyH_done (by kernel_rfl) ?_ _
      refine NoPanic.normal ?_
      go_wp2_with fail
      go_roundw
      case rel => exact ⟨k + 1, by go_num, by omega, hbel.trans (hB3.mono hbel.size)⟩
      case measure => simp [intOf]; omega
    · have hge : (l.length : Int) ≤ (k : Int) := by omega
      go_wp2
      go_ret
      exact ⟨rfl, hbel⟩
end Go.Proofs.YtbejimncmfeggaaDoor
