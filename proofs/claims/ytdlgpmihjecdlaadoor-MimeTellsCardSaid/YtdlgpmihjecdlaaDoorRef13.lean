/- The contracts of the references' Write for hosts, of their Path, ahead and Write for addresses. -/
import Derived.Test.YtdlgpmihjecdlaaDoorRefW
import Derived.Test.YtdlgpmihjecdlaaDoorLaws13
import Derived.Deep.RegionHeld3
namespace Go.Proofs.YtdlgpmihjecdlaaDoor
open Go.RowKit
set_option linter.unusedVariables false
set_option linter.unusedSimpArgs false

set_option maxHeartbeats 1000000 in
theorem hostR_any (h : HostS) (ok : HostOk h) (w : World) :
    Calls Tryd.prog 72 #[.agg (hostC h)] w (RetS w (hostL h)) := by
  have hsv := sixV_eq ok.six
  replace hsv := Lib.hid hsv
  unfold hostC
  have hb1 : Below w.heap.size w (w.alloc (.cells (hostC h) 26)) := (Below.refl _ _).alloc (Nat.le_refl _) _
  unfold hostC at hb1
  rcases kind_ways h with ⟨k2, e⟩ | ⟨k2, ⟨k5, e⟩ | ⟨k5, ⟨k3, e⟩ | ⟨k3, ⟨k4, e⟩ | ⟨k4, e⟩⟩⟩⟩
  all_goals replace e := Lib.hid e
  · go_enter Tryd.func72, Tryd.ntmps72
    go_wp2_with fail
    go_ret
    exact retS e.out.symm hb1
  · go_enter Tryd.func72, Tryd.ntmps72
    go_wp2_with fail
    go_ret
    exact retS e.out.symm hb1
  · go_enter Tryd.func72, Tryd.ntmps72
    go_wp2_with fail
    refine (fourR_any h.four ok.four _).mono ?_
    rintro e' w2 ⟨t, rfl, ht', hb⟩
    go_wp2_with fail
    go_ret
    exact retS (ht'.out.trans e.out.symm) (hb1.next hb)
  · go_enter Tryd.func72, Tryd.ntmps72
    go_wp2_with fail
    rw [← hsv.out]
    refine (sixR_any h.six ok.six _).mono ?_
    rintro e' w2 ⟨t, rfl, ht', hb⟩
    have hz := sizeOfL ht'.out (sixL_len _)
    go_wp2_with fail
    go_ret
    refine retS ?_ (hb1.next hb)
    rw [e.out, toList_append, toList_append, ht'.out, show (ByteArray.mk #[91]).toList = [91] from toList_mk _, show (ByteArray.mk #[93]).toList = [93] from toList_mk _]
  · go_enter Tryd.func72, Tryd.ntmps72
    go_wp2_with fail
    go_ret
    exact retS ((toList_mk []).trans e.out.symm) hb1

set_option maxRecDepth 100000 in
set_option maxHeartbeats 1000000 in
theorem pathR_any (u : UrlS) (w : World) (hp : PathIn w u) (hl : (pathT u.path).length ≤ 549755813888) (hn : u.path.length ≤ maxLen) :
    Calls Tryd.prog 59 #[.agg (urlC u)] w (RetS w (pathX u)) := by
  have hI := UIn.start w u
  obtain ⟨x0, x1, x2, x3, x4, x5, x6, x7, x8, x9, x10, x11, x12, x13, x14, x15, x16, x17, x18, x19, x20, x21, x22⟩ := urlC_at u
  have hX : Hid (pathX u = if u.flatP then u.flat.toList else pathT u.path) := rfl
  unfold maxLen at hn
  replace hp := Lib.hid hp
  clear x0 x1 x2 x3 x4 x5 x6 x7 x8 x9 x10 x11 x12 x13 x14 x15 x19 x20 x21 x22
  rcases bool_or u.flatP with hop | hop
  · rw [hop] at hX x16
    have hbx := hI.box
    have c18 := (hbx 18).trans x18
    have c16 := (hbx 16).trans x16
    have d31 : (ByteArray.mk #[47]).toList = [47] := toList_mk _
    replace d31 := Lib.hid d31
    clear hbx x16 x17 x18
    go_enter Tryd.func59, Tryd.ntmps59
    go_wp2_with fail
    go_loop [3, 4] (fun sv iv => ∃ (k : Nat) (t : ByteArray), sv = .string t ∧ iv = .int .i64 k ∧ k ≤ u.path.length ∧ Hid (t.toList = pathT (u.path.take k))) (fun _ i => u.path.length - (intOf i).toNat)
    case atStart => exact ⟨0, _, rfl, rfl, Nat.zero_le _, Lib.hid (toList_mk [])⟩
    case round =>
      obtain ⟨k, t, rfl, rfl, hk, ht⟩ := hrel
      have hle := pathT_le u.path k
      by_cases hlt : k < u.path.length
      · obtain ⟨g, o, hpa, hcc⟩ := hp.out (by omega)
        have y1 : (w.alloc (.cells (urlC u) 29)).cell? ⟨g, o + k, none⟩ = some (.string u.path[k]) := by
          rw [World.cell?_alloc_past _ _ _ (World.block_lt_of_cell? w _ (hcc k hlt))]; exact hcc k hlt
        have hle2 := pathT_le u.path (k + 1)
        have hsn := pathT_snoc hlt
        have htz : t.size = (pathT (u.path.take k)).length := by rw [← size_toList, ht.out]
        have hz : t.size + (1 + u.path[k].size) ≤ 549755813888 := by
          rw [hsn, List.length_append] at hle2; simp [size_toList] at hle2; omega
        have hltI : (k : Int) < (u.path.length : Int) := by omega
        have f1 : ¬ (9223372036854775807 < t.size + 1 + u.path[k].size) := by omega
        have hnew : Hid ((t ++ ⟨#[47]⟩ ++ u.path[k]).toList = pathT (u.path.take (k + 1))) := Lib.hid (by
          rw [hsn, toList_append, toList_append, d31.out, ht.out]; simp)
        replace hsn := Lib.hid hsn
        replace htz := Lib.hid htz
        clear hcc hle hle2
        rw [hpa] at c18
        go_wp2_with fail
        go_round
        case rel => exact ⟨k + 1, _, rfl, by go_num, by omega, hnew⟩
        case measure => simp [intOf]; omega
      · have hfin : Hid (t.toList = pathX u) := Lib.hid (by rw [hX.out, ht.out, List.take_of_length_le (by omega)]; rfl)
        have hgeI : (u.path.length : Int) ≤ (k : Int) := by omega
        go_wp2_with fail
        go_ret
        exact retS hfin.out hI.below
  · rw [hop] at hX x16
    have hbx := hI.box
    have c17 := (hbx 17).trans x17
    have c16 := (hbx 16).trans x16
    clear hbx x16 x17 x18
    go_enter Tryd.func59, Tryd.ntmps59
    go_wp2_with fail
    go_ret
    exact retS (by rw [hX.out]; rfl) hI.below

theorem beqn {a b : Bool} (h : a = b) : a = b := h
set_option maxRecDepth 100000 in
set_option maxHeartbeats 2000000 in
theorem aheadR_any (u : UrlS) (w : World) (hp : PathIn w u) (fit : UrlFit u) :
    Calls Tryd.prog 58 #[.agg (urlC u)] w (RetS w (aheadX u)) := by
  have hI := UIn.start w u
  obtain ⟨x0, x1, x2, x3, x4, x5, x6, x7, x8, x9, x10, x11, x12, x13, x14, x15, x16, x17, x18, x19, x20, x21, x22⟩ := urlC_at u
  have hbx := hI.box
  have hfu := fit.user
  have hfp := fit.pass
  have d46 : (ByteArray.mk #[47, 46]).toList = [47, 46] := toList_mk _
  have d47 : (ByteArray.mk #[47, 47]).toList = [47, 47] := toList_mk _
  have d58 : (ByteArray.mk #[58]).toList = [58] := toList_mk _
  have d64 : (ByteArray.mk #[64]).toList = [64] := toList_mk _
  replace d46 := Lib.hid d46
  replace d47 := Lib.hid d47
  replace d58 := Lib.hid d58
  replace d64 := Lib.hid d64
  by_cases hk : u.host.kind = 0
  · have k1 : (u.host.kind == 0) = true := by simp [hk]
    have hah : Hid (aheadX u = optB (dotB u) [47, 46]) := Lib.hid (by unfold aheadX; rw [if_pos hk])
    have hdot : (u.flatP = true ∧ dotB u = false) ∨ (u.flatP = false ∧ (u.path.length : Int) ≤ 1 ∧ dotB u = false) ∨ (u.flatP = false ∧ (1 : Int) < (u.path.length : Int) ∧ ∃ g o t, u.pathA = some ⟨g, o, none⟩ ∧ (w.alloc (.cells (urlC u) 29)).cell? ⟨g, o, none⟩ = some (.string t) ∧ t.toList.isEmpty = dotB u) := by
      unfold dotB
      cases hfl : u.flatP
      · by_cases h2 : 2 ≤ u.path.length
        · have hpw := hp.below hI.below (Nat.le_refl _)
          obtain ⟨g, o, e1, hc⟩ := hpw (by omega)
          have h0 := hc 0 (by omega)
          refine .inr (.inr ⟨rfl, by omega, g, o, u.path[0], e1, h0, ?_⟩)
          rw [first_piece u.path (by omega)]; simp [h2]
        · exact .inr (.inl ⟨rfl, by omega, by simp [h2]⟩)
      · exact .inl ⟨rfl, rfl⟩
    clear hk
    replace hp := Lib.hid hp
    rcases hdot with ⟨d1, d2⟩ | ⟨d1, d2, d3⟩ | ⟨d1, d2, g, o, t0, d3, d4, d5⟩
    · replace d2 := Lib.hid d2
      rw [d1] at x16
      go_enter Tryd.func58, Tryd.ntmps58
      go_wp2_with fail
      go_ret
      exact retS (by rw [hah.out, d2.out]; exact toList_mk []) hI.below
    · replace d3 := Lib.hid d3
      rw [d1] at x16
      go_enter Tryd.func58, Tryd.ntmps58
      go_wp2_with fail
      go_ret
      exact retS (by rw [hah.out, d3.out]; exact toList_mk []) hI.below
    · rw [d1] at x16
      rw [d3] at x18
      rcases bool_or (dotB u) with hd | hd
      all_goals
        rw [hd] at d5
        replace hd := Lib.hid hd
        go_enter Tryd.func58, Tryd.ntmps58
        go_wp2_with fail
        go_ret
        first
          | exact retS (by rw [hah.out, hd.out]; exact toList_mk []) hI.below
          | exact retS (by rw [hah.out, hd.out]; exact toList_mk _) hI.below
  · have k1 : (u.host.kind == 0) = false := by simp [hk]
    have hah : Hid (aheadX u = [47, 47] ++ whoL u ++ hostL u.host ++ portL u) := Lib.hid (by unfold aheadX; rw [if_neg hk])
    have hhl := hostL_len u.host fit.name
    have hwl := whoL_len u fit.user fit.pass
    clear hk
    replace hp := Lib.hid hp
    go_enter Tryd.func58, Tryd.ntmps58
    go_upto_region 6 with (fail)
    obtain ⟨B, hB⟩ : ∃ B : Bool, B = !(u.user.toList.isEmpty && u.pass.toList.isEmpty) := ⟨_, rfl⟩
    have hcs : (u.user.toList.isEmpty = true ∧ u.pass.toList.isEmpty = true ∧ Hid (whoL u = [])) ∨ (u.user.toList.isEmpty = false ∧ u.pass.toList.isEmpty = true ∧ Hid (whoL u = u.user.toList ++ [64])) ∨ (u.user.toList.isEmpty = true ∧ u.pass.toList.isEmpty = false ∧ Hid (whoL u = u.user.toList ++ [58] ++ u.pass.toList ++ [64])) ∨ (u.user.toList.isEmpty = false ∧ u.pass.toList.isEmpty = false ∧ Hid (whoL u = u.user.toList ++ [58] ++ u.pass.toList ++ [64])) := by
      cases hu : u.user.toList <;> cases hp : u.pass.toList
      · exact .inl ⟨rfl, rfl, Lib.hid (by simp [whoL, hu, hp])⟩
      · exact .inr (.inr (.inl ⟨rfl, rfl, Lib.hid (by simp [whoL, hu, hp])⟩))
      · exact .inr (.inl ⟨rfl, rfl, Lib.hid (by simp [whoL, hu, hp])⟩)
      · exact .inr (.inr (.inr ⟨rfl, rfl, Lib.hid (by simp [whoL, hu, hp])⟩))
    replace hB := Lib.hid hB
    go_cut [31] (fun s31 wx => s31 = .bool B ∧ UIn w wx u)
    case first => as_aux_lemma =>
      rcases hcs with ⟨q1, q2, q3⟩ | ⟨q1, q2, q3⟩ | ⟨q1, q2, q3⟩ | ⟨q1, q2, q3⟩
      all_goals
        go_wp2_with fail
        go_meet
        refine ⟨?_, hI⟩
        rw [hB.out, beqn q1, beqn q2]; rfl
    case rest =>
      clear hI hbx
      obtain ⟨rfl, hI⟩ := hcut
      have hbx := hI.box
      go_upto_if 31 with (fail)
      go_cut [3] (fun s3 wx => (∃ t : ByteArray, s3 = .string t ∧ Hid (t.toList = [47, 47] ++ whoL u)) ∧ UIn w wx u)
      case first => as_aux_lemma =>
        have f1 : ¬ (9223372036854775807 < 2 + u.user.size) := by omega
        have f2 : ¬ (9223372036854775807 < 2 + u.user.size + 1) := by omega
        have f3 : ¬ (9223372036854775807 < 2 + u.user.size + 1 + u.pass.size) := by omega
        have f4 : ¬ (9223372036854775807 < 2 + u.user.size + 1 + u.pass.size + 1) := by omega
        replace hfu := Lib.hid hfu
        replace hfp := Lib.hid hfp
        replace hwl := Lib.hid hwl
        replace hhl := Lib.hid hhl
        have c1 := (hbx 1).trans x1
        have c2 := (hbx 2).trans x2
        clear hbx x0 x1 x2 x3 x4 x5 x6 x7 x8 x9 x10 x11 x12 x13 x14 x15 x16 x17 x18 x19 x20 x21 x22 hah
        rcases hcs with ⟨q1, q2, q3⟩ | ⟨q1, q2, q3⟩ | ⟨q1, q2, q3⟩ | ⟨q1, q2, q3⟩
        · obtain rfl : B = false := by rw [hB.out, beqn q1, beqn q2]; rfl
          go_wp2_with fail
          go_meet
          exact ⟨⟨_, rfl, Lib.hid (by rw [d47.out, q3.out]; rfl)⟩, hI⟩
        · obtain rfl : B = true := by rw [hB.out, beqn q1, beqn q2]; rfl
          go_wp2_with fail
          go_meet
          exact ⟨⟨_, rfl, Lib.hid (by simp only [toList_append, d47.out, d64.out, q3.out]; simp)⟩, hI⟩
        all_goals
          obtain rfl : B = true := by rw [hB.out, beqn q1, beqn q2]; rfl
          go_wp2_with fail
          go_meet
          exact ⟨⟨_, rfl, Lib.hid (by simp only [toList_append, d47.out, d58.out, d64.out, q3.out]; simp)⟩, hI⟩
      case rest =>
        clear hI hbx
        obtain ⟨⟨t, rfl, ht⟩, hI⟩ := hcut
        have hbx := hI.box
        have htz : t.size ≤ 68719476740 := by rw [← size_toList, ht.out, List.length_append]; simp; omega
        go_wp2_with fail
        refine (hostR_any u.host fit.host _).mono ?_
        rintro e w2 ⟨t2, rfl, ht2, hb⟩
        replace hI := hI.keep hb
        have hz2 := sizeOfL ht2.out hhl
        clear hb hbx
        have hbx := hI.box
        rcases bool_or u.hasPort with hpt | hpt
        · rw [hpt] at x14
          replace hpt := Lib.hid hpt
          go_wp2_with fail
          go_ret
          exact retS (by rw [hah.out, toList_append, ht.out, ht2.out]; simp [portL, optB, hpt.out]) hI.below
        · rw [hpt] at x14
          replace hpt := Lib.hid hpt
          go_wp2_with fail
          refine (text13_any u.port _ fit.port.1 fit.port.2).mono ?_
          rintro e w3 ⟨t3, rfl, ht3, hb⟩
          replace hI := hI.keep hb
          have hz3 := sizeOfL ht3.out (itoa_len u.port fit.port.1 fit.port.2)
          clear hb hbx
          go_wp2_with fail
          go_ret
          exact retS (by rw [hah.out, toList_append, toList_append, toList_append, ht.out, ht2.out, ht3.out, d58.out]; simp [portL, optB, hpt.out]) hI.below
theorem UIn.ext {w wx : World} {u : UrlS} (h : UIn w wx u) (E : Array Obj) (d : Nat) : UIn w (extW wx E d) u := h.keep (below_ext wx E d)
theorem UIn.drew {w wx : World} {u : UrlS} (h : UIn w wx u) : UIn w wx.drew u := ⟨h.below.drew, h.blk, h.size⟩
theorem UIn.drewN {w wx : World} {u : UrlS} (h : UIn w wx u) (n : Nat) : UIn w (wx.drewN n) u := ⟨below_drewN h.below n, h.blk, h.size⟩
theorem UIn.range {w wx : World} {u : UrlS} (h : UIn w wx u) : wx.rangeAt w.heap.size 0 (urlC u).toList := fun j v hv => by
  rw [Nat.zero_add]
  exact (h.box j).trans (by rw [← Array.getElem?_toList]; exact hv)
theorem uin3 {w wx : World} {u : UrlS} (h : UIn w wx u) : UIn w wx u ∧ wx.cell? ⟨w.heap.size, 0, none⟩ = some (.string u.scheme) := ⟨h, (h.box 0).trans (urlC_at u).1⟩
theorem urlInfoL (u : UrlS) : (Tryd.prog.info? 29).map (·.size) = some (urlC u).toList.length := by rw [urlInfo]; rfl
theorem UIn.load {w wx : World} {u : UrlS} (h : UIn w wx u) : (Instr.loadAt 29 (.pointer (some ⟨w.heap.size, 0, none⟩))).run Tryd.prog wx = .ok (.agg (urlC u)) wx :=
  run_loadAt_mid wx w.heap.size 0 29 (urlC u).toList _ h.range Tryd.underlying29 rfl (urlInfoL u)
set_option maxRecDepth 100000 in
set_option maxHeartbeats 2000000 in
theorem writeR_any (u : UrlS) (f : Bool) (w : World) (hp : PathIn w u) (fit : UrlFit u) :
    Calls Tryd.prog 32 #[.agg (urlC u), .bool f] w (RetS w (writeX u f)) := by
  have hI := UIn.start w u
  obtain ⟨x0, x1, x2, x3, x4, x5, x6, x7, x8, x9, x10, x11, x12, x13, x14, x15, x16, x17, x18, x19, x20, x21, x22⟩ := urlC_at u
  have f1 := fit.scheme
  have f2 := fit.query
  have f3 := fit.frag
  have f4 := fit.path
  have f5 := fit.flat
  have hal := aheadX_len u fit
  have hpx : (pathX u).length ≤ 34359738368 := by
    unfold pathX; split
    · rw [size_toList]; exact f5
    · exact f4
  have hX : Hid (writeX u f = u.scheme.toList ++ [58] ++ aheadX u ++ pathX u ++ optB u.hasQuery ([63] ++ u.query.toList) ++ optB (u.hasFrag && f) ([35] ++ u.frag.toList)) := rfl
  replace hp := Lib.hid hp
  go_enter Tryd.func32, Tryd.ntmps32
  go_upto_region 1 with (fail)
  generalize w.alloc (.cells (urlC u) 29) = wa at hI ⊢
  have z1 : ¬ (9223372036854775807 < u.scheme.size + 1) := by omega
  replace f1 := Lib.hid f1
  replace f2 := Lib.hid f2
  replace f3 := Lib.hid f3
  replace f4 := Lib.hid f4
  replace f5 := Lib.hid f5
  replace hal := Lib.hid hal
  replace hpx := Lib.hid hpx
  refine wp_region_noPanic ?_
  refine wp_region_held_drew (S := fun w' => UIn w w' u ∧ w'.cell? ⟨w.heap.size, 0, none⟩ = some (.string u.scheme)) (by kernel_rfl) (uin3 hI.drew) (fun hHeld => ?_)
  refine wpAnyH_take (i := 3) (v := .agg (urlC u).toList.toArray) rfl (by kernel_rfl) (by kernel_rfl) (by kernel_rfl) (fun _ _ _ h => h) (yieldsIf_load_mid (by rfl) 29 _ rfl w.heap.size 0 rfl (urlC u).toList _ (fun _ h => h.1.range) Tryd.underlying29 rfl (urlInfoL u)) hHeld ?_
  try simp only [Act.put, List.setIfInBounds_toArray, List.set_cons_zero, List.set_cons_succ]
  refine wpAnyH_take (i := 6) (v := .agg (urlC u).toList.toArray) rfl (by kernel_rfl) (by kernel_rfl) (by kernel_rfl) (fun _ _ _ h => h) (yieldsIf_load_mid (by rfl) 29 _ rfl w.heap.size 0 rfl (urlC u).toList _ (fun _ h => h.1.range) Tryd.underlying29 rfl (urlInfoL u)) hHeld ?_
  try simp only [Act.put, List.setIfInBounds_toArray, List.set_cons_zero, List.set_cons_succ]
  refine wpAnyH_take (i := 0) (v := ?_) rfl (by kernel_rfl) (by kernel_rfl) (by kernel_rfl) (fun _ _ _ h => h) (Or.inl ⟨by rfl, ?_⟩) hHeld ?_
  rotate_left
  · first | (intro w hSw; (try dsimp only at hSw); go_simp; done) | (intro w hSw; (try dsimp only at hSw); go_simp; with_reducible rfl)
  try simp only [Act.put, List.setIfInBounds_toArray, List.set_cons_zero, List.set_cons_succ]
  refine wpAnyH_take (i := 1) (v := ?_) rfl (by kernel_rfl) (by kernel_rfl) (by kernel_rfl) (fun _ _ _ h => h) (Or.inl ⟨by rfl, ?_⟩) hHeld ?_
  rotate_left
  · first | (intro w hSw; (try dsimp only at hSw); go_simp; done) | (intro w hSw; (try dsimp only at hSw); go_simp; with_reducible rfl)
  try simp only [Act.put, List.setIfInBounds_toArray, List.set_cons_zero, List.set_cons_succ]
  refine wpAnyH_take (i := 2) (v := ?_) rfl (by kernel_rfl) (by kernel_rfl) (by kernel_rfl) (fun _ _ _ h => h) (Or.inl ⟨by rfl, ?_⟩) hHeld ?_
  rotate_left
  · first | (intro w hSw; (try dsimp only at hSw); go_simp; done) | (intro w hSw; (try dsimp only at hSw); go_simp; with_reducible rfl)
  try simp only [Act.put, List.setIfInBounds_toArray, List.set_cons_zero, List.set_cons_succ]
  refine wpAnyH_ready (rs := [4]) (by kernel_rfl) (by simp) ?_
  refine AllReadyH.cons rfl (fun K hK => ?_) AllReadyH.nil
  go_simp
  refine (aheadR_any u _ (hp.out.below hHeld.1.below (Nat.le_refl _)) fit).mono ?_
  rintro e w3 ⟨t1, rfl, ht1, hb⟩
  have hI3 := hHeld.1.keep hb
  clear hb hHeld
  have hz1 : t1.size ≤ 103079215300 := by rw [← size_toList, ht1.out]; exact hal.out
  have z2 : ¬ (9223372036854775807 < u.scheme.size + 1 + t1.size) := by have := f1.out; omega
  replace hz1 := Lib.hid hz1
  go_wp2_with fail
  refine hK.out _ _ (uin3 hI3) (fun hHeld => ?_)
  clear hK K
  try simp only [Act.put, List.setIfInBounds_toArray, List.set_cons_zero, List.set_cons_succ]
  refine wpAnyH_take (i := 5) (v := ?_) rfl (by kernel_rfl) (by kernel_rfl) (by kernel_rfl) (fun _ _ _ h => h) (Or.inl ⟨by rfl, ?_⟩) hHeld ?_
  rotate_left
  · first | (intro w hSw; (try dsimp only at hSw); go_simp; done) | (intro w hSw; (try dsimp only at hSw); go_simp; with_reducible rfl)
  try simp only [Act.put, List.setIfInBounds_toArray, List.set_cons_zero, List.set_cons_succ]
  refine wpAnyH_ready (rs := [7]) (by kernel_rfl) (by simp) ?_
  refine AllReadyH.cons rfl (fun K hK => ?_) AllReadyH.nil
  go_simp
  refine (pathR_any u _ (hp.out.below hHeld.1.below (Nat.le_refl _)) (by have := f4.out; omega) fit.pieces).mono ?_
  rintro e w4 ⟨t2, rfl, ht2, hb⟩
  have hI4 := hHeld.1.keep hb
  clear hb hHeld
  have hz2 : t2.size ≤ 34359738368 := by rw [← size_toList, ht2.out]; exact hpx.out
  have z3 : ¬ (9223372036854775807 < u.scheme.size + 1 + t1.size + t2.size) := by have := f1.out; have := hz1.out; omega
  replace hz2 := Lib.hid hz2
  go_wp2_with fail
  refine hK.out _ _ (uin3 hI4) (fun hHeld => ?_)
  clear hK K
  try simp only [Act.put, List.setIfInBounds_toArray, List.set_cons_zero, List.set_cons_succ]
  refine wpAnyH_take (i := 8) (v := ?_) rfl (by kernel_rfl) (by kernel_rfl) (by kernel_rfl) (fun _ _ _ h => h) (Or.inl ⟨by rfl, ?_⟩) hHeld ?_
  rotate_left
  · first | (intro w hSw; (try dsimp only at hSw); go_simp; done) | (intro w hSw; (try dsimp only at hSw); go_simp; with_reducible rfl)
  try simp only [Act.put, List.setIfInBounds_toArray, List.set_cons_zero, List.set_cons_succ]
  refine wpAnyH_ready (rs := [9]) (by kernel_rfl) (by simp) ?_
  refine AllReadyH.cons rfl (fun K hK => ?_) AllReadyH.nil
  go_simp
  refine hK.out _ _ (uin3 hI4) (fun hHeld => ?_)
  clear hK K
  try simp only [Act.put, List.setIfInBounds_toArray, List.set_cons_zero, List.set_cons_succ]
  refine wpAnyH_done (by kernel_rfl) ?_ _
  refine NoPanic.normal ?_
  have hI := hHeld.1
  clear hHeld
  generalize hT : u.scheme ++ ⟨#[58]⟩ ++ t1 ++ t2 = t
  have htL : Hid (t.toList = u.scheme.toList ++ [58] ++ aheadX u ++ pathX u) := Lib.hid (by
    rw [← hT, toList_append, toList_append, toList_append, ht1.out, ht2.out, show (ByteArray.mk #[58]).toList = [58] from toList_mk _])
  have htz : t.size ≤ 171798692040 := by
    rw [← size_toList, htL.out]; simp only [List.length_append, size_toList, List.length_cons, List.length_nil]
    have := f1.out; have := hal.out; have := hpx.out; omega
  have q1 : ¬ (9223372036854775807 < t.size + 1 + u.query.size) := by have := f2.out; omega
  have q2 : ¬ (9223372036854775807 < t.size + 1 + u.query.size + 1 + u.frag.size) := by have := f2.out; have := f3.out; omega
  have q3 : ¬ (9223372036854775807 < t.size + 1 + u.frag.size) := by have := f3.out; omega
  have q4 : ¬ (9223372036854775807 < t.size + 1) := by omega
  have q5 : ¬ (9223372036854775807 < t.size + 1 + u.query.size + 1) := by have := f2.out; omega
  have d63 : (ByteArray.mk #[63]).toList = [63] := toList_mk _
  have d35 : (ByteArray.mk #[35]).toList = [35] := toList_mk _
  replace d63 := Lib.hid d63
  replace d35 := Lib.hid d35
  have c19 := (hI.box 19).trans x19
  have c20 := (hI.box 20).trans x20
  have c21 := (hI.box 21).trans x21
  have c22 := (hI.box 22).trans x22
  clear hT ht1 ht2 z1 z2 z3 htz x0 x1 x2 x3 x4 x5 x6 x7 x8 x9 x10 x11 x12 x13 x14 x15 x16 x17 x18 x19 x20 x21 x22
  rcases bool_or u.hasQuery with hq | hq <;> rcases bool_or u.hasFrag with hg | hg <;> rcases bool_or f with hf | hf
  all_goals
    rw [hq] at c19
    rw [hg] at c21
    subst hf
    replace hq := Lib.hid hq
    replace hg := Lib.hid hg
    go_wp2_with fail
    go_ret
    refine retS ?_ hI.below
    rw [hX.out, hq.out, hg.out]
    simp only [toList_append, htL.out, d63.out, d35.out, optB]
    simp
end Go.Proofs.YtdlgpmihjecdlaaDoor
