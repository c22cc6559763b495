/- The contract of the reference of layer 10: Parse. -/
import Derived.Test.YtgkbdcdfpoaifaaDoorSixK
namespace Go.Proofs.YtgkbdcdfpoaifaaDoor
open Go.RowKit
set_option linter.unusedVariables false
set_option linter.unusedSimpArgs false

theorem rowR_at {s : ByteArray} {nb : Bool} {o : Option (List Nat)} (w : World) (hs : s.size ≤ 500000) (h : rowV nb s.toList = o) : Calls Tryd.prog 20 #[.string s, .bool nb] w (RetL w o) := h ▸ rowR_any s nb w hs
/-- Where the first two colons stand, as the loop knows it. -/
def AtD (l : List UInt8) (i : Nat) (z : Int) : Prop := (z = -1 ∧ cutD l = (l.take i ++ (cutD (l.drop i)).1, (cutD (l.drop i)).2.1, (cutD (l.drop i)).2.2)) ∨ (∃ a : Nat, z = (a : Int) ∧ a + 1 < l.length ∧ cutD l = (l.take a, l.drop (a + 2), true))
set_option maxRecDepth 100000 in
set_option maxHeartbeats 8000000 in
theorem parseR10_any (s : ByteArray) (w : World) (hs : s.size ≤ 500000) :
    Calls Tryd.prog 11 #[.string s] w (RetSix w (sixP s.toList)) := by
  have hW0 := RefW.start w
  have hlen := size_toList s
  go_enter Tryd.func11, Tryd.ntmps11
  go_wp2_with fail
  generalize hgw : (w.alloc (.cells zero8 23)).alloc (.cells zero8 23) = wa at hW0
  have hgw2 : (w.alloc (.cells #[.int .u16 0, .int .u16 0, .int .u16 0, .int .u16 0, .int .u16 0, .int .u16 0, .int .u16 0, .int .u16 0] 23)).alloc (.cells #[.int .u16 0, .int .u16 0, .int .u16 0, .int .u16 0, .int .u16 0, .int .u16 0, .int .u16 0, .int .u16 0] 23) = wa := hgw
  rw [hgw2]
  clear hgw hgw2
  go_loop [5, 6] (fun av iv => ∃ (i : Nat) (z : Int), iv = .int .i64 i ∧ av = .int .i64 z ∧ i ≤ s.size ∧ Hid (AtD s.toList i z)) (fun _ iv => s.size + 1 - (intOf iv).toNat)
  case atStart => exact ⟨0, -1, rfl, rfl, Nat.zero_le _, Lib.hid (.inl ⟨rfl, by rw [List.drop_zero, List.take_zero, List.nil_append]⟩)⟩
  case round =>
    obtain ⟨i, z, rfl, rfl, hi, hz⟩ := hrel
    have hcases : (z = -1 ∧ Hid (cutD s.toList = (s.toList.take i ++ (cutD (s.toList.drop i)).1, (cutD (s.toList.drop i)).2.1, (cutD (s.toList.drop i)).2.2))) ∨ (∃ a : Nat, z = (a : Int) ∧ a + 1 < s.size ∧ Hid (cutD s.toList = (s.toList.take a, s.toList.drop (a + 2), true))) := by
      rcases hz.out with ⟨h1, h2⟩ | ⟨a, h1, h2, h3⟩
      · exact .inl ⟨h1, Lib.hid h2⟩
      · exact .inr ⟨a, h1, by rw [hlen] at h2; exact h2, Lib.hid h3⟩
    clear hz
    rcases hcases with ⟨rfl, hcut⟩ | ⟨a, rfl, ha, hcut⟩
    · by_cases hlt : i + 1 < s.size
      · have hltI : (i : Int) + 1 < (s.size : Int) := by omega
        have hdr := Lib.hid (cutD_drop (l := s.toList) (i := i) (by rw [hlen]; exact hlt))
        have g0 : s.toList[i]'(by rw [hlen]; omega) = s[i] := toList_get s i (by omega)
        have g1 : s.toList[i + 1]'(by rw [hlen]; exact hlt) = s[i + 1] := toList_get s (i + 1) hlt
        rw [g0, g1] at hdr
        have hi1 : (i : Int) < (s.size : Int) := by omega
        have hway : (((s[i].toNat : Int) == 58) = true ∧ ((s[i + 1].toNat : Int) == 58) = true ∧ Hid (AtD s.toList (i + 1) (i : Int))) ∨ (((s[i].toNat : Int) == 58) = false ∧ Hid (AtD s.toList (i + 1) (-1))) ∨ (((s[i].toNat : Int) == 58) = true ∧ ((s[i + 1].toNat : Int) == 58) = false ∧ Hid (AtD s.toList (i + 1) (-1))) := by
          have hno : ¬ (s[i] = 58 ∧ s[i + 1] = 58) → Hid (AtD s.toList (i + 1) (-1)) := fun h => Lib.hid (.inl ⟨rfl, by
            rw [hcut.out, hdr.out, if_neg h]
            have e := take_snoc s i (by omega)
            rw [e]; simp⟩)
          by_cases h0 : s[i] = 58
          · by_cases h1 : s[i + 1] = 58
            · refine .inl ⟨by rw [h0]; rfl, by rw [h1]; rfl, Lib.hid (.inr ⟨i, rfl, by rw [hlen]; exact hlt, ?_⟩)⟩
              rw [hcut.out, hdr.out, if_pos ⟨h0, h1⟩]; simp
            · refine .inr (.inr ⟨by rw [h0]; rfl, ?_, hno (fun h => h1 h.2)⟩)
              simp only [beq_eq_false_iff_ne, ne_eq]; intro h; exact h1 (UInt8.toNat_inj.1 (by show s[i + 1].toNat = 58; omega))
          · refine .inr (.inl ⟨?_, hno (fun h => h0 h.1)⟩)
            simp only [beq_eq_false_iff_ne, ne_eq]; intro h; exact h0 (UInt8.toNat_inj.1 (by show s[i].toNat = 58; omega))
        clear g0 g1 hcut hdr
        rcases hway with ⟨q1, q2, hn⟩ | ⟨q1, hn⟩ | ⟨q1, q2, hn⟩
        all_goals
          go_wp2_with fail
          go_round
          case rel => exact ⟨i + 1, _, by go_num, rfl, by omega, hn⟩
          case measure => simp [intOf]; omega
      · have hge : (s.size : Int) ≤ (i : Int) + 1 := by omega
        have hone : Hid (sixP s.toList = match rowV true s.toList with | none => none | some x => if x.length = 8 then some x else none) := Lib.hid (sixP_one (by
          rw [hcut.out]
          dsimp only
          cases hd : s.toList.drop i with
          | nil => rfl
          | cons c r =>
            cases r with
            | nil => rw [cutD_cons, if_neg (fun h => by simp at h)]; rfl
            | cons d r =>
              have := congrArg List.length hd
              rw [List.length_drop, hlen] at this
              simp at this; omega))
        clear hcut hlt
        have hz8 : six0.length = 8 := rfl
        cases hv : rowV true s.toList with
        | none =>
          have hno : Hid (sixP s.toList = none) := Lib.hid (by rw [hone.out, hv])
          have hrow := Lib.hid (rowR_at wa hs hv)
          replace hv := Lib.hid hv
          go_wp2_with fail
          refine hrow.out.mono ?_
          rintro e w3 ⟨⟨v, rfl, -⟩, hb⟩
          have hW := hW0.next hb
          go_wp2_with (first
            | (refine wpList_load_six rfl _ rfl (l := six0) rfl hW.b rfl ?_)
            | (refine wpList_store_whole rfl _ _ rfl (l := six0) rfl (by rfl) hW.a rfl rfl ?_))
          exact hW.done rfl rfl rfl rfl (by rw [hno.out]; rfl) (by rw [hno.out]; rfl)
        | some x =>
          have hrow := Lib.hid (rowR_at wa hs hv)
          have hxlt := rowV_lt hv
          have hq : Hid (sixP s.toList = if x.length = 8 then some x else none) := Lib.hid (by rw [hone.out, hv])
          replace hv := Lib.hid hv
          go_wp2_with fail
          refine hrow.out.mono ?_
          rintro e w3 ⟨⟨v, rfl, hx⟩, hb⟩
          have hox := hx x rfl
          have hW := hW0.next hb
          have h0z := hW0.size
          clear hx hrow hone
          by_cases h8 : x.length = 8
          · have hyes : Hid (sixP s.toList = some x) := Lib.hid (by rw [hq.out, if_pos h8])
            obtain ⟨gp, cpp, o, rfl, hcp, hgp, hblk, hcell⟩ := hox.blk (by omega)
            have hgne : gp ≠ w.heap.size + 1 := by omega
            have h8I : ((x.length : Int) != 8) = false := by rw [h8]; rfl
            have h8J : (8 : Int) ≤ (x.length : Int) := by omega
            have h8N : 8 ≤ x.length := by omega
            have hfin : layN six0 0 x 8 = x := by
              unfold layN
              rw [show List.take 8 x = x from List.take_of_length_le (by omega), show six0.drop (0 + 8) = [] from rfl, List.take_zero, List.append_nil, List.nil_append]
            replace hfin := Lib.hid hfin
            replace h8 := Lib.hid h8
            replace hcell := Lib.hid hcell
            replace hxlt := Lib.hid hxlt
            go_wp2_with fail
            go_loopw [9] (fun iv wr => ∃ i : Nat, iv = .int .i64 i ∧ i ≤ 8 ∧ RefW w wr zero8 (layN six0 0 x i) ∧ Hid (wr.heap[gp]? = some o)) (fun iv _ => 8 - (intOf iv).toNat)
            case atStart => exact ⟨0, rfl, Nat.zero_le _, by rw [layN_zero]; exact hW, Lib.hid hblk⟩
            case round =>
              clear hW hW0 hb hblk
              obtain ⟨i, rfl, hi, hW, hblk⟩ := hrel
              by_cases hlt : i < 8
              · have hltI : (i : Int) < 8 := by omega
                have hc := hcell.out _ hblk.out i (by omega)
                have hxi := hxlt.out x[i] (List.getElem_mem (by omega))
                have hcw : IntKind.u16.wrap ((x[i] : Nat) : Int) = ((x[i] : Nat) : Int) := IntWalk.u16_in _ (by omega)
                have hll : (layN six0 0 x i).length = 8 := layN_len (by omega) (by show 0 + i ≤ 8; omega)
                obtain ⟨⟨u, hcu⟩, hfr⟩ := hW.cell (i := i) (by omega)
                have hiI : (i : Int) < (x.length : Int) := by omega
                have hnext := hW.put i x[i]
                have e := layN_set (Z := six0) (off := 0) (x := x) (i := i) (by omega) (by show 0 + i < 8; omega)
                rw [Nat.zero_add] at e
                rw [e] at hnext
                have hblk2 := Lib.hid ((set_other hgne i (.int .u16 ((x[i] : Nat) : Int)) (w := wr)).trans hblk.out)
                replace hll := Lib.hid hll
                clear e
                go_wp2_with fail
                go_roundw
                case rel => exact ⟨i + 1, by go_num, by omega, hnext, hblk2⟩
                case measure => simp [intOf]; omega
              · obtain rfl : i = 8 := by omega
                rw [hfin.out] at hW
                go_wp2_with (first
                  | (refine wpList_load_six rfl _ rfl (l := x) h8.out hW.b rfl ?_)
                  | (refine wpList_store_whole rfl _ _ rfl (l := x) h8.out (by rfl) hW.a rfl rfl ?_))
                exact hW.done h8.out rfl rfl rfl (by rw [hyes.out]; rfl) (by rw [hyes.out]; rfl)
          · have hno : Hid (sixP s.toList = none) := Lib.hid (by rw [hq.out, if_neg h8])
            obtain ⟨xa, xc, rfl⟩ := hox.form
            have h8I : ((x.length : Int) != 8) = true := by simp only [bne_iff_ne, ne_eq]; omega
            replace h8 := Lib.hid h8
            go_wp2_with (first
              | (refine wpList_load_six rfl _ rfl (l := six0) rfl hW.b rfl ?_)
              | (refine wpList_store_whole rfl _ _ rfl (l := six0) rfl (by rfl) hW.a rfl rfl ?_))
            exact hW.done rfl rfl rfl rfl (by rw [hno.out]; rfl) (by rw [hno.out]; rfl)
    · have hdd := Lib.hid (sixP_dd hcut.out)
      have ea : (s.extract 0 a).toList = s.toList.take a := by rw [toList_extract, List.drop_zero]
      have eb : (s.extract (a + 2) s.size).toList = s.toList.drop (a + 2) := by rw [toList_extract, List.take_of_length_le (by rw [hlen]; exact Nat.le_refl _)]
      rw [← ea, ← eb] at hdd
      have za : (s.extract 0 a).size ≤ 500000 := by rw [← size_toList, ea, List.length_take, hlen]; omega
      have zb : (s.extract (a + 2) s.size).size ≤ 500000 := by rw [← size_toList, eb, List.length_drop, hlen]; omega
      have haI : (a : Int) + 2 ≤ (s.size : Int) := by omega
      have haJ : (a : Int) ≤ (s.size : Int) := by omega
      obtain ⟨sa, hsa⟩ : ∃ q, s.extract 0 a = q := ⟨_, rfl⟩
      obtain ⟨sb, hsb⟩ : ∃ q, s.extract (a + 2) s.size = q := ⟨_, rfl⟩
      rw [hsa] at hdd za
      rw [hsb] at hdd zb
      replace ea := Lib.hid ea
      replace eb := Lib.hid eb
      clear hcut
      have hrowA := Lib.hid (rowR_any sa false wa za)
      have hrowB := Lib.hid (fun w => rowR_any sb true w zb)
      obtain ⟨oa, hoa⟩ : ∃ q, rowV false sa.toList = q := ⟨_, rfl⟩
      obtain ⟨ob, hob⟩ : ∃ q, rowV true sb.toList = q := ⟨_, rfl⟩
      rw [hoa] at hdd hrowA
      rw [hob] at hdd hrowB
      have hA : Hid (∀ v, oa = some v → ∀ n ∈ v, n < 65536) := Lib.hid (fun v h => rowV_lt (hoa.trans h))
      have hBl : Hid (∀ v, ob = some v → ∀ n ∈ v, n < 65536) := Lib.hid (fun v h => rowV_lt (hob.trans h))
      replace hoa := Lib.hid hoa
      replace hob := Lib.hid hob
      have hAl : Hid (∀ v, oa = some v → v.length ≤ 1000010) := Lib.hid (fun v h => by have := rowV_len (hoa.out.trans h); rw [size_toList] at this; omega)
      have hBL : Hid (∀ v, ob = some v → v.length ≤ 1000010) := Lib.hid (fun v h => by have := rowV_len (hob.out.trans h); rw [size_toList] at this; omega)
      have hlen' := Lib.hid hlen
      clear hlen
      have hii : (i : Int) + 1 < (s.size : Int) ∨ (s.size : Int) ≤ (i : Int) + 1 := by omega
      rcases hii with hii | hii
      all_goals
        go_wp2_with fail
        refine hrowA.out.mono ?_
        rintro e w3 ⟨⟨v, rfl, hx⟩, hb⟩
        have hW := hW0.next hb
        have hwa := hW0.size
        have hea := 0
        clear hW0 hb hrowA
        go_wp2_with fail
        refine (hrowB.out _).mono ?_
        rintro e w4 ⟨⟨u, rfl, hy⟩, hb⟩
        have hW2 := hW.next hb
        have hsz3 := hW.size
        have hsz4 := hb.size
        have hbk := hb
        clear hb hW hrowB
        rcases oa with _ | x
        · have hno : Hid (sixP s.toList = none) := Lib.hid (by rw [hdd.out])
          go_wp2_with (first
            | (refine wpList_load_six rfl _ rfl (l := six0) rfl hW2.b rfl ?_)
            | (refine wpList_store_whole rfl _ _ rfl (l := six0) rfl (by rfl) hW2.a rfl rfl ?_))
          exact hW2.done rfl rfl rfl rfl (by rw [hno.out]; rfl) (by rw [hno.out]; rfl)
        rcases ob with _ | y
        · have hno : Hid (sixP s.toList = none) := Lib.hid (by rw [hdd.out])
          go_wp2_with (first
            | (refine wpList_load_six rfl _ rfl (l := six0) rfl hW2.b rfl ?_)
            | (refine wpList_store_whole rfl _ _ rfl (l := six0) rfl (by rfl) hW2.a rfl rfl ?_))
          exact hW2.done rfl rfl rfl rfl (by rw [hno.out]; rfl) (by rw [hno.out]; rfl)
        have hq : Hid (sixP s.toList = if x.length + y.length ≤ 7 then some (x ++ (List.replicate (8 - x.length - y.length) 0 ++ y)) else none) := Lib.hid (by rw [hdd.out])
        have hox := (hx x rfl).below (B := wa.heap.size) (w' := w4) (K := w3.heap.size) (by assumption) (Nat.le_refl _)
        have hoy := hy y rfl
        clear hdd hx hy
        by_cases h7 : x.length + y.length ≤ 7
        · have hyes : Hid (sixP s.toList = some (x ++ (List.replicate (8 - x.length - y.length) 0 ++ y))) := Lib.hid (by rw [hq.out, if_pos h7])
          obtain ⟨k, hk⟩ : ∃ k, y.length + k = 8 := ⟨8 - y.length, by omega⟩
          have hfin := Lib.hid (lay_two hk (show x.length ≤ k by omega))
          have hfl : Hid ((x ++ (List.replicate (8 - x.length - y.length) 0 ++ y)).length = 8) := Lib.hid (by simp; omega)
          obtain ⟨xa, xc, rfl⟩ := hox.form
          obtain ⟨ya, yc, rfl⟩ := hoy.form
          have hX := Lib.hid (fun h => hox.blk2 h)
          have hY := Lib.hid (fun h => hoy.blk2 h)
          have h7I : (x.length : Int) + (y.length : Int) ≤ 7 := by omega
          have hkI : (8 : Int) - (y.length : Int) = (k : Int) := by omega
          have hxk : x.length ≤ 7 := by omega
          have hyk : y.length ≤ 7 := by omega
          have hBB : w.heap.size + 2 ≤ wa.heap.size ∧ w.heap.size + 2 ≤ w3.heap.size := ⟨hwa, hsz3⟩
          obtain ⟨hB1, hB2⟩ := hBB
          have hxlt := Lib.hid (hA.out x rfl)
          have hylt := Lib.hid (hBl.out y rfl)
          have hZ1 : (layN six0 0 x x.length).length = 8 := layN_len (Nat.le_refl _) (by show 0 + x.length ≤ 8; omega)
          replace hZ1 := Lib.hid hZ1
          replace hk := Lib.hid hk
          clear hox hoy hA hBl hAl hBL hq hea
          go_wp2_with fail
          go_loopw [14] (fun iv wr => ∃ i : Nat, iv = .int .i64 i ∧ i ≤ x.length ∧ RefW w wr zero8 (layN six0 0 x i) ∧ Hid (∀ g, g ≠ w.heap.size + 1 → wr.heap[g]? = w4.heap[g]?)) (fun iv _ => x.length - (intOf iv).toNat)
          case atStart => exact ⟨0, rfl, Nat.zero_le _, by rw [layN_zero]; exact hW2, Lib.hid (fun g _ => rfl)⟩
          case round =>
            clear hW2
            obtain ⟨j, rfl, hj, hW, hold⟩ := hrel
            by_cases hlt : j < x.length
            · obtain ⟨gp, o, rfl, hcp, hgp, hblk, hcell⟩ := hX.out (by omega)
              have hltI : (j : Int) < (x.length : Int) := by omega
              have hc := hcell wr ((hold.out gp (by omega)).trans hblk) j hlt
              have hxi := hxlt.out x[j] (List.getElem_mem hlt)
              have hcw : IntKind.u16.wrap ((x[j] : Nat) : Int) = ((x[j] : Nat) : Int) := IntWalk.u16_in _ (by omega)
              have hll : (layN six0 0 x j).length = 8 := layN_len (by omega) (by show 0 + j ≤ 8; omega)
              obtain ⟨⟨u, hcu⟩, hfr⟩ := hW.cell (i := j) (by omega)
              have hj8 : (j : Int) < 8 := by omega
              have hnext := hW.put j x[j]
              have e := layN_set (Z := six0) (off := 0) (x := x) (i := j) hlt (by show 0 + j < 8; omega)
              rw [Nat.zero_add] at e
              rw [e] at hnext
              have hold2 : Hid (∀ g, g ≠ w.heap.size + 1 → (wr.setCell ⟨w.heap.size + 1, j, none⟩ (.int .u16 ((x[j] : Nat) : Int))).heap[g]? = w4.heap[g]?) := Lib.hid (fun g hg => (set_other hg j _).trans (hold.out g hg))
              replace hll := Lib.hid hll
              replace hcell := Lib.hid hcell
              replace hblk := Lib.hid hblk
              clear e
              go_wp2_with fail
              go_roundw
              case rel => exact ⟨j + 1, by go_num, by omega, hnext, hold2⟩
              case measure => simp [intOf]; omega
            · obtain rfl : j = x.length := by omega
              clear hlt
              go_wp2_with fail
              go_loopw [15] (fun iv wx => ∃ i : Nat, iv = .int .i64 i ∧ i ≤ y.length ∧ RefW w wx zero8 (layN (layN six0 0 x x.length) k y i) ∧ Hid (∀ g, g ≠ w.heap.size + 1 → wx.heap[g]? = w4.heap[g]?)) (fun iv _ => y.length - (intOf iv).toNat)
              case atStart => exact ⟨0, rfl, Nat.zero_le _, by rw [layN_zero]; exact hW, hold⟩
              case round =>
                clear hW hold
                obtain ⟨j, rfl, hj, hW, hold⟩ := hrel
                by_cases hlt : j < y.length
                · obtain ⟨gp, o, rfl, hcp, hgp, hblk, hcell⟩ := hY.out (by omega)
                  have hltI : (j : Int) < (y.length : Int) := by omega
                  have hc := hcell wr ((hold.out gp (by omega)).trans hblk) j hlt
                  have hxi := hylt.out y[j] (List.getElem_mem hlt)
                  have hcw : IntKind.u16.wrap ((y[j] : Nat) : Int) = ((y[j] : Nat) : Int) := IntWalk.u16_in _ (by omega)
                  have hkj : k + j < 8 := by have := hk.out; omega
                  have hll : (layN (layN six0 0 x x.length) k y j).length = 8 := (layN_len (by omega) (by rw [hZ1.out]; omega)).trans hZ1.out
                  obtain ⟨⟨u, hcu⟩, hfr⟩ := hW.cell (i := k + j) (by omega)
                  have hkj8 : (k : Int) + (j : Int) < 8 := by omega
                  have hnext := hW.put (k + j) y[j]
                  have e := layN_set (Z := layN six0 0 x x.length) (off := k) (x := y) (i := j) hlt (by rw [hZ1.out]; exact hkj)
                  rw [e] at hnext
                  have hold2 : Hid (∀ g, g ≠ w.heap.size + 1 → (wr.setCell ⟨w.heap.size + 1, k + j, none⟩ (.int .u16 ((y[j] : Nat) : Int))).heap[g]? = w4.heap[g]?) := Lib.hid (fun g hg => (set_other hg (k + j) _).trans (hold.out g hg))
                  replace hll := Lib.hid hll
                  replace hcell := Lib.hid hcell
                  replace hblk := Lib.hid hblk
                  clear e
                  go_wp2_with fail
                  go_roundw
                  case rel => exact ⟨j + 1, by go_num, by omega, hnext, hold2⟩
                  case measure => simp [intOf]; omega
                · obtain rfl : j = y.length := by omega
                  rw [hfin.out] at hW
                  go_wp2_with (first
                    | (refine wpList_load_six rfl _ rfl (l := x ++ (List.replicate (8 - x.length - y.length) 0 ++ y)) hfl.out hW.b rfl ?_)
                    | (refine wpList_store_whole rfl _ _ rfl (l := x ++ (List.replicate (8 - x.length - y.length) 0 ++ y)) hfl.out (by rfl) hW.a rfl rfl ?_))
                  exact hW.done hfl.out rfl rfl rfl (by rw [hyes.out]; rfl) (by rw [hyes.out]; rfl)
        · have hno : Hid (sixP s.toList = none) := Lib.hid (by rw [hq.out, if_neg h7])
          obtain ⟨xa, xc, rfl⟩ := hox.form
          obtain ⟨ya, yc, rfl⟩ := hoy.form
          have h7I : (7 : Int) < (x.length : Int) + (y.length : Int) := by omega
          have hxm : (x.length : Int) ≤ 100000000 := by have := hAl.out x rfl; omega
          have hym : (y.length : Int) ≤ 100000000 := by have := hBL.out y rfl; omega
          go_wp2_with (first
            | (refine wpList_load_six rfl _ rfl (l := six0) rfl hW2.b rfl ?_)
            | (refine wpList_store_whole rfl _ _ rfl (l := six0) rfl (by rfl) hW2.a rfl rfl ?_))
          exact hW2.done rfl rfl rfl rfl (by rw [hno.out]; rfl) (by rw [hno.out]; rfl)
end Go.Proofs.YtgkbdcdfpoaifaaDoor
