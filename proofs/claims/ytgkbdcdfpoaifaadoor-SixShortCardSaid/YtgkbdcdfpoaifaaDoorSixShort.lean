/- The walk of SixShort. -/
import Derived.Test.YtgkbdcdfpoaifaaDoorSixShortP
import Derived.Test.YtgkbdcdfpoaifaaDoorSixF
import Derived.Test.YtgkbdcdfpoaifaaDoorSixBack
namespace Go.Proofs.YtgkbdcdfpoaifaaDoor
open Go.RowKit
set_option linter.unusedVariables false
set_option linter.unusedSimpArgs false

theorem twiceB_snoc (x y : Bool) : ∀ l : List Bool, twiceB (l ++ [x, y]) = (twiceB (l ++ [x]) || (x && y))
  | [] => by simp [twiceB]
  | [a] => by simp [twiceB]
  | a :: b :: r => by
    have ih := twiceB_snoc x y (b :: r)
    rw [List.cons_append, List.cons_append] at ih
    rw [List.cons_append, List.cons_append, twiceB, ih, List.cons_append, List.cons_append, twiceB, Bool.or_assoc]
theorem take_snoc10 {l : List Nat} (i : Nat) (h : i < l.length) : l.take (i + 1) = l.take i ++ [pc l i] := by
  unfold pc
  rw [List.take_succ_eq_append_getElem h]; simp [List.getD, h]
theorem twice_step {a : List Nat} (j : Nat) (h : j + 1 < a.length) : twiceB ((a.take (j + 2)).map isZ) = (twiceB ((a.take (j + 1)).map isZ) || (isZ (pc a j) && isZ (pc a (j + 1)))) := by
  rw [take_snoc10 (j + 1) h, take_snoc10 j (by omega), List.append_assoc, List.map_append]
  show twiceB (_ ++ [isZ (pc a j), isZ (pc a (j + 1))]) = _
  rw [twiceB_snoc, List.map_append]; rfl
theorem okGo_cons (p : Bool) (c d : UInt8) (r : List UInt8) : okGo p (c :: d :: r) = (!(decide (c = 48) && p && decide (d ≠ 58)) && okGo (decide (c = 58)) (d :: r)) := rfl
theorem u8i {c : UInt8} {n : Nat} (hn : n < 256) : (c = UInt8.ofNat n → ((c.toNat : Int) == (n : Int)) = true ∧ ((c.toNat : Int) != (n : Int)) = false) ∧ (c ≠ UInt8.ofNat n → ((c.toNat : Int) == (n : Int)) = false ∧ ((c.toNat : Int) != (n : Int)) = true) := by
  constructor
  · rintro rfl
    rw [UInt8.toNat_ofNat_of_lt' hn]; simp
  · intro h
    have : ¬ (c.toNat : Int) = (n : Int) := fun e => h (by rw [← UInt8.toNat_inj, UInt8.toNat_ofNat_of_lt' hn]; omega)
    simp [this]
set_option maxRecDepth 100000 in
set_option maxHeartbeats 8000000 in
theorem sixShort_walk (a : List Nat) (w : World) (ha : Six a) (ht : Tabs w) (hm : ML w) : Calls Tryd.prog 4 #[.agg (sixCells a)] w (RetB w true) := by
  have hB : Below w.heap.size w (w.alloc (.cells (sixCells a) 23)) := (Below.refl _ _).alloc (Nat.le_refl _) _
  have k0 := Lib.hid (heap_alloc_new w (.cells (sixCells a) 23))
  have ha8 := Lib.hid ha.len
  go_enter Tryd.func4, Tryd.ntmps4
  go_wp2_with fail
  refine (small10_any _ (hm.next hB) (ht.next hB)).mono ?_
  rintro e w1 ⟨rfl, hb⟩
  replace hB := hB.next hb
  replace k0 := Lib.hid (row_keep k0.out hb)
  clear hb
  go_wp2_with (refine wpList_load_six rfl _ rfl (l := a) ha8.out k0.out rfl ?_)
  refine (sixWrite_any a ha _ (ht.next hB)).mono ?_
  rintro e w2 ⟨s, rfl, hs, hb⟩
  replace hB := hB.next hb
  replace k0 := Lib.hid (row_keep k0.out hb)
  clear hb
  have hcell : Hid (∀ i, i < 8 → w2.cell? ⟨w.heap.size, i, none⟩ = some (.int .u16 ((pc a i : Nat) : Int))) := Lib.hid (fun i hi => (cell_of_row _ _ i _ _ _ k0.out).trans (ha.at i hi).2)
  go_wp2_with fail
  go_loop [5, 6] (fun tv iv => ∃ (j : Nat) (tw : Bool), iv = .int .i64 ((j : Int) + 1) ∧ tv = .bool tw ∧ j ≤ 7 ∧ Hid (tw = twiceB ((a.take (j + 1)).map isZ))) (fun _ iv => 8 - (intOf iv).toNat)
  case atStart => exact ⟨0, false, rfl, rfl, by decide, Lib.hid (by rw [take_snoc10 0 (by rw [ha8.out]; decide)]; rfl)⟩
  case round =>
    obtain ⟨j, tw, rfl, rfl, hj, htw⟩ := hrel
    by_cases hlt : j < 7
    · have hjI : (j : Int) + 1 < 8 := by omega
      have hst := Lib.hid (twice_step (a := a) j (by rw [ha8.out]; omega))
      cases tw
      · have c0 := hcell.out j (by omega)
        have c1 := hcell.out (j + 1) (by omega)
        have hnew : Hid (twiceB ((a.take (j + 2)).map isZ) = (isZ (pc a j) && isZ (pc a (j + 1)))) := Lib.hid (by rw [hst.out, ← htw.out]; rfl)
        obtain ⟨x, hx⟩ : ∃ x, pc a j = x := ⟨_, rfl⟩
        obtain ⟨y, hy⟩ : ∃ y, pc a (j + 1) = y := ⟨_, rfl⟩
        rw [hx] at c0 hnew
        rw [hy] at c1 hnew
        replace hx := Lib.hid hx
        replace hy := Lib.hid hy
        have hway : (((x : Int) == 0) = false ∧ Hid (isZ x = false)) ∨ (((x : Int) == 0) = true ∧ Hid (isZ x = true) ∧ ((y : Int) == 0) = false ∧ Hid (isZ y = false)) ∨ (((x : Int) == 0) = true ∧ Hid (isZ x = true) ∧ ((y : Int) == 0) = true ∧ Hid (isZ y = true)) := by
          by_cases hx0 : x = 0
          · by_cases hy0 : y = 0
            · exact .inr (.inr ⟨by simp [hx0], Lib.hid (by simp [isZ, hx0]), by simp [hy0], Lib.hid (by simp [isZ, hy0])⟩)
            · exact .inr (.inl ⟨by simp [hx0], Lib.hid (by simp [isZ, hx0]), beq_eq_false_iff_ne.2 (by omega), Lib.hid (by simp [isZ, hy0])⟩)
          · exact .inl ⟨beq_eq_false_iff_ne.2 (by omega), Lib.hid (by simp [isZ, hx0])⟩
        rcases hway with ⟨g1, g2⟩ | ⟨g1, g2, g3, g4⟩ | ⟨g1, g2, g3, g4⟩
        · go_wp2_with fail
          go_round
          case rel => exact ⟨j + 1, false, by go_num, rfl, by omega, Lib.hid (by rw [hnew.out, g2.out]; rfl)⟩
          case measure => simp [intOf]; omega
        · go_wp2_with fail
          go_round
          case rel => exact ⟨j + 1, false, by go_num, rfl, by omega, Lib.hid (by rw [hnew.out, g2.out, g4.out]; rfl)⟩
          case measure => simp [intOf]; omega
        · go_wp2_with fail
          go_round
          case rel => exact ⟨j + 1, true, by go_num, rfl, by omega, Lib.hid (by rw [hnew.out, g2.out, g4.out]; rfl)⟩
          case measure => simp [intOf]; omega
      · go_wp2_with fail
        go_round
        case rel => exact ⟨j + 1, true, by go_num, rfl, by omega, Lib.hid (by rw [hst.out, ← htw.out]; rfl)⟩
        case measure => simp [intOf]; omega
    · have hjI : (8 : Int) ≤ (j : Int) + 1 := by omega
      have hfin : Hid (folds s.toList = if tw = true then 1 else 0) := Lib.hid (by
        obtain rfl : j = 7 := by omega
        rw [hs.out, sixL_folds ha]
        have := htw.out
        rw [List.take_of_length_le (by rw [ha8.out]; decide)] at this
        rw [← this])
      have hok : Hid (okGo true s.toList = true) := Lib.hid (by rw [hs.out]; exact sixL_ok ha)
      have hsz : s.size ≤ 1000000 := by rw [← size_toList, hs.out]; have := sixL_len ha; omega
      clear hlt htw
      go_wp2_with fail
      clear hcell hs k0
      go_loop [7, 8] (fun fv iv => ∃ (j n : Nat) (z : Int) (p : Bool), iv = .int .i64 z ∧ fv = .int .i64 (n : Int) ∧ Hid (z = (j : Int) + 1) ∧ n ≤ j ∧ j ≤ s.size ∧ Hid ((j = 0 ∧ p = true) ∨ (∃ h : j - 1 < s.size, 0 < j ∧ p = decide (s[j - 1] = 58))) ∧ Hid (n + folds (s.toList.drop j) = folds s.toList) ∧ Hid (okGo p (s.toList.drop j) = true)) (fun _ iv => s.size + 1 - (intOf iv).toNat)
      case atStart => exact ⟨0, 0, 1, true, rfl, rfl, Lib.hid rfl, Nat.le_refl _, Nat.zero_le _, Lib.hid (.inl ⟨rfl, rfl⟩), Lib.hid (by rw [List.drop_zero, Nat.zero_add]), Lib.hid (by rw [List.drop_zero]; exact hok.out)⟩
      case round =>
        obtain ⟨j, n, z, p, rfl, rfl, hz, hn, hj, hp, hf, ho⟩ := hrel
        by_cases hlt : j + 1 < s.size
        · have hd0 := drop_cons s j (by omega)
          have hd1 := drop_cons s (j + 1) hlt
          obtain ⟨c, hc⟩ : ∃ c, s[j] = c := ⟨_, rfl⟩
          obtain ⟨d, hd⟩ : ∃ d, s[j + 1] = d := ⟨_, rfl⟩
          have hnf : Hid (folds (s.toList.drop j) = (if c = 58 ∧ d = 58 then 1 else 0) + folds (s.toList.drop (j + 1))) := Lib.hid (by rw [hd0, hd1, hc, hd, folds])
          have hno : Hid ((!(decide (c = 48) && p && decide (d ≠ 58))) = true ∧ okGo (decide (c = 58)) (s.toList.drop (j + 1)) = true) := Lib.hid (by
            have := ho.out
            rw [hd0, hd1, hc, hd, okGo_cons, Bool.and_eq_true] at this
            exact ⟨this.1, by rw [hd1, hd]; exact this.2⟩)
          have hpn : Hid ((j + 1 = 0 ∧ decide (c = 58) = true) ∨ (∃ h : j + 1 - 1 < s.size, 0 < j + 1 ∧ decide (c = 58) = decide (s[j + 1 - 1] = 58))) := Lib.hid (.inr ⟨by omega, by omega, by simp only [Nat.add_sub_cancel]; rw [hc]⟩)
          have hfn : Hid ((n + (if c = 58 ∧ d = 58 then 1 else 0)) + folds (s.toList.drop (j + 1)) = folds s.toList) := Lib.hid (by rw [← hf.out, hnf.out]; omega)
          have hok2 := Lib.hid hno.out.2
          have hno2 := Lib.hid hno.out.1
          clear hd0 hd1 hf ho hnf hno
          have qc : ((c = 58 ∧ d = 58) ∧ ((c.toNat : Int) == 58) = true ∧ ((d.toNat : Int) == 58) = true ∧ ((c.toNat : Int) == 48) = false) ∨ ((c = 58 ∧ d ≠ 58) ∧ ((c.toNat : Int) == 58) = true ∧ ((d.toNat : Int) == 58) = false ∧ ((c.toNat : Int) == 48) = false) ∨
              ((c ≠ 58 ∧ c ≠ 48) ∧ ((c.toNat : Int) == 58) = false ∧ ((c.toNat : Int) == 48) = false) ∨ ((c = 48 ∧ c ≠ 58 ∧ d = 58) ∧ ((c.toNat : Int) == 58) = false ∧ ((c.toNat : Int) == 48) = true ∧ ((d.toNat : Int) != 58) = false) ∨ ((c = 48 ∧ c ≠ 58 ∧ p = false) ∧ ((c.toNat : Int) == 58) = false ∧ ((c.toNat : Int) == 48) = true) := by
            by_cases h58 : c = 58
            · by_cases hd58 : d = 58
              · exact .inl ⟨⟨h58, hd58⟩, ((u8i (by decide)).1 h58).1, ((u8i (by decide)).1 hd58).1, ((u8i (n := 48) (by decide)).2 (by rw [h58]; decide)).1⟩
              · exact .inr (.inl ⟨⟨h58, hd58⟩, ((u8i (by decide)).1 h58).1, ((u8i (by decide)).2 hd58).1, ((u8i (n := 48) (by decide)).2 (by rw [h58]; decide)).1⟩)
            · by_cases h48 : c = 48
              · by_cases hd58 : d = 58
                · exact .inr (.inr (.inr (.inl ⟨⟨h48, h58, hd58⟩, ((u8i (by decide)).2 h58).1, ((u8i (by decide)).1 h48).1, ((u8i (by decide)).1 hd58).2⟩)))
                · refine .inr (.inr (.inr (.inr ⟨⟨h48, h58, ?_⟩, ((u8i (by decide)).2 h58).1, ((u8i (by decide)).1 h48).1⟩)))
                  have := hno2.out
                  rw [decide_eq_true h48, decide_eq_true hd58] at this
                  cases p
                  · rfl
                  · cases this
              · exact .inr (.inr (.inl ⟨⟨h58, h48⟩, ((u8i (by decide)).2 h58).1, ((u8i (by decide)).2 h48).1⟩))
          have hj0 : j = 0 ∨ ∃ k, j = k + 1 := by
            cases j with
            | zero => exact .inl rfl
            | succ k => exact .inr ⟨k, rfl⟩
          rcases hj0 with rfl | ⟨k, rfl⟩
          · obtain rfl : z = 1 := by have := hz.out; omega
            have hp1 : p = true := by
              rcases hp.out with ⟨_, h⟩ | ⟨_, h, _⟩
              · exact h
              · omega
            subst hp1
            have hszI : (1 : Int) < (s.size : Int) := by omega
            have hc' : s[0] = c := hc
            have hd' : s[1] = d := hd
            clear hp hz
            rcases qc with ⟨⟨q0, q00⟩, q1, q2, q3⟩ | ⟨⟨q0, q00⟩, q1, q2, q3⟩ | ⟨⟨q0, q00⟩, q1, q3⟩ | ⟨⟨q0, q00, q000⟩, q1, q3, q2⟩ | ⟨⟨q0, q00, q000⟩, q1, q3⟩
            · rw [if_pos ⟨q0, q00⟩] at hfn
              rw [← hc'] at q1 q3
              rw [← hd'] at q2
              clear q0 q00 hc hd hno2
              replace hc' := Lib.hid hc'
              replace hd' := Lib.hid hd'
              go_wp2_with fail
              go_round
              case rel => exact ⟨1, n + 1, 2, _, rfl, by go_num, Lib.hid rfl, by omega, by omega, hpn, hfn, hok2⟩
              case measure => simp [intOf]; omega
            · rw [if_neg (fun h => q00 h.2), Nat.add_zero] at hfn
              rw [← hc'] at q1 q3
              rw [← hd'] at q2
              clear q0 q00 hc hd hno2
              replace hc' := Lib.hid hc'
              replace hd' := Lib.hid hd'
              go_wp2_with fail
              go_round
              case rel => exact ⟨1, n, 2, _, rfl, rfl, Lib.hid rfl, by omega, by omega, hpn, hfn, hok2⟩
              case measure => simp [intOf]; omega
            · rw [if_neg (fun h => q0 h.1), Nat.add_zero] at hfn
              rw [← hc'] at q1 q3
              clear q0 q00 hc hd hno2
              replace hc' := Lib.hid hc'
              replace hd' := Lib.hid hd'
              go_wp2_with fail
              go_round
              case rel => exact ⟨1, n, 2, _, rfl, rfl, Lib.hid rfl, by omega, by omega, hpn, hfn, hok2⟩
              case measure => simp [intOf]; omega
            · rw [if_neg (fun h => q00 h.1), Nat.add_zero] at hfn
              rw [← hc'] at q1 q3
              rw [← hd'] at q2
              clear q0 q00 q000 hc hd hno2
              replace hc' := Lib.hid hc'
              replace hd' := Lib.hid hd'
              go_wp2_with fail
              go_round
              case rel => exact ⟨1, n, 2, _, rfl, rfl, Lib.hid rfl, by omega, by omega, hpn, hfn, hok2⟩
              case measure => simp [intOf]; omega
            · cases q000
          · obtain rfl : z = (k : Int) + 2 := by have := hz.out; omega
            have hszI : (k : Int) + 2 < (s.size : Int) := by omega
            have hszJ : (k : Int) + 1 < (s.size : Int) := by omega
            have hszK : (k : Int) < (s.size : Int) := by omega
            have hk0 : k < s.size := by omega
            have hk1 : k + 1 < s.size := by omega
            have hk2 : k + 2 < s.size := by omega
            have hc' : s[k + 1] = c := hc
            have hd' : s[k + 2] = d := hd
            have hpf : p = decide (s[k] = 58) := by
              rcases hp.out with ⟨h, _⟩ | ⟨_, _, h⟩
              · omega
              · exact h
            have hpv : (((s[k].toNat : Int) == 58) = true ∧ p = true) ∨ (((s[k].toNat : Int) == 58) = false ∧ p = false) := by
              by_cases h : s[k] = 58
              · exact .inl ⟨((u8i (by decide)).1 h).1, by rw [hpf, decide_eq_true h]⟩
              · exact .inr ⟨((u8i (by decide)).2 h).1, by rw [hpf, decide_eq_false h]⟩
            have hkI1 : ((k : Int) + 2 == 1) = false := beq_eq_false_iff_ne.2 (by omega)
            clear hp hz hpf
            rcases qc with ⟨⟨q0, q00⟩, q1, q2, q3⟩ | ⟨⟨q0, q00⟩, q1, q2, q3⟩ | ⟨⟨q0, q00⟩, q1, q3⟩ | ⟨⟨q0, q00, q000⟩, q1, q3, q2⟩ | ⟨⟨q0, q00, q000⟩, q1, q3⟩
            · rw [if_pos ⟨q0, q00⟩] at hfn
              rw [← hc'] at q1 q3
              rw [← hd'] at q2
              clear q0 q00 hc hd hno2
              replace hc' := Lib.hid hc'
              replace hd' := Lib.hid hd'
              rcases hpv with ⟨r1, rfl⟩ | ⟨r1, rfl⟩
              all_goals
                go_wp2_with fail
                go_round
                case rel => exact ⟨k + 2, n + 1, (k : Int) + 3, _, by go_num, by go_num, Lib.hid (by omega), by omega, by omega, hpn, hfn, hok2⟩
                case measure => simp [intOf]; omega
            · rw [if_neg (fun h => q00 h.2), Nat.add_zero] at hfn
              rw [← hc'] at q1 q3
              rw [← hd'] at q2
              clear q0 q00 hc hd hno2
              replace hc' := Lib.hid hc'
              replace hd' := Lib.hid hd'
              rcases hpv with ⟨r1, rfl⟩ | ⟨r1, rfl⟩
              all_goals
                go_wp2_with fail
                go_round
                case rel => exact ⟨k + 2, n, (k : Int) + 3, _, by go_num, rfl, Lib.hid (by omega), by omega, by omega, hpn, hfn, hok2⟩
                case measure => simp [intOf]; omega
            · rw [if_neg (fun h => q0 h.1), Nat.add_zero] at hfn
              rw [← hc'] at q1 q3
              clear q0 q00 hc hd hno2
              replace hc' := Lib.hid hc'
              replace hd' := Lib.hid hd'
              rcases hpv with ⟨r1, rfl⟩ | ⟨r1, rfl⟩
              all_goals
                go_wp2_with fail
                go_round
                case rel => exact ⟨k + 2, n, (k : Int) + 3, _, by go_num, rfl, Lib.hid (by omega), by omega, by omega, hpn, hfn, hok2⟩
                case measure => simp [intOf]; omega
            · rw [if_neg (fun h => q00 h.1), Nat.add_zero] at hfn
              rw [← hc'] at q1 q3
              rw [← hd'] at q2
              clear q0 q00 q000 hc hd hno2
              replace hc' := Lib.hid hc'
              replace hd' := Lib.hid hd'
              rcases hpv with ⟨r1, rfl⟩ | ⟨r1, rfl⟩
              all_goals
                go_wp2_with fail
                go_round
                case rel => exact ⟨k + 2, n, (k : Int) + 3, _, by go_num, rfl, Lib.hid (by omega), by omega, by omega, hpn, hfn, hok2⟩
                case measure => simp [intOf]; omega
            · rw [if_neg (fun h => q00 h.1), Nat.add_zero] at hfn
              rw [← hc'] at q1 q3
              subst q000
              have r1 : ((s[k].toNat : Int) == 58) = false := by
                rcases hpv with ⟨_, h⟩ | ⟨h, _⟩
                · cases h
                · exact h
              clear q0 q00 hc hd hno2 hpv
              replace hc' := Lib.hid hc'
              replace hd' := Lib.hid hd'
              go_wp2_with fail
              go_round
              case rel => exact ⟨k + 2, n, (k : Int) + 3, _, by go_num, rfl, Lib.hid (by omega), by omega, by omega, hpn, hfn, hok2⟩
              case measure => simp [intOf]; omega
        · have hfe : Hid (n = if tw = true then 1 else 0) := Lib.hid (by
            have h1 := hf.out
            rw [hfin.out] at h1
            have h2 : folds (s.toList.drop j) = 0 := by
              cases hq : s.toList.drop j with
              | nil => rfl
              | cons x r =>
                cases r with
                | nil => rfl
                | cons y r =>
                  have := congrArg List.length hq
                  rw [List.length_drop, size_toList] at this
                  simp at this; omega
            omega)
          have hge : (s.size : Int) ≤ z := by have := hz.out; omega
          clear hf ho hlt hfin
          cases tw
          · have n0 : ((n : Int) == 1) = false := by have := hfe.out; rw [this]; rfl
            have n1 : (n : Int) ≤ 1 := by have := hfe.out; rw [if_neg (by decide)] at this; omega
            go_wp2_with fail
            go_ret
            exact ⟨rfl, hB⟩
          · have n0 : ((n : Int) == 1) = true := by have := hfe.out; rw [this]; rfl
            have n1 : (n : Int) ≤ 1 := by have := hfe.out; rw [if_pos rfl] at this; omega
            go_wp2_with fail
            go_ret
            exact ⟨rfl, hB⟩
end Go.Proofs.YtgkbdcdfpoaifaaDoor
