/- The contract of the reference of layer 10: row. -/
import Derived.Test.YtgkbdcdfpoaifaaDoorSixI
namespace Go.Proofs.YtgkbdcdfpoaifaaDoor
open Go.RowKit
set_option linter.unusedVariables false
set_option linter.unusedSimpArgs false

theorem pieceV_46 {t : List UInt8} (h : t.contains 46 = true) : pieceV t = none := by
  have hd : ∀ (l : List UInt8) acc, 46 ∈ l → digsGo 16 acc l = none := by
    intro l
    induction l with
    | nil => intro acc h; cases h
    | cons c r ih =>
      intro acc h
      rw [digsGo]
      split
      · rfl
      · rcases List.mem_cons.1 h with h | h
        · rename_i h2; rw [← h] at h2; exact absurd (by decide) h2
        · exact ih _ h
  unfold pieceV digs1
  split
  · rfl
  · split
    · rfl
    · exact hd _ _ (List.contains_iff_mem.1 h)
theorem fourV_no {t : List UInt8} (h : t.contains 46 = false) : fourV t = none := by
  have hn : ∀ c ∈ t, c ≠ 46 := by
    rintro c hc rfl
    rw [List.contains_iff_mem.2 hc] at h; cases h
  unfold fourV
  rw [fourGo, cutC_hasnot t hn]; rfl
theorem pieceL_eq (last nb : Bool) (t : List UInt8) : pieceL last nb t = match pieceV t with | some n => some [n] | none => if last = true ∧ nb = true then numbersV t else none := by
  rw [numbers_four]
  unfold pieceL
  cases hc : t.contains 46
  · rw [if_neg (by rintro ⟨_, _, h⟩; cases h), fourV_no hc]
    cases pieceV t with
    | none => by_cases h : last = true ∧ nb = true <;> simp
    | some n => rfl
  · rw [pieceV_46 hc]
    dsimp only
    by_cases h : last = true ∧ nb = true
    · rw [if_pos ⟨h.1, h.2, rfl⟩, if_pos h]
    · rw [if_neg (fun x => h ⟨x.1, x.2.1⟩), if_neg h]; rfl
theorem rowS_at (nb : Bool) {ts : List (List UInt8)} {k : Nat} (h : k < ts.length) : rowS nb (ts.drop k) = match pieceL (decide (k + 1 = ts.length)) nb ts[k] with | none => none | some x => (rowS nb (ts.drop (k + 1))).map (x ++ ·) := by
  rw [List.drop_eq_getElem_cons h]
  by_cases he : k + 1 = ts.length
  · rw [List.drop_of_length_le (show ts.length ≤ k + 1 by omega), show rowS nb [ts[k]] = pieceL true nb ts[k] from rfl, show rowS nb [] = some [] from rfl, decide_eq_true he]
    cases pieceL true nb ts[k] with
    | none => rfl
    | some x => simp
  · obtain ⟨u, r, hu⟩ : ∃ u r, ts.drop (k + 1) = u :: r := by
      cases hd : ts.drop (k + 1) with
      | nil => rw [List.drop_eq_nil_iff] at hd; omega
      | cons u r => exact ⟨u, r, rfl⟩
    rw [hu, rowS, decide_eq_false he]
    rfl
set_option maxRecDepth 100000 in
set_option maxHeartbeats 4000000 in
theorem rowR_any (s : ByteArray) (nb : Bool) (w : World) (hs : s.size ≤ 500000) :
    Calls Tryd.prog 20 #[.string s, .bool nb] w (RetL w (rowV nb s.toList)) := by
  have hB0 : Below w.heap.size w w := Below.refl _ _
  have hlen := size_toList s
  cases hem : s.toList.isEmpty
  · have hne : s.toList ≠ [] := by intro h; rw [h] at hem; cases hem
    have hV0 : Hid (rowV nb s.toList = rowS nb (splitC 58 s.toList)) := Lib.hid (by rw [rowV_split, if_neg hne])
    have hct2 : Hid (∀ w, Calls Tryd.prog 28 #[.string s, .int .u8 58] w (RetW w 9 (splitC 58 s.toList))) := Lib.hid (fun w => cutR_any s 58 w (by omega))
    replace hlen := Lib.hid hlen
    clear hne
    go_enter Tryd.func20, Tryd.ntmps20
    go_wp2_with fail
    refine (hct2.out _).mono ?_
    rintro e w1 ⟨v, l, rfl, hl, hown, hbel⟩
    obtain ⟨hln, hl0⟩ := splitC_pieces_len 58 s hl.out
    obtain ⟨g, cp, rfl, hcp, hg, hcell⟩ := hown.front10 hl0
    have hgB : w.heap.size ≤ w1.heap.size := hbel.size
    have hpz : Hid (∀ t ∈ l, t.size ≤ 500000) := Lib.hid (fun t ht => by
      have h1 : t.toList ∈ splitC 58 s.toList := by rw [← hl.out]; exact List.mem_map.2 ⟨t, ht, rfl⟩
      have h2 := splitC_piece_le 58 _ _ h1
      rw [size_toList, size_toList] at h2
      omega)
    replace hcell := Lib.hid hcell
    replace hown := Lib.hid hown
    clear hct2
    have hV : Hid (rowV nb s.toList = rowS nb (l.map (·.toList))) := Lib.hid (by rw [hV0.out, hl.out])
    replace hl := Lib.hid hl
    clear hV0
    go_wp2_with fail
    go_loopw [7, 8] (fun v i wr => ∃ (k : Nat) (P : List Nat), i = .int .i64 k ∧ k ≤ l.length ∧ P.length ≤ 2 * k ∧ Hid (rowV nb s.toList = (rowS nb ((l.map (·.toList)).drop k)).map (P ++ ·)) ∧ OwnI wr w1.heap.size v P ∧ Below w1.heap.size w1 wr) (fun _ i _ => l.length - (intOf i).toNat)
    case atStart => exact ⟨0, [], rfl, Nat.zero_le _, Nat.zero_le _, Lib.hid (by rw [hV.out, List.drop_zero]; cases rowS nb (l.map (·.toList)) <;> rfl), OwnI.nil _ _, Below.refl _ _⟩
    case round =>
      clear hB0
      obtain ⟨k, P, rfl, hk, hP, hA, hoi, hb1⟩ := hrel
      have hsz := hb1.size
      have hbelA : Below w.heap.size w wr := hbel.next hb1
      by_cases hlt : k < l.length
      · have hltI : (k : Int) < (l.length : Int) := by omega
        have hc := (hb1.cell (p := ⟨g, k, none⟩) hg).trans (hcell.out k hlt)
        have hst := Lib.hid (rowS_at nb (ts := l.map (·.toList)) (k := k) (by rw [List.length_map]; exact hlt))
        have egk : (l.map (·.toList))[k]'(by rw [List.length_map]; exact hlt) = l[k].toList := by simp
        rw [egk, List.length_map] at hst
        replace egk := Lib.hid egk
        have hkz : l[k].size ≤ 500000 := hpz.out l[k] (List.getElem_mem hlt)
        have hpr := Lib.hid (fun w => pieceR_any l[k] w (by omega))
        have hnr := Lib.hid (fun w => numbersR_any l[k] w hkz)
        have hPI : P.length ≤ 2000000 := by omega
        have hpe := Lib.hid (pieceL_eq (decide (k + 1 = l.length)) nb l[k].toList)
        cases hv : pieceV l[k].toList with
        | some n =>
          have hnew : Hid (rowV nb s.toList = (rowS nb ((l.map (·.toList)).drop (k + 1))).map ((P ++ [n]) ++ ·)) := Lib.hid (by
            rw [hA.out, hst.out, hpe.out, hv]; dsimp only
            cases rowS nb ((l.map (·.toList)).drop (k + 1)) with
            | none => rfl
            | some y => simp)
          rw [hv] at hpr
          replace hv := Lib.hid hv
          go_wp2_with fail
          refine (hpr.out _).mono ?_
          rintro e w3 ⟨⟨n', rfl, hn⟩, rfl⟩
          obtain rfl := hn n rfl
          clear hn hA hst
          go_wp2_with (at_builtin; refine wpList_pushI rfl _ _ rfl [n'] rfl rfl hoi hb1 hsz hPI (by show 1 ≤ 8; decide) ?_; intro a' c' w4 ho4 hb4)
          go_roundw
          case rel => exact ⟨k + 1, P ++ [n'], by go_num, by omega, by simp; omega, hnew, ho4, hb4⟩
          case measure => simp [intOf]; omega
        | none =>
          have hpe2 : Hid (pieceL (decide (k + 1 = l.length)) nb l[k].toList = if decide (k + 1 = l.length) = true ∧ nb = true then numbersV l[k].toList else none) := Lib.hid (by rw [hpe.out, hv])
          have hbad : Hid (pieceL (decide (k + 1 = l.length)) nb l[k].toList = none → rowV nb s.toList = none) := Lib.hid (fun h => by rw [hA.out, hst.out, h]; rfl)
          have hgood : Hid (∀ x, pieceL (decide (k + 1 = l.length)) nb l[k].toList = some x → rowV nb s.toList = (rowS nb ((l.map (·.toList)).drop (k + 1))).map ((P ++ x) ++ ·)) := Lib.hid (fun x h => by
            rw [hA.out, hst.out, h]; dsimp only
            cases rowS nb ((l.map (·.toList)).drop (k + 1)) with
            | none => rfl
            | some y => simp)
          rw [hv] at hpr
          replace hv := Lib.hid hv
          clear hpe hA hst
          have hlast : ((k : Int) < (l.length : Int) - 1 ∧ Hid (decide (k + 1 = l.length) = false)) ∨ ((l.length : Int) - 1 ≤ (k : Int) ∧ Hid (decide (k + 1 = l.length) = true)) := by
            by_cases h : k + 1 = l.length
            · exact .inr ⟨by omega, Lib.hid (decide_eq_true h)⟩
            · exact .inl ⟨by omega, Lib.hid (decide_eq_false h)⟩
          cases hu : numbersV l[k].toList with
          | none =>
            have hno : Hid (rowV nb s.toList = none) := Lib.hid (hbad.out (by rw [hpe2.out, hu]; simp))
            rw [hu] at hnr
            replace hu := Lib.hid hu
            clear hgood hbad hpe2
            cases nb <;> rcases hlast with ⟨q1, q2⟩ | ⟨q1, q2⟩
            all_goals
              go_wp2_with fail
              refine (hpr.out _).mono ?_
              rintro e w3 ⟨⟨n', rfl, -⟩, rfl⟩
              go_wp2_with fail
              refine (hnr.out _).mono ?_
              rintro e w4 ⟨⟨v4, rfl, -⟩, hb4⟩
              have hb5 := hbelA.next hb4
              go_wp2_with fail
              go_ret2
              exact retL_none (v := .slice none 0 0) hno.out hb5
          | some x =>
            rw [hu] at hnr
            by_cases hok : nb = true ∧ k + 1 = l.length
            · obtain ⟨rfl, hkl⟩ := hok
              have hx2 : x.length = 2 := by
                rw [numbers_four] at hu
                cases hf : fourV l[k].toList with
                | none => rw [hf] at hu; cases hu
                | some n => rw [hf] at hu; cases hu; rfl
              have hnew := Lib.hid (hgood.out x (by rw [hpe2.out, hu, if_pos ⟨decide_eq_true hkl, rfl⟩]))
              have q1 : (l.length : Int) - 1 ≤ (k : Int) := by omega
              replace hu := Lib.hid hu
              replace hkl := Lib.hid hkl
              clear hgood hbad hpe2 hlast
              go_wp2_with fail
              refine (hpr.out _).mono ?_
              rintro e w3 ⟨⟨n', rfl, -⟩, rfl⟩
              go_wp2_with fail
              refine (hnr.out _).mono ?_
              rintro e w4 ⟨⟨v4, rfl, hv4⟩, hb4⟩
              have hox := hv4 x rfl
              have hb5 := hb1.next hb4
              have hoi5 := hoi.below hb4 (Nat.le_refl _)
              have hsz5 := hb5.size
              clear hv4
              go_wp2_with (at_builtin; refine wpList_extendI rfl _ _ rfl rfl rfl hoi5 hox hb5 hsz5 hPI (by omega) ?_; intro a' c' w6 ho6 hb6)
              go_roundw
              case rel => exact ⟨k + 1, P ++ x, by go_num, by omega, by rw [List.length_append]; omega, hnew, by first | exact ho6 | (rw [hx2] at ho6; exact ho6) | (rw [← hx2]; exact ho6), hb6⟩
              case measure => simp [intOf]; omega
            · have hno : Hid (rowV nb s.toList = none) := Lib.hid (hbad.out (by
                rw [hpe2.out, if_neg]
                rintro ⟨h1, h2⟩
                exact hok ⟨h2, of_decide_eq_true h1⟩))
              have hway : nb = false ∨ (nb = true ∧ (k : Int) < (l.length : Int) - 1) := by
                cases nb
                · exact .inl rfl
                · exact .inr ⟨rfl, by have : ¬ k + 1 = l.length := fun h => hok ⟨rfl, h⟩; omega⟩
              replace hu := Lib.hid hu
              clear hgood hbad hpe2 hlast hok
              rcases hway with rfl | ⟨rfl, q1⟩
              all_goals
                go_wp2_with fail
                refine (hpr.out _).mono ?_
                rintro e w3 ⟨⟨n', rfl, -⟩, rfl⟩
                go_wp2_with fail
                refine (hnr.out _).mono ?_
                rintro e w4 ⟨⟨v4, rfl, -⟩, hb4⟩
                have hb5 := hbelA.next hb4
                go_wp2_with fail
                go_ret2
                exact retL_none (v := .slice none 0 0) hno.out hb5
      · obtain rfl : k = l.length := by omega
        have hfin : Hid (rowV nb s.toList = some P) := Lib.hid (by
          rw [hA.out, List.drop_of_length_le (by rw [List.length_map]; exact Nat.le_refl _)]; simp [rowS])
        clear hlt hA
        go_wp2_with fail
        go_ret2
        exact retL_some hfin.out (hoi.less hgB) hbelA
  · have hno : Hid (rowV nb s.toList = some []) := Lib.hid (by
      have : s.toList = [] := by simpa using hem
      rw [this]; rfl)
    replace hlen := Lib.hid hlen
    go_enter Tryd.func20, Tryd.ntmps20
    go_wp2_with fail
    go_ret2
    exact retL_some hno.out (OwnI.nil _ _) hB0
end Go.Proofs.YtgkbdcdfpoaifaaDoor
