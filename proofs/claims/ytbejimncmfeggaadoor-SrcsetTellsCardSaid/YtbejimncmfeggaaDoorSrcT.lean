/- The contract of the reference's words; the plain law behind it. -/
import Derived.Test.YtbejimncmfeggaaDoorSrcM
import Derived.Test.YtbejimncmfeggaaDoorAppendS
namespace Go.Proofs.YtbejimncmfeggaaDoor
open Go.RowKit
set_option linter.unusedVariables false
set_option linter.unusedSimpArgs false

def newI (ins : Bool) (c : UInt8) : Bool := if c = 41 then false else if c = 40 then true else ins
def preW (W : List UInt8) : List (List UInt8) := if W = [] then [] else [W]
/-- The reference's words, sign by sign. -/
def wR : Bool → List UInt8 → List UInt8 → List (List UInt8) × List UInt8
  | _, W, [] => (preW W, [])
  | ins, W, c :: r => if (!ins && sepC c) = true then (if c = 44 then (preW W, r) else (preW W ++ (wR false [] r).1, (wR false [] r).2)) else wR (newI ins c) (W ++ [c]) r
theorem wR_in {ins : Bool} {W : List UInt8} {c : UInt8} {r : List UInt8} (h : (!ins && sepC c) = false) : wR ins W (c :: r) = wR (newI ins c) (W ++ [c]) r := by rw [wR, if_neg (by rw [h]; decide)]
theorem wR_comma {W : List UInt8} {r : List UInt8} : wR false W (44 :: r) = (preW W, r) := by rw [wR, if_pos (by decide), if_pos rfl]
theorem wR_blank {W : List UInt8} {c : UInt8} {r : List UInt8} (h : sepC c = true) (h2 : c ≠ 44) : wR false W (c :: r) = (preW W ++ (wR false [] r).1, (wR false [] r).2) := by rw [wR, if_pos (by rw [h]; rfl), if_neg h2]
theorem n40 (c : UInt8) : ((c.toNat : Int) == 40) = decide (c = 40) := by
  by_cases h : c = 40
  · rw [decide_eq_true h]; exact u8c.1 h
  · rw [decide_eq_false h]; exact u8c.2 h
theorem n41 (c : UInt8) : ((c.toNat : Int) != 41) = decide (c ≠ 41) := by
  by_cases h : c = 41
  · subst h; decide
  · rw [decide_eq_true h, bne_iff_ne]
    intro e; exact h (UInt8.toNat_inj.1 (by show c.toNat = 41; omega))
theorem wordS_new {ins : Bool} {c : UInt8} (h : (wordS ins c).1 = true) : (!ins && sepC c) = false ∧ newI ins c = (wordS ins c).2 := by
  cases ins
  · by_cases h40 : c = 40
    · subst h40; decide
    · have e : wordS false c = if sepC c = true then (false, false) else (true, false) := by
        unfold wordS
        rw [if_neg (by decide), n40, decide_eq_false h40, if_neg (by decide)]
      rw [e] at h ⊢
      cases hs : sepC c
      · refine ⟨rfl, ?_⟩
        unfold newI
        by_cases h41 : c = 41
        · rw [if_pos h41]; rfl
        · rw [if_neg h41, if_neg h40]; rfl
      · rw [hs] at h; cases h
  · have e : wordS true c = (true, decide (c ≠ 41)) := by
      unfold wordS
      rw [if_pos rfl, n41]
    refine ⟨rfl, ?_⟩
    rw [e]
    unfold newI
    by_cases h41 : c = 41
    · rw [if_pos h41]; exact (decide_eq_false (by simpa using h41)).symm
    · rw [if_neg h41]; split <;> exact (decide_eq_true h41).symm
theorem wordS_stop {ins : Bool} {c : UInt8} (h : (wordS ins c).1 = false) : ins = false ∧ sepC c = true ∧ (wordS ins c).2 = false := by
  unfold wordS at h ⊢
  cases ins
  · rw [if_neg (by decide)] at h ⊢
    split at h
    · cases h
    · rename_i h40
      rw [if_neg h40]
      split at h
      · rename_i hs
        rw [if_pos hs]; exact ⟨rfl, hs, rfl⟩
      · cases h
  · rw [if_pos rfl] at h; cases h
theorem wR_run : ∀ (l : List UInt8) (ins : Bool) (W : List UInt8), wR ins W l = wR (runL wordS ins l).2.2 (W ++ (runL wordS ins l).1) (runL wordS ins l).2.1
  | [], ins, W => by rw [runL]; simp
  | c :: r, ins, W => by
    cases h : (wordS ins c).1
    · obtain ⟨rfl, hs, h2⟩ := wordS_stop h
      rw [runL_no h, h2]
      simp
    · obtain ⟨h1, h2⟩ := wordS_new h
      rw [runL_yes h, wR_in h1, h2, wR_run r (wordS ins c).2 (W ++ [c])]
      simp
theorem runW_state : ∀ (st : Bool) (l : List UInt8), (runL wordS st l).2.1 ≠ [] → (runL wordS st l).2.2 = false
  | st, [], h => absurd rfl h
  | st, c :: r, h => by
    cases hw : (wordS st c).1
    · rw [runL_no hw]
      exact (wordS_stop hw).2.2
    · rw [runL_yes hw] at h ⊢
      exact runW_state _ r h
theorem wR_skip : ∀ (l : List UInt8), wR false [] l = wR false [] (l.dropWhile isBl)
  | [] => rfl
  | c :: r => by
    rw [List.dropWhile_cons]
    cases hb : isBl c
    · rw [if_neg (by decide)]
    · rw [if_pos rfl]
      have hs : sepC c = true := by unfold sepC; rw [hb]; exact Bool.or_true _
      have h44 : c ≠ 44 := by rintro rfl; exact absurd hb (by decide)
      rw [wR_blank hs h44, ← wR_skip r]
      rfl
theorem dwL_blank {b : UInt8} (X : List UInt8) (h : isBl b = true) : dwL (b :: X) = dwL X := by
  rw [dwL_step, dwL_step X, List.dropWhile_cons, if_pos h]
theorem dwL_comma (X : List UInt8) : dwL (44 :: X) = ([], 44 :: X) := by
  have e3 : (44 :: X).dropWhile isBl = 44 :: X := by rw [List.dropWhile_cons, if_neg (by decide)]
  rw [dwL_step, e3, runL_no (by decide), if_pos rfl]
theorem sep_split {b : UInt8} (h : sepC b = true) : b = 44 ∨ isBl b = true := by
  unfold sepC at h
  rw [Bool.or_eq_true] at h
  rcases h with h | h
  · exact .inl (UInt8.toNat_inj.1 (by rw [beq_iff_eq] at h; show b.toNat = 44; omega))
  · exact .inr h
theorem wR_dwL : ∀ (n : Nat) (l : List UInt8), l.length ≤ n → wR false [] l = ((dwL l).1, (dwL l).2.drop 1) := by
  intro n
  induction n with
  | zero =>
    intro l hl
    obtain rfl : l = [] := List.eq_nil_of_length_eq_zero (by omega)
    rfl
  | succ n ih =>
    intro l hl
    have h3 := drop_len isBl l
    rw [wR_skip, wR_run]
    have hE := runW_ends false (l.dropWhile isBl)
    have hS := runW_state false (l.dropWhile isBl)
    have hL := runL_len wordS false (l.dropWhile isBl)
    have hA := runL_all wordS false (l.dropWhile isBl)
    rw [dwL_step]
    have hD : ∀ {c r}, l.dropWhile isBl = c :: r → isBl c = false := fun h => dropHead isBl l h
    generalize l.dropWhile isBl = D at *
    generalize (runL wordS false D).1 = a at *
    generalize (runL wordS false D).2.2 = st at *
    generalize (runL wordS false D).2.1 = R at *
    by_cases ha : a = []
    · subst ha
      rw [if_pos rfl]
      obtain rfl : R = D := by simpa using hA
      rcases hE with rfl | ⟨b, X, rfl, hb⟩
      · rfl
      · obtain rfl := hS (by simp)
        rcases sep_split hb with rfl | hbl
        · rw [List.append_nil, wR_comma]; rfl
        · rw [hD rfl] at hbl; cases hbl
    · rw [if_neg ha]
      rcases hE with rfl | ⟨b, X, rfl, hb⟩
      · rw [wR, List.nil_append]
        unfold preW
        rw [if_neg ha]; rfl
      · obtain rfl := hS (by simp)
        rcases sep_split hb with rfl | hbl
        · rw [List.nil_append, wR_comma, dwL_comma]
          unfold preW
          rw [if_neg ha]; rfl
        · have h44 : b ≠ 44 := by rintro rfl; exact absurd hbl (by decide)
          have hX : X.length ≤ n := by
            have := List.length_pos_iff.2 ha
            simp only [List.length_cons] at hL; omega
          rw [List.nil_append, wR_blank hb h44, ih X hX, dwL_blank X hbl]
          unfold preW
          rw [if_neg ha]; rfl
def RetRW (s : ByteArray) (w : World) (e : Ending) (w' : World) : Prop :=
  ∃ pa n c l R, e = .returned (.tuple #[.slice pa n c, .string R]) ∧ l.length = n ∧ n ≤ s.size ∧ Hid (pa = none → c = 0) ∧ Hid (l.map (·.toList) = (dwL s.toList).1) ∧ Hid (R.toList = (dwL s.toList).2.drop 1) ∧ OwnS w' w.heap.size 9 (.slice pa n c) l ∧ Below w.heap.size w w'
theorem retRW {s : ByteArray} {w w' : World} {v : Value} {l : List ByteArray} {R : ByteArray} (ho : OwnS w' w.heap.size 9 v l) (hb : Below w.heap.size w w') (hl : l.length ≤ s.size) (h1 : l.map (·.toList) = (wR false [] s.toList).1) (h2 : R.toList = (wR false [] s.toList).2) :
    RetRW s w (.returned (.tuple #[v, .string R])) w' := by
  rw [wR_dwL _ _ (Nat.le_refl _)] at h1 h2
  have hv : ∃ pa c, v = .slice pa l.length c ∧ (pa = none → c = 0) := by
    rcases ho.2 with ⟨rfl, h0⟩ | ⟨g, cap, cur, rfl, -⟩
    · exact ⟨none, 0, by rw [h0], fun _ => rfl⟩
    · exact ⟨_, _, rfl, fun h => by cases h⟩
  obtain ⟨pa, c, rfl, hnil⟩ := hv
  exact ⟨pa, _, c, l, R, rfl, rfl, hl, Lib.hid hnil, Lib.hid h1, Lib.hid h2, ho, hb⟩
theorem slice_oneS (s : ByteArray) (k : Nat) (h : k < s.size) : (s.toList.take (k + 1)).drop k = [s[k]] := by
  have hl : (s.toList.take k).length = k := by rw [List.length_take, size_toList]; omega
  have := List.drop_left (l₁ := s.toList.take k) (l₂ := [s[k]])
  rw [hl] at this
  rw [take_snoc s k h]; exact this
set_option maxRecDepth 100000 in
set_option maxHeartbeats 4000000 in
theorem words19_any (s : ByteArray) (w : World) (hs : s.size ≤ 900000) :
    Calls Tryd.prog 35 #[.string s] w (RetRW s w) := by
  go_enter Tryd.func35, Tryd.ntmps35
  go_wp2_with fail
  go_loopw [4, 5, 6, 7] (fun ov wv nv iv wr => ∃ (k : Nat) (W : ByteArray) (ins : Bool) (l : List ByteArray), iv = .int .i64 k ∧ wv = .string W ∧ nv = .bool ins ∧ k ≤ s.size ∧ l.length + W.size ≤ k ∧
    Hid (wR false [] s.toList = (l.map (·.toList) ++ (wR ins W.toList (s.toList.drop k)).1, (wR ins W.toList (s.toList.drop k)).2)) ∧ OwnS wr w.heap.size 9 ov l ∧ Below w.heap.size w wr) (fun _ _ _ i _ => s.size - (intOf i).toNat)
  case atStart => exact ⟨0, ⟨#[]⟩, false, [], rfl, rfl, rfl, Nat.zero_le _, Nat.le_refl _, Lib.hid (by rw [show (ByteArray.mk #[]).toList = [] from toList_mk []]; rfl), OwnS.nil _ _ _, Below.refl _ _⟩
  case round =>
    obtain ⟨k, W, ins, l, rfl, rfl, rfl, hk, hWz, hrun, hown, hbel⟩ := hrel
    have hsz := hbel.size
    by_cases hkl : k < s.size
    · have hkI : (k : Int) < (s.size : Int) := by omega
      have hdr := drop_cons s k hkl
      obtain ⟨c, hc⟩ : ∃ c, s[k] = c := ⟨_, rfl⟩
      rw [hdr, hc] at hrun
      have hct : (s.extract k (k + 1)).toList = [c] := by rw [toList_extract, hc.symm]; exact slice_oneS s k hkl
      have hWn : (W ++ s.extract k (k + 1)).toList = W.toList ++ [c] := by rw [toList_append, hct]
      have hWz2 : l.length + (W ++ s.extract k (k + 1)).size ≤ k + 1 := by
        rw [← size_toList, hWn, List.length_append, size_toList]; show l.length + (W.size + 1) ≤ _; omega
      clear hdr hct
      cases hin : (!ins && sepC c)
      · have hnew : Hid (wR false [] s.toList = (l.map (·.toList) ++ (wR (newI ins c) (W ++ s.extract k (k + 1)).toList (s.toList.drop (k + 1))).1, (wR (newI ins c) (W ++ s.extract k (k + 1)).toList (s.toList.drop (k + 1))).2)) := Lib.hid (by
          rw [hrun.out, wR_in hin, hWn])
        have hway : (ins = true ∨ (ins = false ∧ blankZ (c.toNat : Int) = false ∧ ((c.toNat : Int) == 44) = false)) ∧ ((((c.toNat : Int) == 40) = true ∧ ((c.toNat : Int) == 41) = false ∧ newI ins c = true) ∨ (((c.toNat : Int) == 40) = false ∧ ((c.toNat : Int) == 41) = true ∧ newI ins c = false) ∨ (((c.toNat : Int) == 40) = false ∧ ((c.toNat : Int) == 41) = false ∧ newI ins c = ins)) := by
          refine ⟨?_, ?_⟩
          · cases ins
            · right
              have hs2 : sepC c = false := by simpa using hin
              unfold sepC isBl at hs2
              rw [Bool.or_eq_false_iff] at hs2
              exact ⟨rfl, hs2.2, hs2.1⟩
            · exact .inl rfl
          · unfold newI
            by_cases h40 : c = 40
            · subst h40; exact .inl ⟨rfl, rfl, rfl⟩
            · by_cases h41 : c = 41
              · subst h41; exact .inr (.inl ⟨rfl, rfl, rfl⟩)
              · exact .inr (.inr ⟨u8c.2 h40, u8c.2 h41, by rw [if_neg h41, if_neg h40]⟩)
        replace hWn := Lib.hid hWn
        replace hin := Lib.hid hin
        replace hrun := Lib.hid hrun
        obtain ⟨hw1, hw2⟩ := hway
        rw [← hc] at hw1 hw2
        replace hc := Lib.hid hc
        rcases hw1 with rfl | ⟨rfl, b1, b2⟩
        all_goals
          rcases hw2 with ⟨h40, h41, hn⟩ | ⟨h40, h41, hn⟩ | ⟨h40, h41, hn⟩
          all_goals
            rw [hc.out] at hn
            rw [hn] at hnew
            replace hn := Lib.hid hn
            go_wp2_with (first | (go_at_call 34; refine (blankr_any _ _).mono ?_; rintro e w' ⟨rfl, rfl⟩; rw [b1]))
            go_roundw
            case rel => exact ⟨k + 1, _, _, l, by go_num, rfl, rfl, by omega, hWz2, hnew, hown, hbel⟩
            case measure => simp [intOf]; omega
      · obtain ⟨rfl, hsp⟩ : ins = false ∧ sepC c = true := by simpa using hin
        clear hWn hWz2
        have hW0 : W.toList = [] ∨ W.toList ≠ [] := by by_cases h : W.toList = []; exact .inl h; exact .inr h
        have hWI : (W.toList = [] ∧ (!W.toList.isEmpty) = false ∧ W.toList.isEmpty = true) ∨ (W.toList ≠ [] ∧ (!W.toList.isEmpty) = true ∧ W.toList.isEmpty = false) := by
          cases h : W.toList with
          | nil => exact .inl ⟨rfl, rfl, rfl⟩
          | cons a r => exact .inr ⟨by simp, rfl, rfl⟩
        clear hW0
        replace hin := Lib.hid hin
        by_cases h44 : c = 44
        · subst h44
          have q1 : ((s[k].toNat : Int) == 44) = true := by rw [hc]; rfl
          have q2 : blankZ (s[k].toNat : Int) = false := by rw [hc]; rfl
          have hR : (s.extract (k + 1) s.size).toList = s.toList.drop (k + 1) := by rw [toList_from]
          have hr1 := hrun.out
          rw [wR_comma] at hr1
          dsimp only at hr1
          replace hc := Lib.hid hc
          replace hrun := Lib.hid hrun
          replace hR := Lib.hid hR
          have z1 : (k : Int) + 1 ≤ (s.size : Int) := by omega
          have z2 : k + 1 ≤ s.size := by omega
          rcases hWI with ⟨hW, hb1, hb2⟩ | ⟨hW, hb1, hb2⟩
          · have h1 : l.map (·.toList) = (wR false [] s.toList).1 := by rw [hr1]; unfold preW; rw [if_pos hW, List.append_nil]
            have h2 : (s.extract (k + 1) s.size).toList = (wR false [] s.toList).2 := by rw [hr1, hR.out]
            replace h1 := Lib.hid h1
            replace h2 := Lib.hid h2
            replace hr1 := Lib.hid hr1
            replace hW := Lib.hid hW
            go_wp2_with (first | (go_at_call 34; refine (blankr_any _ _).mono ?_; rintro e w' ⟨rfl, rfl⟩; rw [q2]))
            go_quiet (fail)
            go_wp2_with fail
            go_ret2
            exact retRW (by exact hown) (below_drewN hbel _) (by omega) h1.out h2.out
          · have h1 : (l ++ [W]).map (·.toList) = (wR false [] s.toList).1 := by rw [hr1]; unfold preW; rw [if_neg hW, List.map_append]; rfl
            have h2 : (s.extract (k + 1) s.size).toList = (wR false [] s.toList).2 := by rw [hr1, hR.out]
            replace h1 := Lib.hid h1
            replace h2 := Lib.hid h2
            replace hr1 := Lib.hid hr1
            replace hW := Lib.hid hW
            go_wp2_with (first | (go_at_call 34; refine (blankr_any _ _).mono ?_; rintro e w' ⟨rfl, rfl⟩; rw [q2]) | (at_builtin; refine wpList_pushS tyStr rfl _ _ rfl rfl rfl hown hbel hsz (by unfold maxLen; omega) (by omega) ?_; intro v' w8 ho' hb' _))
            go_quiet (fail)
            go_wp2_with fail
            go_ret2
            exact retRW (by exact ho') (below_drewN hb' _) (by rw [List.length_append]; show l.length + 1 ≤ _; omega) h1.out h2.out
        · have hbl : blankZ (s[k].toNat : Int) = true := by
            rw [hc]
            rcases sep_split hsp with h | h
            · exact absurd h h44
            · exact h
          have q1 : ((s[k].toNat : Int) == 44) = false := by rw [hc]; exact u8c.2 h44
          have hr1 := hrun.out
          rw [wR_blank hsp h44] at hr1
          dsimp only at hr1
          replace hc := Lib.hid hc
          replace h44 := Lib.hid h44
          replace hrun := Lib.hid hrun
          rcases hWI with ⟨hW, hb1, hb2⟩ | ⟨hW, hb1, hb2⟩
          · have hnew : Hid (wR false [] s.toList = (l.map (·.toList) ++ (wR false (ByteArray.mk #[]).toList (s.toList.drop (k + 1))).1, (wR false (ByteArray.mk #[]).toList (s.toList.drop (k + 1))).2)) := Lib.hid (by
              rw [hr1, show (ByteArray.mk #[]).toList = [] from toList_mk []]; unfold preW; rw [if_pos hW, List.nil_append])
            replace hr1 := Lib.hid hr1
            replace hW := Lib.hid hW
            go_wp2_with (first | (go_at_call 34; refine (blankr_any _ _).mono ?_; rintro e w' ⟨rfl, rfl⟩; rw [hbl]))
            go_roundw
            case rel => exact ⟨k + 1, _, _, l, by go_num, rfl, rfl, by omega, by show l.length + 0 ≤ _; omega, hnew, hown, hbel⟩
            case measure => simp [intOf]; omega
          · have hnew : Hid (wR false [] s.toList = ((l ++ [W]).map (·.toList) ++ (wR false (ByteArray.mk #[]).toList (s.toList.drop (k + 1))).1, (wR false (ByteArray.mk #[]).toList (s.toList.drop (k + 1))).2)) := Lib.hid (by
              rw [hr1, show (ByteArray.mk #[]).toList = [] from toList_mk []]; unfold preW; rw [if_neg hW, List.map_append, List.append_assoc]; rfl)
            replace hr1 := Lib.hid hr1
            replace hW := Lib.hid hW
            go_wp2_with (first | (go_at_call 34; refine (blankr_any _ _).mono ?_; rintro e w' ⟨rfl, rfl⟩; rw [hbl]) | (at_builtin; refine wpList_pushS tyStr rfl _ _ rfl rfl rfl hown hbel hsz (by unfold maxLen; omega) (by omega) ?_; intro v' w8 ho' hb' _))
            go_roundw
            case rel => exact ⟨k + 1, _, _, l ++ [W], by go_num, rfl, rfl, by omega, by rw [List.length_append]; show l.length + 1 + 0 ≤ _; omega, hnew, ho', hb'⟩
            case measure => simp [intOf]; omega
    · have hkI : (s.size : Int) ≤ (k : Int) := by omega
      have hr1 := hrun.out
      rw [drop_end s k (by omega), wR] at hr1
      dsimp only at hr1
      replace hrun := Lib.hid hrun
      have hWI : (W.toList = [] ∧ (!W.toList.isEmpty) = false ∧ W.toList.isEmpty = true) ∨ (W.toList ≠ [] ∧ (!W.toList.isEmpty) = true ∧ W.toList.isEmpty = false) := by
        cases h : W.toList with
        | nil => exact .inl ⟨rfl, rfl, rfl⟩
        | cons a r => exact .inr ⟨by simp, rfl, rfl⟩
      rcases hWI with ⟨hW, hb1, hb2⟩ | ⟨hW, hb1, hb2⟩
      · have h1 : l.map (·.toList) = (wR false [] s.toList).1 := by rw [hr1]; unfold preW; rw [if_pos hW, List.append_nil]
        have h2 : (ByteArray.mk #[]).toList = (wR false [] s.toList).2 := by rw [hr1]; exact toList_mk []
        replace h1 := Lib.hid h1
        replace h2 := Lib.hid h2
        replace hr1 := Lib.hid hr1
        replace hW := Lib.hid hW
        go_wp2_with fail
        go_ret2
        exact retRW hown hbel (by omega) h1.out h2.out
      · have h1 : (l ++ [W]).map (·.toList) = (wR false [] s.toList).1 := by rw [hr1]; unfold preW; rw [if_neg hW, List.map_append]; rfl
        have h2 : (ByteArray.mk #[]).toList = (wR false [] s.toList).2 := by rw [hr1]; exact toList_mk []
        have hlW : l.length + 1 ≤ s.size := by
          have : 0 < W.toList.length := List.length_pos_iff.2 hW
          rw [size_toList] at this; omega
        replace h1 := Lib.hid h1
        replace h2 := Lib.hid h2
        replace hr1 := Lib.hid hr1
        replace hW := Lib.hid hW
        go_wp2_with (at_builtin; refine wpList_pushS tyStr rfl _ _ rfl rfl rfl hown hbel hsz (by unfold maxLen; omega) (by omega) ?_; intro v' w8 ho' hb' _)
        go_ret2
        exact retRW ho' hb' (by rw [List.length_append]; show l.length + 1 ≤ _; omega) h1.out h2.out
end Go.Proofs.YtbejimncmfeggaaDoor
