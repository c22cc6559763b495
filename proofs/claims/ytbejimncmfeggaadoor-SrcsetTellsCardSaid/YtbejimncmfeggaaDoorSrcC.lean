/- The contract of srcset.describers. -/
import Derived.Test.YtbejimncmfeggaaDoorSrcB
namespace Go.Proofs.YtbejimncmfeggaaDoor
open Go.RowKit
set_option linter.unusedVariables false
set_option linter.unusedSimpArgs false

/-- The words that stand first, and what stands behind them. -/
def dwF : Nat → List UInt8 → List (List UInt8) × List UInt8
  | 0, l => ([], l)
  | n + 1, l => if (runL wordS false (l.dropWhile isBl)).1 = [] then ([], l.dropWhile isBl)
    else ((runL wordS false (l.dropWhile isBl)).1 :: (dwF n (runL wordS false (l.dropWhile isBl)).2.1).1, (dwF n (runL wordS false (l.dropWhile isBl)).2.1).2)
def dwL (l : List UInt8) : List (List UInt8) × List UInt8 := dwF (l.length + 1) l
theorem runL_len {σ : Type} (step : σ → UInt8 → Bool × σ) (st : σ) (l : List UInt8) : (runL step st l).1.length + (runL step st l).2.1.length = l.length := by
  have := congrArg List.length (runL_all step st l)
  rwa [List.length_append] at this
theorem dwF_enough : ∀ (N : Nat) (l : List UInt8), l.length ≤ N → ∀ n, l.length < n → dwF n l = dwF (l.length + 1) l := by
  intro N
  induction N with
  | zero =>
    intro l hl n hn
    obtain rfl : l = [] := List.eq_nil_of_length_eq_zero (by omega)
    obtain ⟨m, rfl⟩ : ∃ m, n = m + 1 := ⟨n - 1, by omega⟩
    rfl
  | succ N ih =>
    intro l hl n hn
    obtain ⟨m, rfl⟩ : ∃ m, n = m + 1 := ⟨n - 1, by have : 0 ≤ l.length := Nat.zero_le _; omega⟩
    unfold dwF
    by_cases h : (runL wordS false (l.dropWhile isBl)).1 = []
    · rw [if_pos h, if_pos h]
    · have h1 := runL_len wordS false (l.dropWhile isBl)
      have h2 : 0 < (runL wordS false (l.dropWhile isBl)).1.length := List.length_pos_iff.2 h
      have h3 : (l.dropWhile isBl).length ≤ l.length := (List.dropWhile_sublist _).length_le
      rw [if_neg h, if_neg h, ih _ (by omega) m (by omega), ih _ (by omega) l.length (by omega)]
theorem dwL_step (l : List UInt8) : dwL l = if (runL wordS false (l.dropWhile isBl)).1 = [] then ([], l.dropWhile isBl)
    else ((runL wordS false (l.dropWhile isBl)).1 :: (dwL (runL wordS false (l.dropWhile isBl)).2.1).1, (dwL (runL wordS false (l.dropWhile isBl)).2.1).2) := by
  unfold dwL
  conv => lhs; unfold dwF
  by_cases h : (runL wordS false (l.dropWhile isBl)).1 = []
  · rw [if_pos h, if_pos h]
  · have h1 := runL_len wordS false (l.dropWhile isBl)
    have h2 : 0 < (runL wordS false (l.dropWhile isBl)).1.length := List.length_pos_iff.2 h
    have h3 : (l.dropWhile isBl).length ≤ l.length := (List.dropWhile_sublist _).length_le
    rw [if_neg h, if_neg h, dwF_enough _ _ (Nat.le_refl _) l.length (by omega)]
theorem run_drop {σ : Type} {step : σ → UInt8 → Bool × σ} {st : σ} {s t : ByteArray} {j : Nat} (h : t.toList = (runL step st (s.toList.drop j)).1) : s.toList.drop (j + t.size) = (runL step st (s.toList.drop j)).2.1 := by
  have h1 := runL_all step st (s.toList.drop j)
  obtain ⟨r, hr⟩ : ∃ r, runL step st (s.toList.drop j) = r := ⟨_, rfl⟩
  rw [hr] at h h1 ⊢
  rw [← List.drop_drop, ← h1, ← h, List.drop_append_of_le_length (by rw [size_toList]; exact Nat.le_refl _), List.drop_of_length_le (by rw [size_toList]; exact Nat.le_refl _), List.nil_append]
theorem OwnS.chg {w w' : World} {B : Nat} {E : TypeId} {v : Value} {l : List ByteArray} (h : OwnS w B E v l) (hc : ∀ k, B ≤ k → k < w.heap.size → w'.heap[k]? = w.heap[k]?) : OwnS w' B E v l := by
  refine ⟨h.1, ?_⟩
  rcases h.2 with hn | ⟨k, cap, cur, rfl, hk, hh, rest⟩
  · exact .inl hn
  · exact .inr ⟨k, cap, cur, rfl, hk, (hc k hk (Array.getElem?_eq_some_iff.1 hh).1).trans hh, rest⟩
theorem Chg.step {w wx w' : World} {ga gi : Nat} (h1 : Chg (· = ga) w wx) (h2 : Chg (fun i => i = ga ∨ i = gi) wx w') (hgi : w.heap.size ≤ gi) : Chg (· = ga) w w' :=
  ⟨h2.os.trans h1.os, h2.tape.trans h1.tape, h2.output.trans h1.output, Nat.le_trans h1.size h2.size, fun k hk hn => (h2.block k (Nat.lt_of_lt_of_le hk h1.size) (fun x => by rcases x with x | x; exact hn x; omega)).trans (h1.block k hk hn)⟩
def RetDesc (s : ByteArray) (ga gs k : Nat) (w : World) (e : Ending) (w' : World) : Prop :=
  ∃ (v : Value) (l : List ByteArray) (n : Nat), e = .returned v ∧ Hid (l.map (·.toList) = (dwL (s.toList.drop k)).1) ∧ Hid (s.toList.drop n = (dwL (s.toList.drop k)).2) ∧ k ≤ n ∧ n ≤ s.size ∧ l.length ≤ n ∧
    OwnS w' w.heap.size 9 v l ∧ BoxI w' ga n ∧ BoxS w' gs s ∧ Chg (· = ga) w w'
theorem enter18 : ∀ args w, (callFunc 18 args).run Tryd.prog w = .ok (.enter 18 args) w := callFunc_enter Tryd.func18 (by kernel_rfl) rfl
theorem enter47 : ∀ args w, (callFunc 47 args).run Tryd.prog w = .ok (.enter 47 args) w := callFunc_enter Tryd.func47 (by kernel_rfl) rfl
theorem tySrc : ElemTy Tryd.prog 22 9 (.string ByteArray.empty) 16 := .mk' Tryd.underlying22 (by kernel_rfl) rfl
set_option maxRecDepth 100000 in
set_option maxHeartbeats 2000000 in
theorem describers_any (ga gs : Nat) (s : ByteArray) (k : Nat) (w : World) (ha : BoxI w ga k) (hs : BoxS w gs s) (hk : k ≤ s.size) (hne : ga ≠ gs) (hsz : s.size ≤ 1000000) :
    Calls Tryd.prog 33 #[.func (.func 28) #[] #[.pointer (some ⟨ga, 0, none⟩), .pointer (some ⟨gs, 0, none⟩)]] w (RetDesc s ga gs k w) := by
  have lga : ga < w.heap.size := (Array.getElem?_eq_some_iff.1 ha).1
  have lgs : gs < w.heap.size := (Array.getElem?_eq_some_iff.1 hs).1
  go_enter Tryd.func33, Tryd.ntmps33
  go_wp2_with fail
  go_loopg [3] (s.size - k) (fun g v wr => ∃ (j : Nat) (l : List ByteArray), g = s.size - j ∧ k ≤ j ∧ j ≤ s.size ∧ l.length ≤ j ∧ Hid (dwL (s.toList.drop k) = (l.map (·.toList) ++ (dwL (s.toList.drop j)).1, (dwL (s.toList.drop j)).2)) ∧ OwnS wr w.heap.size 9 v l ∧ BoxI wr ga j ∧ BoxS wr gs s ∧ Chg (· = ga) w wr)
  case atStart => exact ⟨k, [], rfl, Nat.le_refl _, hk, Nat.zero_le _, Lib.hid (by simp), OwnS.nil _ _ _, ha, hs, Chg.refl _ _⟩
  case round =>
    clear ha hs
    obtain ⟨j, l, hgk, hkj, hj, hlj, hrun, hown, hba, hbs, hC⟩ := hrel
    replace hgk := Lib.hid hgk
    go_wp2_with fail
    refine (skip_any 18 #[] (pureS isBl) (fun _ _ => True) (fun _ => False) ga gs s (fun st c w _ => (blank_any _ _).mono (by rintro e w' ⟨rfl, rfl⟩; exact ⟨rfl, trivial, Chg.refl _ _⟩)) enter18 (fun _ _ _ _ => trivial) (fun x => x) (fun x => x) hne (by omega) () j wr trivial hba hbs hj).mono ?_
    rintro e w1 ⟨t1, rfl, ht1, hz1, hba1, hbs1, -, hC1⟩
    have hd1 := run_drop ht1.out
    rw [runL_pure] at hd1
    have hC1' : Chg (· = ga) wr w1 := hC1.mono (fun i h => h.elim id False.elim)
    have lsz : wr.heap.size ≤ w1.heap.size := hC1.size
    have lw : w.heap.size ≤ wr.heap.size := hC.size
    replace hba := Lib.hid hba
    replace hbs := Lib.hid hbs
    replace hba1 := Lib.hid hba1
    replace hbs1 := Lib.hid hbs1
    replace hd1 := Lib.hid hd1
    clear ht1
    go_wp2_with fail
    have hgi : ga ≠ w1.heap.size := by omega
    have hba2 : BoxI (w1.alloc (.cells #[.bool false] 4)) ga (j + t1.size) := (Below.heap_alloc _ _ _ (by omega)).trans hba1.out
    have hbs2 : BoxS (w1.alloc (.cells #[.bool false] 4)) gs s := (Below.heap_alloc _ _ _ (by omega)).trans hbs1.out
    have hbb : BoxB w1.heap.size false (w1.alloc (.cells #[.bool false] 4)) := heap_alloc_new _ _
    refine (skip_any 47 #[.pointer (some ⟨w1.heap.size, 0, none⟩)] wordS (fun b w => BoxB w1.heap.size b w) (· = w1.heap.size) ga gs s (fun st c w h => ask4_any _ st c w h) enter47 (fun st w v h => (Below.heap_setCell _ _ _ _ (fun e => hgi e.symm)).trans h) hgi (by omega) hne (by omega) false (j + t1.size) _ hbb hba2 hbs2 hz1).mono ?_
    rintro e w3 ⟨t2, rfl, ht2, hz2, hba3, hbs3, -, hC3⟩
    have hd3 := run_drop ht2.out
    have hC4 : Chg (· = ga) w w3 := Chg.step ((hC.trans hC1').trans (Chg.of ((Below.refl _ _).alloc (Nat.le_refl _) _))) hC3 (by omega)
    have hown3 : OwnS w3 w.heap.size 9 _ l := hown.chg (fun i h1 h2 => (hC3.block i (by simp; omega) (by omega)).trans ((Below.heap_alloc _ _ _ (by omega)).trans (hC1.block i h2 (fun x => by rcases x with x | x; omega; exact x))))
    have hst := dwL_step (s.toList.drop j)
    rw [← hd1.out, ← ht2.out, ← hd3] at hst
    clear hC hC1 hC1' hC3 hown hbb hba2 hbs2 ht2 hd3
    replace hd1 := Lib.hid hd1
    by_cases hem : t2.toList = []
    · have hemB : t2.toList.isEmpty = true := by rw [hem]; rfl
      have hemL : (t2.toList == []) = true := by rw [hem]; rfl
      rw [if_pos hem] at hst
      have hfin : Hid (l.map (·.toList) = (dwL (s.toList.drop k)).1) := Lib.hid (by rw [hrun.out, hst]; simp)
      have hfin2 : Hid (s.toList.drop (j + t1.size) = (dwL (s.toList.drop k)).2) := Lib.hid (by rw [hrun.out, hst])
      have h0 : t2.size = 0 := (toList_empty_iff t2).1 hem
      rw [h0, Nat.add_zero] at hba3
      replace hst := Lib.hid hst
      replace hem := Lib.hid hem
      replace hba3 := Lib.hid hba3
      replace hbs3 := Lib.hid hbs3
      replace h0 := Lib.hid h0
      go_wp2_with fail
      go_ret
      exact ⟨_, l, _, rfl, hfin, hfin2, by omega, hz1, by omega, hown3, hba3.out, hbs3.out, hC4⟩
    · have hemB : t2.toList.isEmpty = false := by cases h : t2.toList with | nil => exact absurd h hem | cons a b => rfl
      have hemL : (t2.toList == []) = false := by simpa using hem
      rw [if_neg hem] at hst
      have h0 : 0 < t2.size := Nat.pos_of_ne_zero (fun h => hem ((toList_empty_iff t2).2 h))
      have hnew : Hid (dwL (s.toList.drop k) = ((l ++ [t2]).map (·.toList) ++ (dwL (s.toList.drop (j + t1.size + t2.size))).1, (dwL (s.toList.drop (j + t1.size + t2.size))).2)) := Lib.hid (by
        rw [hrun.out, hst]; simp)
      replace hst := Lib.hid hst
      replace hem := Lib.hid hem
      replace hba3 := Lib.hid hba3
      replace hbs3 := Lib.hid hbs3
      have hw3 : w.heap.size ≤ w3.heap.size := hC4.size
      go_wp2_with (at_builtin; refine wpList_pushS tySrc rfl _ _ rfl rfl rfl hown3 (Below.refl w.heap.size w3) hw3 (by unfold maxLen; omega) (by omega) ?_; intro v' w4 ho4 hb4 _)
      have hba4 : BoxI w4 ga (j + t1.size + t2.size) := (hb4.block _ lga).trans hba3.out
      have hbs4 : BoxS w4 gs s := (hb4.block _ lgs).trans hbs3.out
      have hC5 : Chg (· = ga) w w4 := ⟨hb4.os.trans hC4.os, hb4.tape.trans hC4.tape, hb4.output.trans hC4.output, Nat.le_trans hC4.size hb4.size, fun i hi hn => (hb4.block i hi).trans (hC4.block i hi hn)⟩
      replace hba4 := Lib.hid hba4
      replace hbs4 := Lib.hid hbs4
      go_wp2_with fail
      go_roundg (s.size - (j + t1.size + t2.size))
      case measure => have := hgk.out; omega
      case rel => exact ⟨j + t1.size + t2.size, l ++ [t2], rfl, by omega, hz2, by rw [List.length_append]; show l.length + 1 ≤ _; omega, hnew, ho4, hba4.out, hbs4.out, hC5⟩
end Go.Proofs.YtbejimncmfeggaaDoor
