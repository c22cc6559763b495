/- Plain: texts of pieces, with : between, and :: once; an address is read back; no program in sight. -/
import Derived.Test.YtgkbdcdfpoaifaaDoorSixQ
import Derived.Test.YtgkbdcdfpoaifaaDoorSplit
import Derived.Test.YtgkbdcdfpoaifaaDoorSixW
import Derived.Test.YtgkbdcdfpoaifaaDoorFourR
namespace Go.Proofs.YtgkbdcdfpoaifaaDoor
open Go.RowKit
set_option linter.unusedVariables false
set_option linter.unusedSimpArgs false

/-- What pieces between colons tell. -/
def rowS (nb : Bool) : List (List UInt8) → Option (List Nat)
  | [] => some []
  | [t] => pieceL true nb t
  | t :: u :: r => match pieceL false nb t with | none => none | some x => (rowS nb (u :: r)).map fun y => x ++ y
theorem splitC_cut (c : UInt8) (l : List UInt8) : splitC c l = (cutC c l).1 :: (if (cutC c l).2.2 = true then splitC c (cutC c l).2.1 else []) := by
  induction l with
  | nil => rfl
  | cons d r ih =>
    rw [splitC_cons]
    unfold cutC
    by_cases h : d = c
    · simp [h]
    · simp only [h, if_false]
      rw [ih]; rfl
theorem rowGo_split (nb : Bool) : ∀ f l, l.length < f → rowGo nb f l = rowS nb (splitC 58 l)
  | 0, l, h => by omega
  | f + 1, l, h => by
    rw [rowGo, splitC_cut]
    cases hm : (cutC 58 l).2.2
    · simp only [Bool.not_false, Bool.false_eq_true, if_false]
      rw [rowS]
      cases pieceL true nb (cutC 58 l).1 <;> rfl
    · have hs := cutC_short hm
      have ih := rowGo_split nb f (cutC 58 l).2.1 (by omega)
      obtain ⟨u, r, hu⟩ : ∃ u r, splitC 58 (cutC 58 l).2.1 = u :: r := by
        cases hq : splitC 58 (cutC 58 l).2.1 with
        | nil => exact absurd hq (splitC_ne _ _)
        | cons u r => exact ⟨u, r, rfl⟩
      rw [if_pos rfl, hu, rowS, ih, hu]
      rfl
theorem rowV_split (nb : Bool) (l : List UInt8) : rowV nb l = if l = [] then some [] else rowS nb (splitC 58 l) := by
  unfold rowV; rw [rowGo_split nb _ l (by omega)]
/-- Texts with : between. -/
def joinC : List (List UInt8) → List UInt8
  | [] => []
  | [t] => t
  | t :: u :: r => t ++ 58 :: joinC (u :: r)
theorem joinC_cons (t : List UInt8) (r : List (List UInt8)) : joinC (t :: r) = t ++ (if r = [] then [] else 58 :: joinC r) := by
  cases r with
  | nil => simp [joinC]
  | cons u r => simp [joinC]
theorem joinC_snoc (r : List (List UInt8)) (t : List UInt8) : joinC (r ++ [t]) = (if r = [] then [] else joinC r ++ [58]) ++ t := by
  induction r with
  | nil => simp [joinC]
  | cons u r ih =>
    rw [List.cons_append, joinC_cons, ih, joinC_cons]
    by_cases h : r = []
    · subst h; simp
    · simp [h]
theorem joinC_append (a b : List (List UInt8)) (ha : a ≠ []) (hb : b ≠ []) : joinC (a ++ b) = joinC a ++ 58 :: joinC b := by
  induction a with
  | nil => exact absurd rfl ha
  | cons t r ih =>
    rw [List.cons_append, joinC_cons, joinC_cons]
    by_cases h : r = []
    · subst h; simp [hb]
    · rw [ih h]; simp [h]
/-- A text that stands between colons: not empty, no colon in it. -/
def Bet (t : List UInt8) : Prop := t ≠ [] ∧ ∀ c ∈ t, c ≠ 58
theorem split_join : ∀ ts : List (List UInt8), ts ≠ [] → (∀ t ∈ ts, ∀ c ∈ t, c ≠ 58) → splitC 58 (joinC ts) = ts
  | [], h, _ => absurd rfl h
  | [t], _, h => splitC_no t (h t (by simp))
  | t :: u :: r, _, h => by
    rw [joinC, splitC_append, splitC_no t (h t (by simp)), split_join (u :: r) (by simp) (fun x hx => h x (by simp at hx ⊢; exact .inr hx))]
    rfl
theorem joinC_ne {ts : List (List UInt8)} (h : ts ≠ []) (hb : ∀ t ∈ ts, Bet t) : joinC ts ≠ [] := by
  cases ts with
  | nil => exact absurd rfl h
  | cons t r =>
    rw [joinC_cons]
    intro e
    exact (hb t (by simp)).1 (List.append_eq_nil_iff.1 e).1
theorem rowV_join (nb : Bool) {ts : List (List UInt8)} (hb : ∀ t ∈ ts, Bet t) : rowV nb (joinC ts) = rowS nb ts := by
  rw [rowV_split]
  by_cases h : ts = []
  · subst h; rfl
  · rw [if_neg (joinC_ne h hb), split_join ts h (fun t ht => (hb t ht).2)]
theorem rowV_join2 (nb : Bool) {ts : List (List UInt8)} (hj : joinC ts ≠ []) (hb : ∀ t ∈ ts, ∀ c ∈ t, c ≠ 58) : rowV nb (joinC ts) = rowS nb ts := by
  rw [rowV_split, if_neg hj, split_join ts (by rintro rfl; exact hj rfl) hb]

theorem cutD_nil : cutD [] = ([], [], false) := by decide
theorem cutD_cons (c : UInt8) (r : List UInt8) : cutD (c :: r) = if c = 58 ∧ r.head? = some 58 then ([], r.tail, true) else (c :: (cutD r).1, (cutD r).2.1, (cutD r).2.2) := by
  unfold cutD Lib.cut
  have hp : ([58, 58] : List UInt8).isPrefixOf (c :: r) = decide (c = 58 ∧ r.head? = some 58) := by
    cases r with
    | nil => simp [List.isPrefixOf]
    | cons d r =>
      simp only [List.isPrefixOf, List.head?_cons, Option.some.injEq]
      rw [Bool.eq_iff_iff]
      simp only [Bool.and_true, Bool.and_eq_true, beq_iff_eq, decide_eq_true_eq]
      exact ⟨fun ⟨a, b⟩ => ⟨a.symm, b.symm⟩, fun ⟨a, b⟩ => ⟨a.symm, b.symm⟩⟩
  rw [Lib.index, hp]
  by_cases h : c = 58 ∧ r.head? = some 58
  · rw [decide_eq_true h, if_pos h]
    cases r with
    | nil => simp at h
    | cons d r => simp
  · rw [decide_eq_false h, if_neg h]
    have hg := Lib.index_ge r [58, 58]
    by_cases h1 : Lib.index r [58, 58] = -1
    · simp [h1]
    · have h0 : 0 ≤ Lib.index r [58, 58] := by omega
      have e2 : 0 ≤ Lib.index r [58, 58] + 1 := by omega
      have e : (Lib.index r [58, 58] + 1).toNat = (Lib.index r [58, 58]).toNat + 1 := by omega
      have e3 : (Lib.index r [58, 58]).toNat + 1 + 2 = ((Lib.index r [58, 58]).toNat + 2) + 1 := by omega
      simp [h1, h0, e, e2]
/-- Do two colons stand side by side? -/
def hasDD : List UInt8 → Bool
  | [] => false
  | c :: r => decide (c = 58 ∧ r.head? = some 58) || hasDD r
theorem cutD_none : ∀ l, hasDD l = false → cutD l = (l, [], false)
  | [], _ => cutD_nil
  | c :: r, h => by
    unfold hasDD at h
    rw [Bool.or_eq_false_iff, decide_eq_false_iff_not] at h
    rw [cutD_cons, if_neg h.1, cutD_none r h.2]
theorem cutD_at : ∀ (X Y : List UInt8), hasDD X = false → X.getLast? ≠ some 58 → cutD (X ++ 58 :: 58 :: Y) = (X, Y, true)
  | [], Y, _, _ => by rw [List.nil_append, cutD_cons, if_pos ⟨rfl, rfl⟩]; rfl
  | c :: r, Y, h, hl => by
    unfold hasDD at h
    rw [Bool.or_eq_false_iff, decide_eq_false_iff_not] at h
    rw [List.cons_append, cutD_cons]
    cases r with
    | nil =>
      have hc : c ≠ 58 := by rintro rfl; exact hl rfl
      rw [if_neg (fun h => hc h.1), List.nil_append, cutD_cons, if_pos ⟨rfl, rfl⟩]; rfl
    | cons d r =>
      rw [if_neg (by simpa using h.1), cutD_at (d :: r) Y h.2 (by rw [List.getLast?_cons_cons] at hl; exact hl)]
theorem hasDD_cons (c : UInt8) (r : List UInt8) : hasDD (c :: r) = (decide (c = 58 ∧ r.head? = some 58) || hasDD r) := rfl
theorem hasDD_append : ∀ (a b : List UInt8), hasDD (a ++ b) = (hasDD a || decide (a.getLast? = some 58 ∧ b.head? = some 58) || hasDD b)
  | [], b => by simp [hasDD]
  | [c], b => by simp [hasDD]
  | c :: d :: r, b => by
    have ih := hasDD_append (d :: r) b
    rw [List.cons_append, hasDD_cons, ih, hasDD_cons c (d :: r), List.getLast?_cons_cons]
    simp only [List.cons_append, List.head?_cons, Bool.or_assoc]
    rfl
theorem hasDD_no {t : List UInt8} (h : ∀ c ∈ t, c ≠ 58) : hasDD t = false := by
  induction t with
  | nil => rfl
  | cons c r ih =>
    unfold hasDD
    rw [ih (fun x hx => h x (by simp [hx])), decide_eq_false (fun e => h c (by simp) e.1)]; rfl
theorem last_ne {t : List UInt8} (h : ∀ c ∈ t, c ≠ 58) : t.getLast? ≠ some 58 := fun e => h 58 (List.mem_of_getLast? e) rfl
theorem head_ne {t : List UInt8} (h : ∀ c ∈ t, c ≠ 58) : t.head? ≠ some 58 := fun e => h 58 (List.mem_of_head? e) rfl
theorem join_head {ts : List (List UInt8)} (hb : ∀ t ∈ ts, Bet t) : (joinC ts).head? ≠ some 58 := by
  cases ts with
  | nil => simp [joinC]
  | cons t r =>
    obtain ⟨h1, h2⟩ := hb t (by simp)
    rw [joinC_cons]
    cases t with
    | nil => exact absurd rfl h1
    | cons c t => rw [List.cons_append, List.head?_cons]; exact head_ne (t := c :: t) h2
theorem join_last : ∀ {ts : List (List UInt8)}, (∀ t ∈ ts, Bet t) → (joinC ts).getLast? ≠ some 58
  | [], _ => by simp [joinC]
  | [t], hb => last_ne (hb t (by simp)).2
  | t :: u :: r, hb => by
    have ih := join_last (ts := u :: r) (fun x hx => hb x (by simp at hx ⊢; exact .inr hx))
    have hn := joinC_ne (ts := u :: r) (by simp) (fun x hx => hb x (by simp at hx ⊢; exact .inr hx))
    rw [joinC, List.getLast?_append]
    cases hj : joinC (u :: r) with
    | nil => exact absurd hj hn
    | cons x y =>
      rw [hj] at ih
      rw [List.getLast?_cons_cons]
      cases hq : (x :: y).getLast? with
      | none => simp at hq
      | some z => rw [hq] at ih; simpa using ih
theorem join_dd : ∀ {ts : List (List UInt8)}, (∀ t ∈ ts, Bet t) → hasDD (joinC ts) = false
  | [], _ => rfl
  | [t], hb => hasDD_no (hb t (by simp)).2
  | t :: u :: r, hb => by
    have hb2 : ∀ x ∈ u :: r, Bet x := fun x hx => hb x (by simp at hx ⊢; exact .inr hx)
    have ih := join_dd hb2
    rw [joinC, hasDD_append, hasDD_no (hb t (by simp)).2, decide_eq_false (fun e => last_ne (hb t (by simp)).2 e.1), hasDD, ih, decide_eq_false (fun e => join_head hb2 e.2)]
    rfl
/-- Each of these numbers is told by its text. -/
def Told (g : Nat → List UInt8) (l : List Nat) : Prop := ∀ n ∈ l, Bet (g n) ∧ ∀ last nb, pieceL last nb (g n) = some [n]
theorem Told.bet {g : Nat → List UInt8} {l : List Nat} (h : Told g l) : ∀ t ∈ l.map g, Bet t := by
  intro t ht
  obtain ⟨n, hn, rfl⟩ := List.mem_map.1 ht
  exact (h n hn).1
theorem rowS_told {g : Nat → List UInt8} (nb : Bool) : ∀ {l : List Nat}, Told g l → rowS nb (l.map g) = some l
  | [], _ => rfl
  | [n], h => (h n (by simp)).2 true nb
  | n :: m :: r, h => by
    have ih := rowS_told nb (l := m :: r) (fun x hx => h x (by simp at hx ⊢; exact .inr hx))
    rw [List.map_cons, List.map_cons] at *
    rw [rowS, (h n (by simp)).2 false nb]
    dsimp only
    rw [ih]; rfl
theorem rowC_told {g : Nat → List UInt8} (nb : Bool) {l : List Nat} (h : Told g l) (h8 : l.length ≤ 8) : rowC nb (joinC (l.map g)) = some l := by
  unfold rowC; rw [rowV_join nb h.bet, rowS_told nb h]; dsimp only; rw [if_pos h8]
theorem sixP_whole {g : Nat → List UInt8} {l : List Nat} (h : Told g l) (h8 : l.length = 8) : sixP (joinC (l.map g)) = some l := by
  unfold sixP
  rw [cutD_none _ (join_dd h.bet), if_neg (by simp), rowC_told true h (by omega)]
  dsimp only; rw [if_pos h8]
theorem sixP_two {g : Nat → List UInt8} {l m : List Nat} (h : Told g l) (k : Told g m) (h8 : l.length + m.length < 8) :
    sixP (joinC (l.map g) ++ 58 :: 58 :: joinC (m.map g)) = some (l ++ (List.replicate (8 - l.length - m.length) 0 ++ m)) := by
  unfold sixP
  rw [cutD_at _ _ (join_dd h.bet) (join_last h.bet), if_pos rfl]
  dsimp only
  rw [rowC_told false h (by omega), rowC_told true k (by omega)]
  dsimp only; rw [if_pos h8]
theorem hexF_mem : ∀ f n, ∀ c ∈ hexF f n, ∃ d, d < 16 ∧ c = hexC d
  | 0, n, c, h => by cases h
  | f + 1, n, c, h => by
    rw [hexF] at h
    split at h
    · simp at h; exact ⟨n, by assumption, h⟩
    · rcases List.mem_append.1 h with h | h
      · exact hexF_mem f (n / 16) c h
      · simp at h; exact ⟨n % 16, Nat.mod_lt _ (by decide), h⟩
theorem hexC_no : ∀ d : Fin 16, hexC d.val ≠ 58 ∧ hexC d.val ≠ 46 := by decide +kernel
theorem hexF_ne (f n : Nat) : hexF (f + 1) n ≠ [] := by rw [hexF]; split <;> simp
theorem digs_one (acc d : Nat) (h : d < 16) : digsGo 16 acc [hexC d] = some (acc * 16 + d) := by
  rw [digsGo, digitZ_hexC (b := 16) h (by decide), if_neg (by omega), digsGo]; simp
theorem digs_hexF : ∀ f n, n < 16 ^ (f + 1) → digsGo 16 0 (hexF (f + 1) n) = some n
  | 0, n, h => by
    rw [hexF, if_pos (by omega), digs_one 0 n (by omega)]; simp
  | f + 1, n, h => by
    rw [hexF]
    by_cases h2 : n < 16
    · rw [if_pos h2, digs_one 0 n h2]; simp
    · rw [if_neg h2, digsGo_append, digs_hexF f (n / 16) (by rw [Nat.pow_succ] at h; omega)]
      show digsGo 16 (n / 16) [hexC (n % 16)] = some n
      rw [digs_one _ _ (Nat.mod_lt _ (by decide)), Nat.mul_comm, Nat.div_add_mod]
theorem pieceL_plain {t : List UInt8} {v : Nat} (h : pieceV t = some v) (h46 : ∀ c ∈ t, c ≠ 46) (last nb : Bool) : pieceL last nb t = some [v] := by
  rw [pieceL_one (.inr (.inr (by
    cases hc : t.contains 46
    · rfl
    · exact absurd rfl (h46 46 (by simpa using hc))))), h]; rfl
theorem pieceV_hexL {n : Nat} (h : n < 65536) : pieceV (hexL n) = some n := by
  unfold pieceV digs1
  rw [if_neg (by have := hexL_len n; omega), if_neg (show ¬ hexL n = [] from hexF_ne 3 n)]
  exact digs_hexF 3 n (by omega)
theorem told_hexL {l : List Nat} (h : ∀ x ∈ l, x < 65536) : Told hexL l := by
  intro n hn
  refine ⟨⟨hexF_ne 3 n, ?_⟩, pieceL_plain (pieceV_hexL (h n hn)) ?_⟩
  · intro c hc
    obtain ⟨d, hd, rfl⟩ := hexF_mem 4 n c hc
    exact (hexC_no ⟨d, hd⟩).1
  · intro c hc
    obtain ⟨d, hd, rfl⟩ := hexF_mem 4 n c hc
    exact (hexC_no ⟨d, hd⟩).2
end Go.Proofs.YtgkbdcdfpoaifaaDoor
