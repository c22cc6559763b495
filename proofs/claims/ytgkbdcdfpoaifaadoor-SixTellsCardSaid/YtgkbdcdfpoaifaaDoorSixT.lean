/- Plain: an address as it is written: pieces, with :: in place of the longest run; it is read back; letters may be large or small; no program in sight. -/
import Derived.Test.YtgkbdcdfpoaifaaDoorSixS
namespace Go.Proofs.YtgkbdcdfpoaifaaDoor
open Go.RowKit
set_option linter.unusedVariables false
set_option linter.unusedSimpArgs false
set_option linter.unusedSectionVars false

def zrunB : List Bool → Nat
  | [] => 0
  | x :: r => if x = true then zrunB r + 1 else 0
def runGoB : Nat → List Bool → Nat → Nat → Nat → Nat × Nat
  | 0, _, _, b, e => (b, e)
  | f + 1, l, i, b, e =>
    if i < 8 then (if 2 ≤ zrunB (l.drop i) ∧ e - b < zrunB (l.drop i) then runGoB f l (i + zrunB (l.drop i) + 1) i (i + zrunB (l.drop i)) else runGoB f l (i + zrunB (l.drop i) + 1) b e) else (b, e)
def isZ (n : Nat) : Bool := decide (n = 0)
theorem zrun_B (l : List Nat) : zrun l = zrunB (l.map isZ) := by
  induction l with
  | nil => rfl
  | cons x r ih => rw [zrun, List.map_cons, zrunB, ih]; unfold isZ; simp only [decide_eq_true_eq]
theorem runGo_B (l : List Nat) : ∀ f i b e, runGo f l i b e = runGoB f (l.map isZ) i b e
  | 0, _, _, _ => rfl
  | f + 1, i, b, e => by
    rw [runGo, runGoB, zrun_B, List.map_drop, runGo_B l f, runGo_B l f]
def twiceB : List Bool → Bool
  | a :: b :: r => (a && b) || twiceB (b :: r)
  | _ => false
def runOk (p : List Bool) : Bool :=
  decide ((runGoB 8 p 0 0 0).1 ≤ (runGoB 8 p 0 0 0).2) && decide ((runGoB 8 p 0 0 0).2 ≤ 8) &&
    (!decide ((runGoB 8 p 0 0 0).1 < (runGoB 8 p 0 0 0).2) || (decide ((runGoB 8 p 0 0 0).1 + 2 ≤ (runGoB 8 p 0 0 0).2) && ((p.take (runGoB 8 p 0 0 0).2).drop (runGoB 8 p 0 0 0).1).all id)) &&
    (decide ((runGoB 8 p 0 0 0).1 < (runGoB 8 p 0 0 0).2) == twiceB p)
theorem run_ok : ∀ a b c d e f g h : Bool, runOk [a, b, c, d, e, f, g, h] = true := by decide +kernel
theorem run_facts {l : List Nat} (h : Six l) : (runL l).1 ≤ (runL l).2 ∧ (runL l).2 ≤ 8 ∧ ((runL l).1 < (runL l).2 → (runL l).1 + 2 ≤ (runL l).2 ∧ (l.take (runL l).2).drop (runL l).1 = List.replicate ((runL l).2 - (runL l).1) 0) ∧
    decide ((runL l).1 < (runL l).2) = twiceB (l.map isZ) := by
  have hr : runOk (l.map isZ) = true := by
    have hl := h.len
    match l, hl with
    | [a, b, c, d, e, f, g, i], _ => exact run_ok _ _ _ _ _ _ _ _
  unfold runOk at hr
  rw [← runGo_B l 8 0 0 0] at hr
  change (decide ((runL l).1 ≤ (runL l).2) && decide ((runL l).2 ≤ 8) && (!decide ((runL l).1 < (runL l).2) || (decide ((runL l).1 + 2 ≤ (runL l).2) && (((l.map isZ).take (runL l).2).drop (runL l).1).all id)) && (decide ((runL l).1 < (runL l).2) == twiceB (l.map isZ))) = true at hr
  simp only [Bool.and_eq_true, decide_eq_true_eq, beq_iff_eq, Bool.or_eq_true, Bool.not_eq_true', decide_eq_false_iff_not] at hr
  obtain ⟨⟨⟨h1, h2⟩, h3⟩, h4⟩ := hr
  refine ⟨h1, h2, fun hlt => ?_, h4⟩
  rcases h3 with h3 | ⟨h3, h5⟩
  · exact absurd hlt h3
  · refine ⟨h3, ?_⟩
    rw [List.eq_replicate_iff]
    refine ⟨by rw [List.length_drop, List.length_take, h.len]; omega, ?_⟩
    intro x hx
    rw [← List.map_take, ← List.map_drop, List.all_map, List.all_eq_true] at h5
    have := h5 x hx
    simpa [isZ] using this
theorem go_tail {l : List Nat} (hl : l.length = 8) {b e : Nat} (hbe : b < e) : ∀ f i, 8 ≤ i + f → e < i → sixGo f l b e i = if i < 8 then 58 :: joinC ((l.drop i).map hexL) else []
  | 0, i, h, _ => by rw [if_neg (by omega)]; rfl
  | f + 1, i, h, he => by
    rw [sixGo]
    by_cases h8 : i < 8
    · rw [if_pos h8, if_pos h8, if_neg (by omega), if_pos ⟨by omega, .inl (by omega)⟩, go_tail hl hbe f (i + 1) (by omega) (by omega), drop_getD i (by omega), List.map_cons, joinC_cons]
      by_cases h9 : i + 1 < 8
      · rw [if_pos h9, if_neg (by intro e; have := congrArg List.length e; simp at this; omega)]; simp
      · rw [if_neg h9, if_pos (by rw [List.drop_of_length_le (by omega)]; rfl)]; simp
    · rw [if_neg h8, if_neg h8]
theorem go_from {l : List Nat} (hl : l.length = 8) {b e : Nat} (hbe : b < e) (he8 : e ≤ 8) : ∀ f, 8 ≤ e + f → sixGo f l b e e = joinC ((l.drop e).map hexL)
  | 0, h => by rw [List.drop_of_length_le (by omega)]; rfl
  | f + 1, h => by
    rw [sixGo]
    by_cases h8 : e < 8
    · rw [if_pos h8, if_neg (by omega), if_neg (by omega), go_tail hl hbe f (e + 1) (by omega) (by omega), drop_getD e (by omega), List.map_cons, joinC_cons]
      by_cases h9 : e + 1 < 8
      · rw [if_pos h9, if_neg (by intro e; have := congrArg List.length e; simp at this; omega)]; simp
      · rw [if_neg h9, if_pos (by rw [List.drop_of_length_le (by omega)]; rfl)]; simp
    · rw [if_neg h8, List.drop_of_length_le (by omega)]; rfl
theorem go_front {l : List Nat} (hl : l.length = 8) {b e : Nat} (hbe : b < e) (he8 : e ≤ 8) : ∀ f i, 8 ≤ i + f → i ≤ b →
    sixGo f l b e i = (if 0 < i ∧ i < b then [58] else []) ++ joinC (((l.take b).drop i).map hexL) ++ 58 :: 58 :: joinC ((l.drop e).map hexL)
  | 0, i, h, hi => by omega
  | f + 1, i, h, hi => by
    rw [sixGo, if_pos (by omega)]
    by_cases hb : i = b
    · subst hb
      have hz : (l.take i).drop i = [] := List.drop_of_length_le (by rw [List.length_take]; omega)
      rw [if_pos ⟨rfl, hbe⟩, go_from hl hbe he8 f (by omega), if_neg (by omega), hz]
      rfl
    · have hd : (l.take b).drop i = pc l i :: (l.take b).drop (i + 1) := by
        rw [List.drop_take, List.drop_take, drop_getD i (by omega), show b - i = (b - (i + 1)) + 1 by omega, List.take_succ_cons]
      rw [if_neg (fun x => hb x.1), go_front hl hbe he8 f (i + 1) (by omega) (by omega), hd, List.map_cons, joinC_cons]
      have hn : ((((l.take b).drop (i + 1)).map hexL) = []) ↔ ¬ i + 1 < b := by
        rw [List.map_eq_nil_iff, List.drop_eq_nil_iff, List.length_take]; omega
      by_cases h9 : i + 1 < b
      · rw [show (if 0 < i + 1 ∧ i + 1 < b then ([58] : List UInt8) else []) = [58] from if_pos ⟨by omega, h9⟩, if_neg (fun x => (hn.1 x) h9)]
        by_cases h0 : 0 < i
        · rw [show (if 0 < i ∧ (i ≠ e ∨ e = b) then ([58] : List UInt8) else []) = [58] from if_pos ⟨h0, .inl (by omega)⟩, show (if 0 < i ∧ i < b then ([58] : List UInt8) else []) = [58] from if_pos ⟨h0, by omega⟩]; simp
        · rw [show (if 0 < i ∧ (i ≠ e ∨ e = b) then ([58] : List UInt8) else []) = [] from if_neg (fun x => h0 x.1), show (if 0 < i ∧ i < b then ([58] : List UInt8) else []) = [] from if_neg (fun x => h0 x.1)]; simp
      · rw [show (if 0 < i + 1 ∧ i + 1 < b then ([58] : List UInt8) else []) = [] from if_neg (fun x => h9 x.2), if_pos (hn.2 h9), hn.2 h9]
        by_cases h0 : 0 < i
        · rw [show (if 0 < i ∧ (i ≠ e ∨ e = b) then ([58] : List UInt8) else []) = [58] from if_pos ⟨h0, .inl (by omega)⟩, show (if 0 < i ∧ i < b then ([58] : List UInt8) else []) = [58] from if_pos ⟨h0, by omega⟩]; simp [joinC]
        · rw [show (if 0 < i ∧ (i ≠ e ∨ e = b) then ([58] : List UInt8) else []) = [] from if_neg (fun x => h0 x.1), show (if 0 < i ∧ i < b then ([58] : List UInt8) else []) = [] from if_neg (fun x => h0 x.1)]; simp [joinC]
theorem go_all {l : List Nat} (hl : l.length = 8) (b : Nat) : ∀ f i, 8 ≤ i + f → sixGo f l b b i = (if 0 < i ∧ i < 8 then [58] else []) ++ joinC ((l.drop i).map hexL)
  | 0, i, h => by rw [if_neg (by omega), List.drop_of_length_le (by omega)]; rfl
  | f + 1, i, h => by
    rw [sixGo]
    by_cases h8 : i < 8
    · rw [if_pos h8, if_neg (by omega), go_all hl b f (i + 1) (by omega), drop_getD i (by omega), List.map_cons, joinC_cons]
      have hn : (((l.drop (i + 1)).map hexL) = []) ↔ ¬ i + 1 < 8 := by
        rw [List.map_eq_nil_iff, List.drop_eq_nil_iff]; omega
      by_cases h9 : i + 1 < 8
      · rw [show (if 0 < i + 1 ∧ i + 1 < 8 then ([58] : List UInt8) else []) = [58] from if_pos ⟨by omega, h9⟩, if_neg (fun x => (hn.1 x) h9)]
        by_cases h0 : 0 < i
        · rw [show (if 0 < i ∧ (i ≠ b ∨ b = b) then ([58] : List UInt8) else []) = [58] from if_pos ⟨h0, .inr rfl⟩, show (if 0 < i ∧ i < 8 then ([58] : List UInt8) else []) = [58] from if_pos ⟨h0, by omega⟩]; simp
        · rw [show (if 0 < i ∧ (i ≠ b ∨ b = b) then ([58] : List UInt8) else []) = [] from if_neg (fun x => h0 x.1), show (if 0 < i ∧ i < 8 then ([58] : List UInt8) else []) = [] from if_neg (fun x => h0 x.1)]; simp
      · rw [show (if 0 < i + 1 ∧ i + 1 < 8 then ([58] : List UInt8) else []) = [] from if_neg (fun x => h9 x.2), if_pos (hn.2 h9), hn.2 h9]
        by_cases h0 : 0 < i
        · rw [show (if 0 < i ∧ (i ≠ b ∨ b = b) then ([58] : List UInt8) else []) = [58] from if_pos ⟨h0, .inr rfl⟩, show (if 0 < i ∧ i < 8 then ([58] : List UInt8) else []) = [58] from if_pos ⟨h0, by omega⟩]; simp [joinC]
        · rw [show (if 0 < i ∧ (i ≠ b ∨ b = b) then ([58] : List UInt8) else []) = [] from if_neg (fun x => h0 x.1), show (if 0 < i ∧ i < 8 then ([58] : List UInt8) else []) = [] from if_neg (fun x => h0 x.1)]; simp [joinC]
    · rw [if_neg h8, if_neg (fun x => h8 x.2), List.drop_of_length_le (by omega)]; rfl
theorem sixL_two {l : List Nat} (h : Six l) (hlt : (runL l).1 < (runL l).2) : sixL l = joinC ((l.take (runL l).1).map hexL) ++ 58 :: 58 :: joinC ((l.drop (runL l).2).map hexL) := by
  have := go_front h.len hlt (run_facts h).2.1 8 0 (by omega) (by omega)
  rw [if_neg (by omega), List.drop_zero, List.nil_append] at this
  exact this
theorem sixL_one {l : List Nat} (h : Six l) (hlt : ¬ (runL l).1 < (runL l).2) : sixL l = joinC (l.map hexL) := by
  have he : (runL l).2 = (runL l).1 := by have := (run_facts h).1; omega
  have := go_all h.len (runL l).1 8 0 (by omega)
  rw [if_neg (by omega), List.drop_zero, List.nil_append] at this
  unfold sixL
  rw [he]; exact this
theorem run_split {l : List Nat} (h : Six l) (hlt : (runL l).1 < (runL l).2) : l = l.take (runL l).1 ++ (List.replicate ((runL l).2 - (runL l).1) 0 ++ l.drop (runL l).2) := by
  obtain ⟨h1, h2, h3, h4⟩ := run_facts h
  rw [← (h3 hlt).2]
  have e : l.take (runL l).1 = (l.take (runL l).2).take (runL l).1 := by rw [List.take_take, Nat.min_eq_left (by omega)]
  conv => lhs; rw [← List.take_append_drop (runL l).2 l, ← List.take_append_drop (runL l).1 (l.take (runL l).2)]
  rw [e, List.append_assoc]
theorem sixP_sixL {l : List Nat} (h : Six l) : sixP (sixL l) = some l := by
  have ht : Told hexL l := told_hexL h.lt
  by_cases hlt : (runL l).1 < (runL l).2
  · obtain ⟨h1, h2, h3, h4⟩ := run_facts h
    rw [sixL_two h hlt, sixP_two (told_hexL fun x hx => h.lt x (List.mem_of_mem_take hx)) (told_hexL fun x hx => h.lt x (List.mem_of_mem_drop hx)) (by rw [List.length_take, List.length_drop, h.len]; omega)]
    have e : 8 - (l.take (runL l).1).length - (l.drop (runL l).2).length = (runL l).2 - (runL l).1 := by rw [List.length_take, List.length_drop, h.len]; omega
    rw [e, ← run_split h hlt]
  · rw [sixL_one h hlt, sixP_whole ht h.len]

/-- A map of bytes that changes no digit's worth, no sign. -/
structure CaseMap (f : UInt8 → UInt8) : Prop where
  colon : ∀ c, f c = 58 ↔ c = 58
  point : ∀ c, f c = 46 ↔ c = 46
  nought : ∀ c, f c = 48 ↔ c = 48
  worth : ∀ c, worthZ ((f c).toNat : Int) = worthZ (c.toNat : Int)
section
variable {f : UInt8 → UInt8} (h : CaseMap f)
include h
theorem case_digit (c : UInt8) (b : Int) : digitZ ((f c).toNat : Int) b = digitZ (c.toNat : Int) b := by unfold digitZ; rw [h.worth]
theorem case_digs (b : Nat) : ∀ (l : List UInt8) (acc : Nat), digsGo b acc (l.map f) = digsGo b acc l
  | [], _ => rfl
  | c :: r, acc => by rw [List.map_cons, digsGo, digsGo, case_digit h, case_digs b r]
theorem case_digs1 (b : Nat) (l : List UInt8) : digs1 b (l.map f) = digs1 b l := by
  unfold digs1; rw [case_digs h]; simp only [List.map_eq_nil_iff]
theorem case_cut {x : UInt8} (hx : ∀ c, f c = x ↔ c = x) : ∀ l : List UInt8, cutC x (l.map f) = ((cutC x l).1.map f, (cutC x l).2.1.map f, (cutC x l).2.2)
  | [] => rfl
  | c :: r => by
    rw [List.map_cons, cutC, cutC, case_cut hx r]
    by_cases hc : c = x
    · rw [if_pos ((hx c).2 hc), if_pos hc]; rfl
    · rw [if_neg (fun e => hc ((hx c).1 e)), if_neg hc]; rfl
theorem case_byte (l : List UInt8) : byteV10 (l.map f) = byteV10 l := by
  unfold byteV10
  rw [case_digs1 h, List.length_map]
  have : (l.map f).head? = some 48 ↔ l.head? = some 48 := by
    cases l with
    | nil => simp
    | cons c r => simp [h.nought]
  simp only [this]
theorem case_fourGo : ∀ k acc (l : List UInt8), fourGo k acc (l.map f) = fourGo k acc l
  | 0, acc, l => by rw [fourGo, fourGo, case_cut h h.point]; dsimp only; rw [case_byte h]
  | k + 1, acc, l => by
    rw [fourGo, fourGo, case_cut h h.point]; dsimp only; rw [case_byte h]
    cases byteV10 (cutC 46 l).1 with
    | none => rfl
    | some v => simp only [case_fourGo k]
theorem case_contains (l : List UInt8) : (l.map f).contains 46 = l.contains 46 := by
  induction l with
  | nil => rfl
  | cons c r ih =>
    rw [List.map_cons, List.contains_cons, List.contains_cons, ih]
    congr 1
    rw [Bool.eq_iff_iff, beq_iff_eq, beq_iff_eq]
    exact ⟨fun e => ((h.point c).1 e.symm).symm, fun e => ((h.point c).2 e.symm).symm⟩
theorem case_piece (last nb : Bool) (l : List UInt8) : pieceL last nb (l.map f) = pieceL last nb l := by
  unfold pieceL
  rw [case_contains h]
  unfold fourV pieceV
  rw [case_fourGo h, case_digs1 h, List.length_map]
theorem case_rowGo (nb : Bool) : ∀ k (l : List UInt8), rowGo nb k (l.map f) = rowGo nb k l
  | 0, _ => rfl
  | k + 1, l => by
    rw [rowGo, rowGo, case_cut h h.colon]; dsimp only; rw [case_piece h]
    cases pieceL (!(cutC 58 l).2.2) nb (cutC 58 l).1 with
    | none => rfl
    | some x => simp only [case_rowGo nb k]
theorem case_rowC (nb : Bool) (l : List UInt8) : rowC nb (l.map f) = rowC nb l := by
  unfold rowC rowV
  rw [case_rowGo h, List.length_map]
  simp only [List.map_eq_nil_iff]
theorem case_cutD : ∀ l : List UInt8, cutD (l.map f) = ((cutD l).1.map f, (cutD l).2.1.map f, (cutD l).2.2)
  | [] => by rw [List.map_nil, cutD_nil]; rfl
  | c :: r => by
    rw [List.map_cons, cutD_cons, cutD_cons, case_cutD r]
    have e : (f c = 58 ∧ (r.map f).head? = some 58) ↔ (c = 58 ∧ r.head? = some 58) := by
      cases r with
      | nil => simp
      | cons d r => simp [h.colon]
    by_cases hc : c = 58 ∧ r.head? = some 58
    · rw [if_pos (e.2 hc), if_pos hc, List.map_tail]; rfl
    · rw [if_neg (fun x => hc (e.1 x)), if_neg hc]; rfl
theorem sixP_case (l : List UInt8) : sixP (l.map f) = sixP l := by
  unfold sixP
  rw [case_cutD h]; dsimp only
  rw [case_rowC h, case_rowC h, case_rowC h]
end
/-- Small letters made large, up to this one. -/
def upTo (k : Nat) (c : UInt8) : UInt8 := if 97 ≤ c.toNat ∧ c.toNat ≤ k then UInt8.ofNat (c.toNat - 32) else c
theorem byte_cases {p : UInt8 → Prop} (h : ∀ n : Fin 256, p (UInt8.ofNat n.val)) (c : UInt8) : p c := by
  have := h ⟨c.toNat, c.toNat_lt⟩
  simpa using this
theorem case_upTo122 : CaseMap (upTo 122) := ⟨byte_cases (by decide +kernel), byte_cases (by decide +kernel), byte_cases (by decide +kernel), byte_cases (by decide +kernel)⟩
theorem case_upTo102 : CaseMap (upTo 102) := ⟨byte_cases (by decide +kernel), byte_cases (by decide +kernel), byte_cases (by decide +kernel), byte_cases (by decide +kernel)⟩
theorem case_lower : CaseMap lowerC := ⟨byte_cases (by decide +kernel), byte_cases (by decide +kernel), byte_cases (by decide +kernel), byte_cases (by decide +kernel)⟩
end Go.Proofs.YtgkbdcdfpoaifaaDoor
