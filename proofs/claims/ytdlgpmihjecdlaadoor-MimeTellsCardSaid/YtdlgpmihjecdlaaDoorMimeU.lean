/- Plain: an essence is its own; no program in sight. -/
import Derived.Test.YtdlgpmihjecdlaaDoorMimeR
namespace Go.Proofs.YtdlgpmihjecdlaaDoor
open Go.RowKit
set_option linter.unusedVariables false
set_option linter.unusedSimpArgs false

theorem byte_all {p : UInt8 → Prop} (h : ∀ n : Fin 256, p (UInt8.ofNat n.val)) (c : UInt8) : p c := by
  have := h ⟨c.toNat, c.toNat_lt⟩
  simpa using this
/-- A sign of a token, made small. -/
theorem tok_lower (c : UInt8) : tokC c = true → tokC (lowerC c) = true ∧ lowerC (lowerC c) = lowerC c ∧ spZ ((lowerC c).toNat : Int) = false ∧ lowerC c ≠ 47 ∧ lowerC c ≠ 59 ∧ lowerC c ≠ 44 ∧ 32 < (lowerC c).toNat ∧ (lowerC c).toNat < 127 :=
  byte_all (p := fun c => tokC c = true → tokC (lowerC c) = true ∧ lowerC (lowerC c) = lowerC c ∧ spZ ((lowerC c).toNat : Int) = false ∧ lowerC c ≠ 47 ∧ lowerC c ≠ 59 ∧ lowerC c ≠ 44 ∧ 32 < (lowerC c).toNat ∧ (lowerC c).toNat < 127) (by decide +kernel) c
/-- A small token. -/
structure Tok (l : List UInt8) : Prop where
  ne : l ≠ []
  at_ : ∀ c ∈ l, tokC c = true ∧ lowerC c = c ∧ spZ (c.toNat : Int) = false ∧ c ≠ 47 ∧ c ≠ 59 ∧ c ≠ 44 ∧ 32 < c.toNat ∧ c.toNat < 127
theorem tok_of {l : List UInt8} (h : tokB l = true) : Tok (lowerL l) := by
  unfold tokB at h
  rw [Bool.and_eq_true, List.all_eq_true] at h
  refine ⟨fun e => ?_, fun c hc => ?_⟩
  · have : l = [] := List.map_eq_nil_iff.1 e
    rw [this] at h; exact absurd h.1 (by decide)
  · obtain ⟨d, hd, rfl⟩ := List.mem_map.1 hc
    exact tok_lower d (h.2 d hd)
theorem Tok.is {l : List UInt8} (h : Tok l) : tokB l = true := by
  unfold tokB
  rw [Bool.and_eq_true, List.all_eq_true]
  refine ⟨?_, fun c hc => (h.at_ c hc).1⟩
  cases l with
  | nil => exact absurd rfl h.ne
  | cons c l => rfl
theorem Tok.lower {l : List UInt8} (h : Tok l) : lowerL l = l := by
  unfold lowerL
  conv => rhs; rw [← List.map_id l]
  exact List.map_congr_left fun c hc => (h.at_ c hc).2.1
theorem Tok.no47 {l : List UInt8} (h : Tok l) : ∀ d ∈ l, d ≠ 47 := fun c hc => (h.at_ c hc).2.2.2.1
theorem Tok.no59 {l : List UInt8} (h : Tok l) : ∀ d ∈ l, d ≠ 59 := fun c hc => (h.at_ c hc).2.2.2.2.1
theorem Tok.drop {l : List UInt8} (h : Tok l) (m : List UInt8) : dropZ spZ (l ++ m) = l ++ m := by
  cases l with
  | nil => exact absurd rfl h.ne
  | cons c l => rw [List.cons_append, dropZ_no (h.at_ c (List.mem_cons_self ..)).2.2.1]
theorem Tok.rdrop {l : List UInt8} (h : Tok l) : rdropZ spZ l = l := by
  obtain ⟨a, c, rfl⟩ : ∃ a c, l = a ++ [c] := ⟨l.dropLast, l.getLast h.ne, (List.dropLast_concat_getLast h.ne).symm⟩
  rw [rdropZ_keep (h.at_ c (by simp)).2.2.1]; rfl
theorem Tok.rdrop9 {l : List UInt8} (h : Tok l) : rdropZ spZ (l ++ [9]) = l := by
  obtain ⟨a, c, rfl⟩ : ∃ a c, l = a ++ [c] := ⟨l.dropLast, l.getLast h.ne, (List.dropLast_concat_getLast h.ne).symm⟩
  rw [List.append_assoc, List.singleton_append, rdropZ_keep (h.at_ c (by simp)).2.2.1]; rfl
/-- What an essence is. -/
theorem ess_form {l e : List UInt8} (h : essL l = some e) : ∃ a b, Tok a ∧ Tok b ∧ e = a ++ 47 :: b := by
  unfold essL essT at h
  split at h
  · cases h
  · split at h
    · rename_i h2
      exact ⟨_, _, tok_of h2.1, tok_of h2.2, (Option.some.inj h).symm⟩
    · cases h
theorem ess_again {a b : List UInt8} (ha : Tok a) (hb : Tok b) : essL (a ++ 47 :: b) = some (a ++ 47 :: b) := by
  rw [essL_left, ha.drop]
  unfold essT
  rw [cutC_has a b ha.no47, if_neg (by simp)]
  dsimp only
  rw [cutC_hasnot b hb.no59]
  dsimp only
  rw [hb.rdrop, if_pos ⟨ha.is, hb.is⟩, ha.lower, hb.lower]
theorem ess_more {a b : List UInt8} (ha : Tok a) (hb : Tok b) (m : List UInt8) : essL (32 :: ((a ++ 47 :: b) ++ 9 :: 59 :: m)) = some (a ++ 47 :: b) := by
  rw [essL_left, dropZ_yes (by decide), List.append_assoc, ha.drop, List.cons_append]
  unfold essT
  rw [cutC_has a _ ha.no47, if_neg (by simp)]
  dsimp only
  have e : b ++ 9 :: 59 :: m = (b ++ [9]) ++ 59 :: m := by simp
  rw [e, cutC_has (b ++ [9]) m (by
    intro d hd
    rcases List.mem_append.1 hd with hd | hd
    · exact hb.no59 d hd
    · simp at hd; rw [hd]; decide)]
  dsimp only
  rw [hb.rdrop9, if_pos ⟨ha.is, hb.is⟩, ha.lower, hb.lower]
/-- How many / there are. -/
def cnt47 (l : List UInt8) : Nat := (l.filter (· == 47)).length
theorem cnt47_snoc (l : List UInt8) (c : UInt8) : cnt47 (l ++ [c]) = cnt47 l + if c = 47 then 1 else 0 := by
  unfold cnt47
  rw [List.filter_append, List.length_append]
  by_cases h : c = 47
  · subst h; rfl
  · have : (c == 47) = false := by simpa using h
    rw [if_neg h, List.filter_cons, this]; rfl
theorem cnt47_le (l : List UInt8) : cnt47 l ≤ l.length := List.length_filter_le _ _
theorem Tok.cnt {l : List UInt8} (h : Tok l) : cnt47 l = 0 := by
  unfold cnt47
  rw [List.filter_eq_nil_iff.2 (fun c hc => by simpa using h.no47 c hc)]; rfl
theorem ess_cnt {a b : List UInt8} (ha : Tok a) (hb : Tok b) : cnt47 (a ++ 47 :: b) = 1 := by
  have e : a ++ 47 :: b = (a ++ [47]) ++ b := by simp
  have h2 : cnt47 ((a ++ [47]) ++ b) = cnt47 (a ++ [47]) + cnt47 b := by unfold cnt47; rw [List.filter_append, List.length_append]
  rw [e, h2, cnt47_snoc, ha.cnt, hb.cnt]; rfl
theorem ess_lower {a b : List UInt8} (ha : Tok a) (hb : Tok b) : lowerL (a ++ 47 :: b) = a ++ 47 :: b := by
  have h1 := ha.lower
  have h2 := hb.lower
  unfold lowerL at h1 h2 ⊢
  rw [List.map_append, List.map_cons, h1, h2]; rfl
theorem ess_signs {a b : List UInt8} (ha : Tok a) (hb : Tok b) : ∀ c ∈ a ++ 47 :: b, 32 < c.toNat ∧ c.toNat < 127 ∧ c ≠ 59 ∧ c ≠ 44 := by
  intro c hc
  rcases List.mem_append.1 hc with hc | hc
  · obtain ⟨_, _, _, _, h1, h2, h3, h4⟩ := ha.at_ c hc
    exact ⟨h3, h4, h1, h2⟩
  · rcases List.mem_cons.1 hc with rfl | hc
    · decide
    · obtain ⟨_, _, _, _, h1, h2, h3, h4⟩ := hb.at_ c hc
      exact ⟨h3, h4, h1, h2⟩
/-- All that is said of an essence. -/
structure EssIs (e : List UInt8) : Prop where
  again : essL e = some e
  more : ∀ m, essL (32 :: (e ++ 9 :: 59 :: m)) = some e
  cnt : cnt47 e = 1
  low : lowerL e = e
  signs : ∀ c ∈ e, 32 < c.toNat ∧ c.toNat < 127 ∧ c ≠ 59 ∧ c ≠ 44
theorem ess_is {l e : List UInt8} (h : essL l = some e) : EssIs e := by
  obtain ⟨a, b, ha, hb, rfl⟩ := ess_form h
  exact ⟨ess_again ha hb, ess_more ha hb, ess_cnt ha hb, ess_lower ha hb, ess_signs ha hb⟩
theorem essL_len {l e : List UInt8} (h : essL l = some e) : e.length ≤ l.length := by
  unfold essL essT at h
  have hl := cutC_len 47 (dropZ spZ (rdropZ spZ l))
  split at h
  · cases h
  · rename_i h0
    split at h
    · have h1 := Option.some.inj h
      rw [← h1, List.length_append, List.length_cons]
      have hh := congrArg List.length (cutC_has' (by simpa using h0))
      rw [List.length_append, List.length_cons] at hh
      have e1 : (lowerL (cutC 47 (dropZ spZ (rdropZ spZ l))).1).length = (cutC 47 (dropZ spZ (rdropZ spZ l))).1.length := List.length_map ..
      have e2 : (lowerL (rdropZ spZ (cutC 59 (cutC 47 (dropZ spZ (rdropZ spZ l))).2.1).1)).length = (rdropZ spZ (cutC 59 (cutC 47 (dropZ spZ (rdropZ spZ l))).2.1).1).length := List.length_map ..
      have h3 : (rdropZ spZ (cutC 59 (cutC 47 (dropZ spZ (rdropZ spZ l))).2.1).1).length ≤ (cutC 59 (cutC 47 (dropZ spZ (rdropZ spZ l))).2.1).1.length := by
        unfold rdropZ dropZ
        rw [List.length_reverse]
        exact Nat.le_trans (List.dropWhile_sublist _).length_le (by rw [List.length_reverse]; exact Nat.le_refl _)
      have h4 := cutC_len 59 (cutC 47 (dropZ spZ (rdropZ spZ l))).2.1
      have h5 : (dropZ spZ (rdropZ spZ l)).length ≤ l.length := by
        unfold rdropZ dropZ
        refine Nat.le_trans (List.dropWhile_sublist _).length_le ?_
        rw [List.length_reverse]
        exact Nat.le_trans (List.dropWhile_sublist _).length_le (by rw [List.length_reverse]; exact Nat.le_refl _)
      omega
    · cases h
end Go.Proofs.YtdlgpmihjecdlaaDoor
