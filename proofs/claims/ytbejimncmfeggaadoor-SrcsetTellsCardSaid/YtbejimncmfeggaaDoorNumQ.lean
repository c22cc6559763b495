/- What is no float's text: no program in sight. -/
import Derived.Test.YtbejimncmfeggaaDoorNumP
namespace Go.Proofs.YtbejimncmfeggaaDoor
open Go.RowKit
set_option linter.unusedVariables false

/-- A digit of ten. -/
def dig (c : UInt8) : Bool := decide (48 ≤ c.toNat) && decide (c.toNat ≤ 57)
theorem digitZ_dig0 : ∀ n : Fin 256, (decide (digitZ (n.val : Int) 10 < 0)) = !(decide (48 ≤ n.val) && decide (n.val ≤ 57)) := by decide +kernel
theorem digitZ_dig (c : UInt8) : digitZ (c.toNat : Int) ((10 : Nat) : Int) < 0 ↔ dig c = false := by
  have := digitZ_dig0 ⟨c.toNat, c.toNat_lt⟩
  unfold dig
  constructor
  · intro h
    rw [decide_eq_true (show digitZ (c.toNat : Int) 10 < 0 from h)] at this
    have this : true = !(decide (48 ≤ c.toNat) && decide (c.toNat ≤ 57)) := this
    cases hq : (decide (48 ≤ c.toNat) && decide (c.toNat ≤ 57))
    · rfl
    · rw [hq] at this; cases this
  · intro h
    apply of_decide_eq_true (p := digitZ (c.toNat : Int) 10 < 0)
    rw [this]
    show (!(decide (48 ≤ c.toNat) && decide (c.toNat ≤ 57))) = true
    rw [h]; rfl
theorem digsGo_dig {l : List UInt8} {n : Nat} : ∀ (acc : Nat), digsGo 10 acc l = some n → ∀ c ∈ l, dig c = true := by
  induction l with
  | nil => intro acc h c hc; cases hc
  | cons d r ih =>
    intro acc h c hc
    rw [digsGo] at h
    split at h
    · cases h
    · rename_i hd
      rcases List.mem_cons.1 hc with rfl | hc
      · cases hx : dig c
        · exact absurd ((digitZ_dig c).2 hx) hd
        · rfl
      · exact ih _ h c hc
theorem digs1_dig {l : List UInt8} {n : Nat} (h : digs1 10 l = some n) : l ≠ [] ∧ ∀ c ∈ l, dig c = true := by
  unfold digs1 at h
  split at h
  · cases h
  · rename_i hn; exact ⟨hn, digsGo_dig 0 h⟩
theorem digsGo_yes {l : List UInt8} : ∀ (acc : Nat), (∀ c ∈ l, dig c = true) → ∃ n, digsGo 10 acc l = some n := by
  induction l with
  | nil => intro acc _; exact ⟨acc, rfl⟩
  | cons d r ih =>
    intro acc h
    have hd : ¬ digitZ (d.toNat : Int) ((10 : Nat) : Int) < 0 := fun hx => by
      have := (digitZ_dig d).1 hx
      rw [h d (List.mem_cons_self ..)] at this; cases this
    rw [digsGo, if_neg hd]
    exact ih _ fun c hc => h c (List.mem_cons_of_mem _ hc)
theorem expoV_inv {r : List UInt8} {v : Int} (h : expoV r = some v) : ∃ s d : List UInt8, r = s ++ d ∧ (s = [] ∨ s = [45] ∨ s = [43]) ∧ d ≠ [] ∧ ∀ c ∈ d, dig c = true := by
  have key : ∀ d : List UInt8, (expD d).isSome = true → d ≠ [] ∧ ∀ c ∈ d, dig c = true := fun d hd => by
    obtain ⟨n, hn⟩ := Option.isSome_iff_exists.1 hd
    unfold expD at hn
    split at hn
    · cases hn
    · exact digs1_dig hn
  unfold expoV at h
  split at h
  all_goals
    rw [Option.map_eq_some_iff] at h
    obtain ⟨n, hn, _⟩ := h
    have hk := key _ (by rw [hn]; rfl)
  · exact ⟨[45], _, rfl, .inr (.inl rfl), hk⟩
  · exact ⟨[43], _, rfl, .inr (.inr rfl), hk⟩
  · exact ⟨[], _, rfl, .inl rfl, hk⟩
structure QInv (l : List UInt8) : Prop where
  ne : (cutC 46 (cutE l).1).1 ++ (cutC 46 (cutE l).1).2.1 ≠ []
  dg : ∀ c ∈ (cutC 46 (cutE l).1).1 ++ (cutC 46 (cutE l).1).2.1, dig c = true
  pt : ¬ ((cutC 46 (cutE l).1).2.2 = true ∧ (cutC 46 (cutE l).1).2.1 = [])
  ex : ∀ r, (cutE l).2 = some r → ∃ v, expoV r = some v
theorem floatQ_inv {l : List UInt8} {x : Nat × Int} (h : floatQ l = some x) : QInv l := by
  have hex : ∀ r, (cutE l).2 = some r → ∃ v, expoV r = some v := by
    intro r hr
    cases hv : expoV r with
    | some v => exact ⟨v, rfl⟩
    | none =>
      have : cutE l = ((cutE l).1, some r) := by rw [← hr]
      rw [floatQ_bad this hv] at h; cases h
  have ht : ∃ m, tailQ (cutE l).1 m = some x := by
    cases hr : (cutE l).2 with
    | none =>
      have e : l = (cutE l).1 := by
        clear h hex
        induction l with
        | nil => rfl
        | cons c r ih =>
          rw [cutE] at hr ⊢
          split at hr
          · cases hr
          · rename_i hc
            rw [if_neg hc]
            show c :: r = c :: (cutE r).1
            rw [← ih hr]
      have e2 : cutE l = (l, none) := Prod.ext e.symm hr
      rw [floatQ_none e2] at h
      rw [← e]; exact ⟨0, h⟩
    | some r =>
      obtain ⟨v, hv⟩ := hex r hr
      have : cutE l = ((cutE l).1, some r) := by rw [← hr]
      rw [floatQ_some this hv] at h
      exact ⟨v, h⟩
  obtain ⟨m, ht⟩ := ht
  unfold tailQ at ht
  split at ht
  · cases ht
  · rename_i hp
    split at ht
    · cases ht
    · rename_i n hn
      have hd := digs1_dig hn
      exact ⟨hd.1, hd.2, fun hx => hp (.inl hx), hex⟩
theorem cutE_all (l : List UInt8) : ∃ t : List UInt8, l = (cutE l).1 ++ t ∧ (((cutE l).2 = none ∧ t = []) ∨ ∃ c r, (cutE l).2 = some r ∧ t = c :: r ∧ (c = 101 ∨ c = 69)) := by
  induction l with
  | nil => exact ⟨[], rfl, .inl ⟨rfl, rfl⟩⟩
  | cons c r ih =>
    rw [cutE]
    split
    · rename_i hc; exact ⟨c :: r, rfl, .inr ⟨c, r, rfl, rfl, hc⟩⟩
    · obtain ⟨t, h1, h2⟩ := ih
      exact ⟨t, by show c :: r = c :: ((cutE r).1 ++ t); rw [← h1], h2⟩
/-- A sign that may stand in a float's text. -/
def okF (c : UInt8) : Bool := dig c || c == 46 || c == 45 || c == 43 || c == 101 || c == 69
theorem okF_dig {c : UInt8} (h : dig c = true) : okF c = true := by unfold okF; rw [h]; simp
theorem floatQ_ok {l : List UInt8} {x : Nat × Int} (h : floatQ l = some x) : ∀ c ∈ l, okF c = true := by
  have hi := floatQ_inv h
  obtain ⟨t, h1, h2⟩ := cutE_all l
  intro c hc
  rw [h1] at hc
  rcases List.mem_append.1 hc with hc | hc
  · rw [cutC_all 46 (cutE l).1] at hc
    rcases List.mem_append.1 hc with hc | hc
    · exact okF_dig (hi.dg c (List.mem_append_left _ hc))
    · split at hc
      · rcases List.mem_cons.1 hc with rfl | hc
        · decide
        · exact okF_dig (hi.dg c (List.mem_append_right _ hc))
      · cases hc
  · rcases h2 with ⟨_, rfl⟩ | ⟨d, r, hr, rfl, hd⟩
    · cases hc
    · rcases List.mem_cons.1 hc with rfl | hc
      · rcases hd with rfl | rfl <;> decide
      · obtain ⟨v, hv⟩ := hi.ex r hr
        obtain ⟨s, d2, rfl, hs, _, hd2⟩ := expoV_inv hv
        rcases List.mem_append.1 hc with hc | hc
        · rcases hs with rfl | rfl | rfl
          · cases hc
          · obtain rfl : c = 45 := by simpa using hc
            decide
          · obtain rfl : c = 43 := by simpa using hc
            decide
        · exact okF_dig (hd2 c hc)
theorem floatP_ok {l : List UInt8} (h : (floatP l).isSome = true) : ∀ c ∈ l, okF c = true := by
  unfold floatP at h
  split at h
  · rw [Option.isSome_map] at h
    obtain ⟨x, hx⟩ := Option.isSome_iff_exists.1 h
    intro c hc
    rcases List.mem_cons.1 hc with rfl | hc
    · decide
    · exact floatQ_ok hx c hc
  · rw [Option.isSome_map] at h
    obtain ⟨x, hx⟩ := Option.isSome_iff_exists.1 h
    exact floatQ_ok hx
theorem floatQ_head {c : UInt8} {l : List UInt8} (h : c ≠ 46 ∧ c ≠ 101 ∧ c ≠ 69) (hd : dig c = false) : floatQ (c :: l) = none := by
  cases hq : floatQ (c :: l) with
  | none => rfl
  | some x =>
    have hi := (floatQ_inv hq).dg c (by
      rw [cutE, if_neg (by rintro (h1 | h1); exact h.2.1 h1; exact h.2.2 h1)]
      show c ∈ (cutC 46 (c :: (cutE l).1)).1 ++ _
      rw [cutC, if_neg h.1]
      exact List.mem_append_left _ (List.mem_cons_self ..))
    rw [hd] at hi; cases hi
theorem floatP_plus (l : List UInt8) : floatP (43 :: l) = none := by
  show (floatQ (43 :: l)).map _ = none
  rw [floatQ_head (by decide) (by decide)]; rfl
theorem floatP_twice (l : List UInt8) : floatP (45 :: 45 :: l) = none := by
  show (floatQ (45 :: l)).map _ = none
  rw [floatQ_head (by decide) (by decide)]; rfl
theorem cutE_end {l : List UInt8} (h : (cutE l).2 = none) : cutE (l ++ [46]) = ((cutE l).1 ++ [46], none) := by
  induction l with
  | nil => rfl
  | cons c r ih =>
    rw [cutE] at h
    rw [List.cons_append, cutE, cutE]
    split at h
    · cases h
    · rename_i hc
      rw [if_neg hc, if_neg hc, ih h]; rfl
theorem cutE_end2 {l r : List UInt8} (h : (cutE l).2 = some r) : cutE (l ++ [46]) = ((cutE l).1, some (r ++ [46])) := by
  induction l with
  | nil => cases h
  | cons c q ih =>
    rw [cutE] at h
    rw [List.cons_append, cutE, cutE]
    split at h
    · rename_i hc
      rw [if_pos hc, if_pos hc, Option.some.inj h]
    · rename_i hc
      rw [if_neg hc, if_neg hc, ih h]
theorem cutC_end {l : List UInt8} (h : (cutC 46 l).2.2 = true) : cutC 46 (l ++ [46]) = ((cutC 46 l).1, (cutC 46 l).2.1 ++ [46], true) := by
  induction l with
  | nil => cases h
  | cons c r ih =>
    rw [cutC] at h
    rw [List.cons_append, cutC, cutC]
    split at h
    · rename_i hc
      rw [if_pos hc, if_pos hc]
    · rename_i hc
      rw [if_neg hc, if_neg hc, ih h]
theorem floatQ_end (l : List UInt8) : floatQ (l ++ [46]) = none := by
  cases hq : floatQ (l ++ [46]) with
  | none => rfl
  | some x =>
    have hi := floatQ_inv hq
    exfalso
    cases hr : (cutE l).2 with
    | some r =>
      obtain ⟨v, hv⟩ := hi.ex (r ++ [46]) (by rw [cutE_end2 hr])
      obtain ⟨s, d, hsd, hs, hd, hdd⟩ := expoV_inv hv
      have h1 : (r ++ [46]).getLast? = some 46 := by simp
      have h2 : (s ++ d).getLast? = d.getLast? := by
        cases d with
        | nil => exact absurd rfl hd
        | cons a t =>
          rw [List.getLast?_append]
          cases h : (a :: t).getLast? with
          | none => rw [List.getLast?_eq_none_iff] at h; cases h
          | some y => rfl
      rw [hsd, h2] at h1
      have := hdd 46 (List.mem_of_getLast? h1)
      exact absurd this (by decide)
    | none =>
      have he := cutE_end hr
      have hdg := hi.dg
      have hpt := hi.pt
      rw [he] at hdg hpt
      cases hp : (cutC 46 (cutE l).1).2.2
      · have hn := cutC_none 46 (cutE l).1 hp
        have hh := cutC_has (c := 46) (cutE l).1 [] (by
          have := cutC_ahead 46 (cutE l).1
          rw [hn.1] at this; exact this)
        rw [hh] at hpt
        exact hpt ⟨rfl, rfl⟩
      · rw [cutC_end hp] at hdg
        exact absurd (hdg 46 (List.mem_append_right _ (List.mem_append_right _ (List.mem_cons_self ..)))) (by decide)
theorem floatP_end {l : List UInt8} (h : (floatP l).isSome = true) : floatP (l ++ [46]) = none := by
  cases l with
  | nil => exact absurd h (by decide)
  | cons c r =>
    rw [List.cons_append]
    by_cases hc : c = 45
    · subst hc
      show (floatQ (r ++ [46])).map _ = none
      rw [floatQ_end]; rfl
    · unfold floatP
      split
      · rename_i heq; exact absurd (List.cons.inj heq).1 hc
      · rw [← List.cons_append, floatQ_end]; rfl
/-- A sign - ahead makes a text of one that has none, and no text of another. -/
theorem floatP_minus {c : UInt8} {l : List UInt8} (h : (floatP (c :: l)).isSome = true) : (floatP (45 :: c :: l)).isSome = !(c == 45) := by
  by_cases hc : c = 45
  · subst hc; rw [floatP_twice]; rfl
  · have e : (floatP (45 :: c :: l)).isSome = (floatQ (c :: l)).isSome := by
      show ((floatQ (c :: l)).map _).isSome = _
      rw [Option.isSome_map]
    have e2 : (floatP (c :: l)).isSome = (floatQ (c :: l)).isSome := by
      unfold floatP
      split
      · rename_i heq; exact absurd (List.cons.inj heq).1 hc
      · rw [Option.isSome_map]
    rw [e, ← e2, h]
    simp [hc]
end Go.Proofs.YtbejimncmfeggaaDoor
