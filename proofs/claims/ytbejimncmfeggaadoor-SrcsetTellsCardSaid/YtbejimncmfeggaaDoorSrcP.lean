/- Plain: what srcset reads of a list; what stands ahead, parentheses, and two lists: no program in sight. -/
import Derived.Test.YtbejimncmfeggaaDoorSrcD
import Derived.Test.YtbejimncmfeggaaDoorNumQ
namespace Go.Proofs.YtbejimncmfeggaaDoor
open Go.RowKit
set_option linter.unusedVariables false
set_option linter.unusedSimpArgs false

def notBl (c : UInt8) : Bool := !isBl c
def d0 : DSt := ⟨false, 0, false, 0, false, 0⟩
def takeAll : DSt → List (List UInt8) → Option DSt
  | st, [] => some st
  | st, t :: r => (takeS st t).bind fun st' => takeAll st' r
/-- What words say. -/
def descL (ws : List (List UInt8)) : Option DSt := (takeAll d0 ws).bind fun st => if (st.hh && !st.hw) = true then none else some st
structure Cand where
  url : List UInt8
  ws : List (List UInt8)
  st : DSt
/-- A text without the commas at its end. -/
def trimC (u : List UInt8) : List UInt8 := (u.reverse.dropWhile (fun c => c == 44)).reverse
/-- The address and its words, and what stands behind them. -/
def oneU (l : List UInt8) : (List UInt8 × List (List UInt8)) × List UInt8 :=
  if (l.takeWhile notBl).getLast? = some 44 then ((trimC (l.takeWhile notBl), []), l.dropWhile notBl)
  else ((l.takeWhile notBl, (dwL (l.dropWhile notBl)).1), (dwL (l.dropWhile notBl)).2.drop 1)
def candsOf (p : List UInt8 × List (List UInt8)) : List Cand := match descL p.2 with | none => [] | some st => [⟨p.1, p.2, st⟩]
def splF : Nat → List UInt8 → List Cand
  | 0, _ => []
  | n + 1, l => if l.dropWhile sepC = [] then [] else candsOf (oneU (l.dropWhile sepC)).1 ++ splF n (oneU (l.dropWhile sepC)).2
def splL (l : List UInt8) : List Cand := splF (l.length + 1) l

theorem dropHead {α : Type} (p : α → Bool) : ∀ (l : List α) {c r}, l.dropWhile p = c :: r → p c = false
  | [], _, _, h => by cases h
  | a :: l, c, r, h => by
    rw [List.dropWhile_cons] at h
    cases hp : p a
    · rw [hp, if_neg (by decide)] at h
      rw [List.cons.injEq] at h
      rw [← h.1]; exact hp
    · rw [hp, if_pos rfl] at h
      exact dropHead p l h
theorem drop_all {α : Type} (p : α → Bool) : ∀ (t s : List α), (∀ c ∈ t, p c = true) → (t ++ s).dropWhile p = s.dropWhile p
  | [], s, _ => rfl
  | a :: t, s, h => by
    rw [List.cons_append, List.dropWhile_cons, if_pos (h a (List.mem_cons_self ..))]
    exact drop_all p t s (fun c hc => h c (List.mem_cons_of_mem _ hc))
theorem drop_none {α : Type} (p : α → Bool) {l : List α} (h : l.dropWhile p = []) : ∀ c ∈ l, p c = true := by
  induction l with
  | nil => intro c hc; cases hc
  | cons a l ih =>
    intro c hc
    rw [List.dropWhile_cons] at h
    cases hp : p a
    · rw [hp, if_neg (by decide)] at h; cases h
    · rw [hp, if_pos rfl] at h
      rcases List.mem_cons.1 hc with rfl | hc
      · exact hp
      · exact ih h c hc
theorem drop_len {α : Type} (p : α → Bool) (l : List α) : (l.dropWhile p).length ≤ l.length := (List.dropWhile_sublist _).length_le
theorem drop_mem {α : Type} (p : α → Bool) {l : List α} {c : α} (h : c ∈ l.dropWhile p) : c ∈ l := (List.dropWhile_sublist _).mem h
theorem dwL_len : ∀ (n : Nat) (l : List UInt8), l.length ≤ n → (dwL l).2.length ≤ l.length := by
  intro n
  induction n with
  | zero => intro l hl; obtain rfl : l = [] := List.eq_nil_of_length_eq_zero (by omega); exact Nat.le_refl _
  | succ n ih =>
    intro l hl
    have h3 := drop_len isBl l
    rw [dwL_step]
    by_cases h : (runL wordS false (l.dropWhile isBl)).1 = []
    · rw [if_pos h]; exact h3
    · have h1 := runL_len wordS false (l.dropWhile isBl)
      have h2 := List.length_pos_iff.2 h
      rw [if_neg h]
      have := ih (runL wordS false (l.dropWhile isBl)).2.1 (by omega)
      show (dwL (runL wordS false (l.dropWhile isBl)).2.1).2.length ≤ l.length
      omega
theorem notBl_of {c : UInt8} (h : sepC c = false) : notBl c = true := by
  unfold sepC at h
  unfold notBl
  rw [Bool.or_eq_false_iff] at h
  rw [h.2]; rfl
theorem oneU_len {c : UInt8} {r : List UInt8} (h : sepC c = false) : (oneU (c :: r)).2.length ≤ r.length := by
  have e1 : (c :: r).dropWhile notBl = r.dropWhile notBl := by rw [List.dropWhile_cons, if_pos (notBl_of h)]
  have h3 := drop_len notBl r
  unfold oneU
  split
  · rw [e1]; exact h3
  · have := dwL_len _ _ (Nat.le_refl (r.dropWhile notBl).length)
    rw [e1]
    show ((dwL (r.dropWhile notBl)).2.drop 1).length ≤ r.length
    rw [List.length_drop]; omega
theorem splF_enough : ∀ (N : Nat) (l : List UInt8), l.length ≤ N → ∀ n, l.length < n → splF n l = splF (l.length + 1) l := by
  intro N
  induction N with
  | zero =>
    intro l hl n hn
    obtain rfl : l = [] := List.eq_nil_of_length_eq_zero (by omega)
    obtain ⟨m, rfl⟩ : ∃ m, n = m + 1 := ⟨n - 1, by omega⟩
    rfl
  | succ N ih =>
    intro l hl n hn
    obtain ⟨m, rfl⟩ : ∃ m, n = m + 1 := ⟨n - 1, by have : 0 ≤ l.length := Nat.zero_le _; omega⟩
    unfold splF
    have h3 := drop_len sepC l
    cases hd : l.dropWhile sepC with
    | nil => rw [if_pos rfl, if_pos rfl]
    | cons c r =>
      rw [hd] at h3
      have h4 := oneU_len (r := r) (dropHead sepC l hd)
      have h5 : r.length + 1 ≤ l.length := h3
      rw [if_neg (by simp), if_neg (by simp), ih _ (by omega) m (by omega), ih _ (by omega) l.length (by omega)]
theorem splL_step (l : List UInt8) : splL l = if l.dropWhile sepC = [] then [] else candsOf (oneU (l.dropWhile sepC)).1 ++ splL (oneU (l.dropWhile sepC)).2 := by
  unfold splL
  conv => lhs; unfold splF
  have h3 := drop_len sepC l
  cases hd : l.dropWhile sepC with
  | nil => rw [if_pos rfl, if_pos rfl]
  | cons c r =>
    rw [hd] at h3
    have h4 := oneU_len (r := r) (dropHead sepC l hd)
    have h5 : r.length + 1 ≤ l.length := h3
    rw [if_neg (by simp), if_neg (by simp), splF_enough _ _ (Nat.le_refl _) l.length (by omega)]
/-- What stands ahead changes nothing. -/
theorem splL_lead {t : List UInt8} (s : List UInt8) (h : ∀ c ∈ t, sepC c = true) : splL (t ++ s) = splL s := by
  rw [splL_step, splL_step s, drop_all sepC t s h]
theorem splL_seps {t : List UInt8} (h : ∀ c ∈ t, sepC c = true) : splL t = [] := by
  have := splL_lead [] h
  rw [List.append_nil] at this
  rw [this]; rfl

/-! What may stand in a word that says something. -/
def okW8 (c : UInt8) : Bool := okF c || c == 119 || c == 104 || c == 120
theorem okW8_facts : ∀ n : Fin 256, okW8 (UInt8.ofNat n.val) = true → sepC (UInt8.ofNat n.val) = false ∧ UInt8.ofNat n.val ≠ 40 ∧ UInt8.ofNat n.val ≠ 41 := by decide +kernel
theorem okW8_of {c : UInt8} (h : okW8 c = true) : sepC c = false ∧ c ≠ 40 ∧ c ≠ 41 := by
  have := okW8_facts ⟨c.toNat, c.toNat_lt⟩
  simp only [UInt8.ofNat_toNat] at this
  exact this h
theorem takeS_ok {st st' : DSt} {t : List UInt8} (h : takeS st t = some st') : t ≠ [] ∧ ∀ c ∈ t, okW8 c = true := by
  unfold takeS at h
  cases hl : t.getLast? with
  | none => rw [hl] at h; cases h
  | some d =>
    rw [hl] at h
    have hne : t ≠ [] := by rintro rfl; cases hl
    have hsp : t = t.dropLast ++ [d] := by
      rw [List.getLast?_eq_some_getLast hne] at hl
      cases hl
      exact (List.dropLast_concat_getLast hne).symm
    have dg : ∀ m, digs1 10 t.dropLast = some m → ∀ c ∈ t.dropLast, okW8 c = true := fun m hm c hc => by
      unfold okW8; rw [okF_dig ((digs1_dig hm).2 c hc)]; rfl
    have key : (∀ c ∈ t.dropLast, okW8 c = true) ∧ okW8 d = true := by
      unfold takeC at h
      dsimp only at h
      split at h
      · rename_i hd
        refine ⟨?_, by rw [hd]; decide⟩
        split at h
        · rename_i hk
          unfold okW at hk
          cases hn : digs1 10 t.dropLast with
          | none => rw [hn] at hk; simp at hk
          | some m => exact dg m hn
        · cases h
      · split at h
        · rename_i hd
          refine ⟨?_, by rw [hd]; decide⟩
          split at h
          · rename_i hk
            unfold okH at hk
            cases hn : digs1 10 t.dropLast with
            | none => rw [hn] at hk; simp at hk
            | some m => exact dg m hn
          · cases h
        · split at h
          · rename_i hd
            refine ⟨?_, by rw [hd]; decide⟩
            split at h
            · rename_i hk
              unfold okX at hk
              cases hn : floatP t.dropLast with
              | none => rw [hn] at hk; simp at hk
              | some m => exact fun c hc => by unfold okW8; rw [floatP_ok (by rw [hn]; rfl) c hc]; rfl
            · cases h
          · cases h
    refine ⟨hne, fun c hc => ?_⟩
    rw [hsp] at hc
    rcases List.mem_append.1 hc with hc | hc
    · exact key.1 c hc
    · rw [List.mem_singleton.1 hc]; exact key.2
theorem takeAll_ok : ∀ (ws : List (List UInt8)) (st : DSt) {st' : DSt}, takeAll st ws = some st' → ∀ t ∈ ws, t ≠ [] ∧ ∀ c ∈ t, okW8 c = true := by
  intro ws
  induction ws with
  | nil => intro st st' _ t ht; cases ht
  | cons a r ih =>
    intro st st' h t ht
    unfold takeAll at h
    cases ha : takeS st a with
    | none => rw [ha] at h; cases h
    | some s2 =>
      rw [ha] at h
      rcases List.mem_cons.1 ht with rfl | ht
      · exact takeS_ok ha
      · exact ih s2 h t ht
theorem descL_ok {ws : List (List UInt8)} {st : DSt} (h : descL ws = some st) : ∀ t ∈ ws, t ≠ [] ∧ ∀ c ∈ t, okW8 c = true := by
  unfold descL at h
  cases ha : takeAll d0 ws with
  | none => rw [ha] at h; cases h
  | some s2 => exact takeAll_ok ws d0 ha
theorem descL_bad {ws : List (List UInt8)} {t : List UInt8} (ht : t ∈ ws) {c : UInt8} (hc : c ∈ t) (h : c = 40 ∨ c = 41) : descL ws = none := by
  cases hd : descL ws with
  | none => rfl
  | some st =>
    have := okW8_of ((descL_ok hd t ht).2 c hc)
    rcases h with rfl | rfl
    · exact absurd rfl this.2.1
    · exact absurd rfl this.2.2

/-! Parentheses. -/
theorem runL_in : ∀ (s X : List UInt8), (∀ c ∈ s, c ≠ 41) → runL wordS true (s ++ X) = (s ++ (runL wordS true X).1, (runL wordS true X).2)
  | [], X, _ => rfl
  | a :: s, X, h => by
    have hw : wordS true a = (true, true) := by
      unfold wordS
      rw [if_pos rfl, show ((a.toNat : Int) != 41) = true from by
        rw [bne_iff_ne]
        intro e
        exact h a (List.mem_cons_self ..) (UInt8.toNat_inj.1 (by show a.toNat = 41; omega))]
    have e := runL_in s X (fun c hc => h c (List.mem_cons_of_mem _ hc))
    rw [List.cons_append, runL_yes (by rw [hw]), hw, e]; rfl
theorem one_paren (s X : List UInt8) (h : ∀ c ∈ s, c ≠ 41) : oneU (97 :: 32 :: 40 :: (s ++ X)) = (([97], (40 :: s ++ (runL wordS true X).1) :: (dwL (runL wordS true X).2.1).1), (dwL (runL wordS true X).2.1).2.drop 1) := by
  have e1 : (97 :: 32 :: 40 :: (s ++ X)).takeWhile notBl = [97] := by
    rw [List.takeWhile_cons, if_pos (by decide), List.takeWhile_cons, if_neg (by decide)]
  have e2 : (97 :: 32 :: 40 :: (s ++ X)).dropWhile notBl = 32 :: 40 :: (s ++ X) := by
    rw [List.dropWhile_cons, if_pos (by decide), List.dropWhile_cons, if_neg (by decide)]
  have e3 : (32 :: 40 :: (s ++ X)).dropWhile isBl = 40 :: (s ++ X) := by
    rw [List.dropWhile_cons, if_pos (by decide), List.dropWhile_cons, if_neg (by decide)]
  have e4 : runL wordS false (40 :: (s ++ X)) = (40 :: s ++ (runL wordS true X).1, (runL wordS true X).2) := by
    rw [runL_yes (by decide), show (wordS false 40).2 = true from by decide, runL_in s X h]; rfl
  unfold oneU
  rw [e1, e2, if_neg (by decide), dwL_step, e3, e4, if_neg (by simp)]
theorem splL_paren_end (s : List UInt8) (h : ∀ c ∈ s, c ≠ 41) : splL (97 :: 32 :: 40 :: s) = [] := by
  have e := one_paren s [] h
  rw [List.append_nil] at e
  have e0 : (97 :: 32 :: 40 :: s).dropWhile sepC = 97 :: 32 :: 40 :: s := by rw [List.dropWhile_cons, if_neg (by decide)]
  rw [splL_step, e0, if_neg (by simp), e]
  unfold candsOf
  rw [descL_bad (List.mem_cons_self ..) (c := 40) (by simp) (.inl rfl)]
  rfl
theorem splL_paren (s t : List UInt8) (h : ∀ c ∈ s, c ≠ 41) : splL (97 :: 32 :: 40 :: (s ++ 41 :: 44 :: 32 :: t)) = splL t := by
  have e := one_paren s (41 :: 44 :: 32 :: t) h
  have e0 : (97 :: 32 :: 40 :: (s ++ 41 :: 44 :: 32 :: t)).dropWhile sepC = 97 :: 32 :: 40 :: (s ++ 41 :: 44 :: 32 :: t) := by rw [List.dropWhile_cons, if_neg (by decide)]
  have e1 : runL wordS true (41 :: 44 :: 32 :: t) = ([41], 44 :: 32 :: t, false) := by
    rw [runL_yes (by decide), show (wordS true 41).2 = false from by decide, runL_no (by decide)]; rfl
  have e2 : dwL (44 :: 32 :: t) = ([], 44 :: 32 :: t) := by
    have e3 : (44 :: 32 :: t).dropWhile isBl = 44 :: 32 :: t := by rw [List.dropWhile_cons, if_neg (by decide)]
    have e4 : runL wordS false (44 :: 32 :: t) = ([], 44 :: 32 :: t, false) := by rw [runL_no (by decide)]; rfl
    rw [dwL_step, e3, e4, if_pos rfl]
  rw [splL_step, e0, if_neg (by simp), e, e1, e2]
  unfold candsOf
  dsimp only
  rw [descL_bad (List.mem_cons_self ..) (c := 40) (by simp) (.inl rfl)]
  exact splL_lead (t := [32]) t (fun c hc => by rw [List.mem_singleton.1 hc]; decide)

/-! Words without a comma or a parenthesis. -/
def cleanC (c : UInt8) : Prop := c ≠ 40 ∧ c ≠ 44
theorem wordS_clean {c : UInt8} (h : cleanC c) : wordS false c = (notBl c, false) := by
  have h1 : ((c.toNat : Int) == 40) = false := by
    rw [beq_eq_false_iff_ne]; intro e; exact h.1 (UInt8.toNat_inj.1 (by show c.toNat = 40; omega))
  have h2 : ((c.toNat : Int) == 44) = false := by
    rw [beq_eq_false_iff_ne]; intro e; exact h.2 (UInt8.toNat_inj.1 (by show c.toNat = 44; omega))
  unfold wordS sepC notBl
  rw [h1, h2]
  cases isBl c <;> rfl
theorem sep40 : sepC 40 = false := by decide
/-- What ends words: the end, or what begins with a blank or a comma. -/
def EndsW (Y : List UInt8) : Prop := Y = [] ∨ ∃ b X, Y = b :: X ∧ sepC b = true
theorem runL_ends {Y : List UInt8} (h : EndsW Y) : runL wordS false Y = ([], Y, false) := by
  rcases h with rfl | ⟨b, X, rfl, hb⟩
  · rfl
  · have h1 : ((b.toNat : Int) == 40) = false := by
      rw [beq_eq_false_iff_ne]; intro e
      obtain rfl : b = 40 := UInt8.toNat_inj.1 (by show b.toNat = 40; omega)
      rw [sep40] at hb; cases hb
    have hw : wordS false b = (false, false) := by
      unfold wordS
      rw [h1, hb]; rfl
    rw [runL_no (by rw [hw]), hw]
theorem runL_clean {Y : List UInt8} (hY : EndsW Y) : ∀ (R : List UInt8), (∀ c ∈ R, cleanC c) → runL wordS false (R ++ Y) = (R.takeWhile notBl, R.dropWhile notBl ++ Y, false)
  | [], _ => runL_ends hY
  | a :: R, h => by
    have hw := wordS_clean (h a (List.mem_cons_self ..))
    have ih := runL_clean hY R (fun c hc => h c (List.mem_cons_of_mem _ hc))
    cases hb : notBl a
    · rw [hb] at hw
      rw [List.cons_append, runL_no (by rw [hw]), hw, List.takeWhile_cons, List.dropWhile_cons, hb]; rfl
    · rw [hb] at hw
      rw [List.cons_append, runL_yes (by rw [hw]), hw, ih, List.takeWhile_cons, List.dropWhile_cons, hb]; rfl
theorem EndsW.drop {Y : List UInt8} (h : Y.dropWhile isBl = [] ∨ ∃ X, Y.dropWhile isBl = 44 :: X) : EndsW (Y.dropWhile isBl) := by
  rcases h with h | ⟨X, h⟩
  · exact .inl h
  · exact .inr ⟨44, X, h, by decide⟩
theorem dwL_clean {Y : List UInt8} (hY : EndsW Y) (hD : Y.dropWhile isBl = [] ∨ ∃ X, Y.dropWhile isBl = 44 :: X) :
    ∀ (n : Nat) (R : List UInt8), R.length ≤ n → (∀ c ∈ R, cleanC c) → dwL (R ++ Y) = ((dwL R).1, Y.dropWhile isBl) := by
  intro n
  induction n with
  | zero =>
    intro R hR _
    obtain rfl : R = [] := List.eq_nil_of_length_eq_zero (by omega)
    rw [List.nil_append, dwL_step, runL_ends (EndsW.drop hD), if_pos rfl]; rfl
  | succ n ih =>
    intro R hR hc
    have hnil : EndsW [] := .inl rfl
    cases hd : R.dropWhile isBl with
    | nil =>
      rw [dwL_step, dwL_step R, drop_all isBl R Y (drop_none isBl hd), runL_ends (EndsW.drop hD), if_pos rfl, hd]; rfl
    | cons c r =>
      have hcm : ∀ x ∈ c :: r, cleanC x := fun x hx => hc x (drop_mem isBl (by rw [hd]; exact hx))
      have hb := dropHead isBl R hd
      have hap : (R ++ Y).dropWhile isBl = (c :: r) ++ Y := by
        rw [List.dropWhile_append, hd]; rfl
      have hl := drop_len isBl R
      rw [hd] at hl
      have hl : r.length + 1 ≤ R.length := hl
      have htk : (c :: r).takeWhile notBl = c :: r.takeWhile notBl := by rw [List.takeWhile_cons, if_pos (by unfold notBl; rw [hb]; rfl)]
      have hdk : (c :: r).dropWhile notBl = r.dropWhile notBl := by rw [List.dropWhile_cons, if_pos (by unfold notBl; rw [hb]; rfl)]
      have hl2 := drop_len notBl r
      have e1 := runL_clean hY (c :: r) hcm
      have e2 := runL_clean hnil (c :: r) hcm
      rw [List.append_nil, List.append_nil] at e2
      rw [htk, hdk] at e1 e2
      have hi := ih (r.dropWhile notBl) (by omega) (fun x hx => hcm x (List.mem_cons_of_mem _ (drop_mem notBl hx)))
      rw [dwL_step, dwL_step R, hap, hd, e1, e2, if_neg (by simp), if_neg (by simp), hi]
theorem dwL_clean_end {R : List UInt8} (hc : ∀ c ∈ R, cleanC c) : dwL R = ((dwL R).1, []) := by
  have := dwL_clean (Y := []) (.inl rfl) (.inl rfl) _ R (Nat.le_refl _) hc
  rwa [List.append_nil] at this
theorem take_stop : ∀ (a : List UInt8) (b Y : List UInt8), ((a ++ 32 :: b) ++ Y).takeWhile notBl = (a ++ 32 :: b).takeWhile notBl ∧ ((a ++ 32 :: b) ++ Y).dropWhile notBl = (a ++ 32 :: b).dropWhile notBl ++ Y
  | [], b, Y => by
    refine ⟨?_, ?_⟩
    · rw [List.nil_append, List.cons_append, List.takeWhile_cons, List.takeWhile_cons, if_neg (by decide), if_neg (by decide)]
    · rw [List.nil_append, List.cons_append, List.dropWhile_cons, List.dropWhile_cons, if_neg (by decide), if_neg (by decide)]; rfl
  | x :: a, b, Y => by
    obtain ⟨i1, i2⟩ := take_stop a b Y
    simp only [List.cons_append] at i1 i2 ⊢
    rw [List.takeWhile_cons, List.takeWhile_cons, List.dropWhile_cons, List.dropWhile_cons]
    cases notBl x
    · exact ⟨rfl, rfl⟩
    · exact ⟨by rw [if_pos rfl, if_pos rfl, i1], by rw [if_pos rfl, if_pos rfl, i2]⟩
theorem last_clean {l : List UInt8} (h : ∀ c ∈ l, cleanC c) : ¬ (l.takeWhile notBl).getLast? = some 44 := fun e =>
  (h 44 ((List.takeWhile_sublist _).mem (List.mem_of_getLast? e))).2 rfl
/-- Two lists, the first of which has neither a comma nor a parenthesis, and a blank behind an address. -/
theorem splL_two (s w t : List UInt8) (hc : ∀ c ∈ s ++ 32 :: 97 :: 32 :: w, cleanC c) :
    splL ((s ++ 32 :: 97 :: 32 :: w) ++ 32 :: 44 :: t) = splL (s ++ 32 :: 97 :: 32 :: w) ++ splL t := by
  have hm : ∃ a b, (s ++ 32 :: 97 :: 32 :: w).dropWhile sepC = a ++ 32 :: b ∧ ((s ++ 32 :: 97 :: 32 :: w) ++ 32 :: 44 :: t).dropWhile sepC = (a ++ 32 :: b) ++ 32 :: 44 :: t := by
    have e : (32 :: 97 :: 32 :: w).dropWhile sepC = 97 :: 32 :: w := by rw [List.dropWhile_cons, if_pos (by decide), List.dropWhile_cons, if_neg (by decide)]
    cases hd : s.dropWhile sepC with
    | nil =>
      refine ⟨[97], w, ?_, ?_⟩
      · rw [drop_all sepC s _ (drop_none sepC hd), e]; rfl
      · rw [List.append_assoc, drop_all sepC s _ (drop_none sepC hd), List.cons_append, List.dropWhile_cons, if_pos (by decide), List.cons_append, List.dropWhile_cons, if_neg (by decide)]; rfl
    | cons c r =>
      refine ⟨c :: r, 97 :: 32 :: w, ?_, ?_⟩
      · rw [List.dropWhile_append, hd]; rfl
      · rw [List.append_assoc, List.dropWhile_append, hd]; simp
  obtain ⟨a, b, h1, h2⟩ := hm
  have hca : ∀ c ∈ a ++ 32 :: b, cleanC c := fun c hx => hc c (drop_mem sepC (by rw [h1]; exact hx))
  obtain ⟨t1, t2⟩ := take_stop a b (32 :: 44 :: t)
  have hcd : ∀ c ∈ (a ++ 32 :: b).dropWhile notBl, cleanC c := fun c hx => hca c (drop_mem notBl hx)
  have hY : EndsW (32 :: 44 :: t) := .inr ⟨32, _, rfl, by decide⟩
  have hYd : (32 :: 44 :: t).dropWhile isBl = 44 :: t := by rw [List.dropWhile_cons, if_pos (by decide), List.dropWhile_cons, if_neg (by decide)]
  have d1 := dwL_clean hY (.inr ⟨t, hYd⟩) _ _ (Nat.le_refl _) hcd
  have d2 := dwL_clean_end hcd
  rw [hYd] at d1
  have o1 : oneU ((a ++ 32 :: b) ++ 32 :: 44 :: t) = (((a ++ 32 :: b).takeWhile notBl, (dwL ((a ++ 32 :: b).dropWhile notBl)).1), t) := by
    unfold oneU
    rw [t1, t2, if_neg (last_clean hca), d1]; rfl
  have o2 : oneU (a ++ 32 :: b) = (((a ++ 32 :: b).takeWhile notBl, (dwL ((a ++ 32 :: b).dropWhile notBl)).1), []) := by
    unfold oneU
    rw [if_neg (last_clean hca), d2]; rfl
  rw [splL_step, splL_step (s ++ 32 :: 97 :: 32 :: w), h1, h2, if_neg (by simp), if_neg (by simp), o1, o2]
  have : splL [] = [] := rfl
  rw [this, List.append_nil]
theorem splL_lists (s w t : List UInt8) (hc : ∀ c ∈ s ++ 32 :: 97 :: 32 :: w, cleanC c) :
    splL ([32, 44, 9, 44] ++ (s ++ 32 :: 97 :: 32 :: w) ++ [32, 44, 32, 44, 10] ++ t) = splL (s ++ 32 :: 97 :: 32 :: w) ++ splL t := by
  have h1 : ∀ c ∈ [(32 : UInt8), 44, 9, 44], sepC c = true := by decide
  have h2 : ∀ c ∈ [(32 : UInt8), 44, 10], sepC c = true := by decide
  have e : [(32 : UInt8), 44, 9, 44] ++ (s ++ 32 :: 97 :: 32 :: w) ++ [32, 44, 32, 44, 10] ++ t = [32, 44, 9, 44] ++ ((s ++ 32 :: 97 :: 32 :: w) ++ 32 :: 44 :: ([32, 44, 10] ++ t)) := by simp
  rw [e, splL_lead _ h1, splL_two _ _ _ hc, splL_lead t h2]
end Go.Proofs.YtbejimncmfeggaaDoor
