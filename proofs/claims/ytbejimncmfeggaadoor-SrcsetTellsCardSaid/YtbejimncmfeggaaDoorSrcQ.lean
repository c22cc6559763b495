/- Plain: what was read of a list, and is written, is read again as it was: no program in sight. -/
import Derived.Test.YtbejimncmfeggaaDoorSrcP
namespace Go.Proofs.YtbejimncmfeggaaDoor
open Go.RowKit
set_option linter.unusedVariables false
set_option linter.unusedSimpArgs false

/-- What each candidate of a list is. -/
structure GoodC (c : Cand) : Prop where
  ne : c.url ≠ []
  nb : ∀ b ∈ c.url, notBl b = true
  hd : c.url.head? ≠ some 44
  lt : c.url.getLast? ≠ some 44
  ds : descL c.ws = some c.st
theorem trimC_all (l : List UInt8) : ∃ t, l = trimC l ++ t ∧ (∀ x ∈ t, x = 44) ∧ (trimC l).getLast? ≠ some 44 := by
  refine ⟨(l.reverse.takeWhile (fun c => c == 44)).reverse, ?_, ?_, ?_⟩
  · unfold trimC
    rw [← List.reverse_append, List.takeWhile_append_dropWhile, List.reverse_reverse]
  · intro x hx
    have := List.mem_reverse.1 hx
    have h2 : ∀ (m : List UInt8), x ∈ m.takeWhile (fun c => c == 44) → x = 44 := by
      intro m
      induction m with
      | nil => intro h; cases h
      | cons a m ih =>
        intro h
        rw [List.takeWhile_cons] at h
        split at h
        · rename_i ha
          rcases List.mem_cons.1 h with rfl | h
          · exact beq_iff_eq.1 ha
          · exact ih h
        · cases h
    exact h2 _ this
  · unfold trimC
    rw [List.getLast?_reverse]
    intro e
    cases hd : l.reverse.dropWhile (fun c => c == 44) with
    | nil => rw [hd] at e; cases e
    | cons a r =>
      rw [hd] at e
      have := dropHead _ _ hd
      cases e
      simp at this
theorem take_mem {p : UInt8 → Bool} : ∀ {l : List UInt8} {c : UInt8}, c ∈ l.takeWhile p → p c = true
  | [], _, h => by cases h
  | a :: l, c, h => by
    rw [List.takeWhile_cons] at h
    cases ha : p a
    · rw [ha, if_neg (by decide)] at h; cases h
    · rw [ha, if_pos rfl] at h
      rcases List.mem_cons.1 h with rfl | h
      · exact ha
      · exact take_mem h
theorem sep44 : sepC 44 = true := by decide
theorem oneU_good {c : UInt8} {r : List UInt8} (h : sepC c = false) : ∀ x ∈ candsOf (oneU (c :: r)).1, GoodC x := by
  have hn := notBl_of h
  have hc44 : c ≠ 44 := by rintro rfl; rw [sep44] at h; cases h
  have htk : (c :: r).takeWhile notBl = c :: r.takeWhile notBl := by rw [List.takeWhile_cons, if_pos hn]
  intro x hx
  unfold candsOf at hx
  cases hd : descL (oneU (c :: r)).1.2 with
  | none => rw [hd] at hx; cases hx
  | some st =>
    rw [hd] at hx
    obtain rfl := List.mem_singleton.1 hx
    have hall : ∀ b ∈ (c :: r).takeWhile notBl, notBl b = true := fun b hb => take_mem hb
    have key : (oneU (c :: r)).1.1 ≠ [] ∧ (∀ b ∈ (oneU (c :: r)).1.1, notBl b = true) ∧ (oneU (c :: r)).1.1.head? ≠ some 44 ∧ (oneU (c :: r)).1.1.getLast? ≠ some 44 := by
      unfold oneU
      split
      · obtain ⟨t, h1, h2, h3⟩ := trimC_all ((c :: r).takeWhile notBl)
        dsimp only
        cases hq : trimC ((c :: r).takeWhile notBl) with
        | nil =>
          rw [hq, htk] at h1
          exact absurd (h2 c (by rw [List.nil_append] at h1; rw [← h1]; exact List.mem_cons_self ..)) hc44
        | cons a q =>
          rw [hq] at h3
          have h1' := h1
          rw [hq, htk, List.cons_append, List.cons.injEq] at h1
          refine ⟨by simp, fun b hb => hall b (by rw [h1', hq]; exact List.mem_append_left _ hb), ?_, h3⟩
          rw [List.head?_cons, ← h1.1]
          intro e; exact hc44 (Option.some.inj e)
      · rename_i hl
        dsimp only
        refine ⟨by rw [htk]; simp, hall, ?_, hl⟩
        rw [htk, List.head?_cons]
        intro e; exact hc44 (Option.some.inj e)
    exact ⟨key.1, key.2.1, key.2.2.1, key.2.2.2, hd⟩
theorem splL_good : ∀ (n : Nat) (l : List UInt8), l.length ≤ n → ∀ x ∈ splL l, GoodC x := by
  intro n
  induction n with
  | zero =>
    intro l hl x hx
    obtain rfl : l = [] := List.eq_nil_of_length_eq_zero (by omega)
    cases hx
  | succ n ih =>
    intro l hl x hx
    rw [splL_step] at hx
    have h3 := drop_len sepC l
    cases hd : l.dropWhile sepC with
    | nil => rw [hd, if_pos rfl] at hx; cases hx
    | cons c r =>
      rw [hd] at hx h3
      have hs := dropHead sepC l hd
      have h4 := oneU_len (r := r) hs
      have h5 : r.length + 1 ≤ l.length := h3
      rw [if_neg (by simp)] at hx
      rcases List.mem_append.1 hx with hx | hx
      · exact oneU_good hs x hx
      · exact ih _ (by omega) x hx
def textC (c : Cand) : List UInt8 := c.url ++ c.ws.flatMap (fun t => 32 :: t)
def tailW (l : List Cand) : List UInt8 := l.flatMap (fun c => 44 :: 32 :: textC c)
/-- Candidates as a text. -/
def writeL : List Cand → List UInt8
  | [] => []
  | c :: r => textC c ++ tailW r
theorem writeL_snoc (l : List Cand) (c : Cand) : writeL (l ++ [c]) = (writeL l ++ if l = [] then [] else [44, 32]) ++ textC c := by
  cases l with
  | nil => simp [writeL, tailW]
  | cons a r => simp [writeL, tailW]
theorem take_stop2 {p : UInt8 → Bool} : ∀ (u Y : List UInt8), (∀ b ∈ u, p b = true) → (u ++ Y).takeWhile p = u ++ Y.takeWhile p ∧ (u ++ Y).dropWhile p = Y.dropWhile p
  | [], Y, _ => ⟨rfl, rfl⟩
  | a :: u, Y, h => by
    obtain ⟨i1, i2⟩ := take_stop2 u Y (fun b hb => h b (List.mem_cons_of_mem _ hb))
    have ha := h a (List.mem_cons_self ..)
    rw [List.cons_append, List.takeWhile_cons, List.dropWhile_cons, if_pos ha, if_pos ha, i1, i2]
    exact ⟨rfl, rfl⟩
theorem cleanW {t : List UInt8} (h : t ≠ [] ∧ ∀ c ∈ t, okW8 c = true) : (∀ c ∈ t, cleanC c) ∧ ∀ c ∈ t, notBl c = true := by
  refine ⟨fun c hc => ?_, fun c hc => notBl_of (okW8_of (h.2 c hc)).1⟩
  have := okW8_of (h.2 c hc)
  refine ⟨this.2.1, ?_⟩
  rintro rfl
  rw [sep44] at this
  cases this.1
theorem tailS_ends (ws : List (List UInt8)) {Y : List UInt8} (hY : Y = [] ∨ ∃ X, Y = 44 :: X) : EndsW (ws.flatMap (fun t => 32 :: t) ++ Y) := by
  cases ws with
  | nil =>
    rcases hY with rfl | ⟨X, rfl⟩
    · exact .inl rfl
    · exact .inr ⟨44, X, rfl, by decide⟩
  | cons a r => exact .inr ⟨32, _, rfl, by decide⟩
theorem dwL_words {Y : List UInt8} (hY : Y = [] ∨ ∃ X, Y = 44 :: X) : ∀ (ws : List (List UInt8)), (∀ t ∈ ws, t ≠ [] ∧ ∀ c ∈ t, okW8 c = true) → dwL (ws.flatMap (fun t => 32 :: t) ++ Y) = (ws, Y)
  | [], _ => by
    have e : Y.dropWhile isBl = Y := by
      rcases hY with rfl | ⟨X, rfl⟩
      · rfl
      · rw [List.dropWhile_cons, if_neg (by decide)]
    have e2 : EndsW Y := by have := tailS_ends [] hY; exact this
    rw [show ([] : List (List UInt8)).flatMap (fun t => 32 :: t) ++ Y = Y from rfl, dwL_step, e, runL_ends e2, if_pos rfl]
  | a :: r, h => by
    have ha := h a (List.mem_cons_self ..)
    obtain ⟨hc, hb⟩ := cleanW ha
    have ih := dwL_words hY r (fun t ht => h t (List.mem_cons_of_mem _ ht))
    have hE := tailS_ends r hY
    have e1 : (a :: r).flatMap (fun t => 32 :: t) ++ Y = 32 :: (a ++ (r.flatMap (fun t => 32 :: t) ++ Y)) := by simp
    have hne : ∃ x q, a = x :: q := by
      cases a with
      | nil => exact absurd rfl ha.1
      | cons x q => exact ⟨x, q, rfl⟩
    obtain ⟨x, q, hxq⟩ := hne
    have hx : isBl x = false := by
      have := hb x (by rw [hxq]; exact List.mem_cons_self ..)
      unfold notBl at this
      simpa using this
    have e2 : (32 :: (a ++ (r.flatMap (fun t => 32 :: t) ++ Y))).dropWhile isBl = a ++ (r.flatMap (fun t => 32 :: t) ++ Y) := by
      rw [List.dropWhile_cons, if_pos (by decide), hxq, List.cons_append, List.dropWhile_cons, if_neg (by rw [hx]; decide)]
    have e3 := runL_clean hE a hc
    obtain ⟨t1, t2⟩ := take_stop2 a [] hb
    rw [List.append_nil] at t1 t2
    rw [t1, t2, show ([] : List UInt8).takeWhile notBl = [] from rfl, show ([] : List UInt8).dropWhile notBl = [] from rfl, List.append_nil, List.nil_append] at e3
    rw [e1, dwL_step, e2, e3, if_neg ha.1, ih]
theorem getLast_snoc (u : List UInt8) (x : UInt8) : (u ++ [x]).getLast? = some x := by rw [List.getLast?_append]; rfl
theorem trimC_snoc {u : List UInt8} (hne : u ≠ []) (h : u.getLast? ≠ some 44) : trimC (u ++ [44]) = u := by
  unfold trimC
  rw [List.reverse_append]
  show ((44 :: u.reverse).dropWhile (fun c => c == 44)).reverse = u
  rw [List.dropWhile_cons, if_pos (by decide)]
  cases hr : u.reverse with
  | nil => exact absurd (by rw [← List.reverse_reverse u, hr]; rfl) hne
  | cons a r =>
    have ha : a ≠ 44 := by
      rintro rfl
      apply h
      rw [← List.reverse_reverse u, hr, List.getLast?_reverse]; rfl
    rw [List.dropWhile_cons, if_neg (by simpa using ha), ← hr, List.reverse_reverse]
theorem head_split {u : List UInt8} (hne : u ≠ []) (hb : ∀ b ∈ u, notBl b = true) (h : u.head? ≠ some 44) : ∃ x q, u = x :: q ∧ sepC x = false := by
  cases u with
  | nil => exact absurd rfl hne
  | cons x q =>
    refine ⟨x, q, rfl, ?_⟩
    have hx := hb x (List.mem_cons_self ..)
    have h44 : x ≠ 44 := fun e => h (by rw [List.head?_cons, e])
    unfold sepC
    unfold notBl at hx
    rw [Bool.or_eq_false_iff]
    refine ⟨?_, by simpa using hx⟩
    rw [beq_eq_false_iff_ne]; intro e; exact h44 (UInt8.toNat_inj.1 (by show x.toNat = 44; omega))
theorem splL_text {c : Cand} (hg : GoodC c) {Y : List UInt8} (hY : Y = [] ∨ ∃ Z, Y = 44 :: 32 :: Z) : splL (textC c ++ Y) = c :: splL (Y.drop 2) := by
  obtain ⟨u, ws, st⟩ := c
  obtain ⟨hne, hnb, hhd, hlt, hds⟩ := hg
  dsimp only at hne hnb hhd hlt hds
  obtain ⟨x, q, hxq, hx⟩ := head_split hne hnb hhd
  have hsep : (textC ⟨u, ws, st⟩ ++ Y).dropWhile sepC = textC ⟨u, ws, st⟩ ++ Y := by
    unfold textC
    dsimp only
    rw [hxq, List.cons_append, List.cons_append, List.dropWhile_cons, if_neg (by rw [hx]; decide)]
  have hne2 : textC ⟨u, ws, st⟩ ++ Y ≠ [] := by
    unfold textC
    dsimp only
    rw [hxq]; simp
  have h32 : ∀ c ∈ [(32 : UInt8)], sepC c = true := by decide
  have hcand : ∀ p, p = (u, ws) → candsOf p = [⟨u, ws, st⟩] := by
    rintro p rfl
    unfold candsOf
    dsimp only
    rw [hds]
  have hlast : ¬ (u.getLast? = some 44) := hlt
  have hY1 : Y = [] ∨ ∃ X, Y = 44 :: X := by
    rcases hY with rfl | ⟨Z, rfl⟩
    · exact .inl rfl
    · exact .inr ⟨_, rfl⟩
  have hone : ∃ R, oneU (textC ⟨u, ws, st⟩ ++ Y) = ((u, ws), R) ∧ splL R = splL (Y.drop 2) := by
    cases ws with
    | nil =>
      have e0 : textC ⟨u, [], st⟩ = u := by unfold textC; simp
      rw [e0]
      obtain ⟨t1, t2⟩ := take_stop2 (p := notBl) u Y hnb
      rcases hY with rfl | ⟨Z, rfl⟩
      · rw [List.takeWhile_nil, List.append_nil] at t1
        rw [List.dropWhile_nil, List.append_nil] at t2
        rw [List.append_nil]
        refine ⟨_, by unfold oneU; rw [t1, t2, if_neg hlast]; rfl, rfl⟩
      · have k1 : (44 :: 32 :: Z).takeWhile notBl = [44] := by rw [List.takeWhile_cons, if_pos (by decide), List.takeWhile_cons, if_neg (by decide)]
        have k2 : (44 :: 32 :: Z).dropWhile notBl = 32 :: Z := by rw [List.dropWhile_cons, if_pos (by decide), List.dropWhile_cons, if_neg (by decide)]
        rw [k1] at t1
        rw [k2] at t2
        refine ⟨32 :: Z, by unfold oneU; rw [t1, t2, if_pos (getLast_snoc u 44), trimC_snoc hne hlast], ?_⟩
        exact splL_lead (t := [32]) Z h32
    | cons a r =>
      have hw := descL_ok hds
      have e0 : textC ⟨u, a :: r, st⟩ ++ Y = u ++ ((a :: r).flatMap (fun t => 32 :: t) ++ Y) := by unfold textC; simp
      have hd := dwL_words hY1 (a :: r) hw
      rw [e0]
      obtain ⟨t1, t2⟩ := take_stop2 (p := notBl) u ((a :: r).flatMap (fun t => 32 :: t) ++ Y) hnb
      have k0 : (a :: r).flatMap (fun t => 32 :: t) ++ Y = 32 :: (a ++ r.flatMap (fun t => 32 :: t) ++ Y) := by simp
      rw [k0] at t1 t2 hd ⊢
      rw [List.takeWhile_cons, if_neg (by decide), List.append_nil] at t1
      rw [List.dropWhile_cons, if_neg (by decide)] at t2
      refine ⟨Y.drop 1, by unfold oneU; rw [t1, t2, if_neg hlast, hd], ?_⟩
      rcases hY with rfl | ⟨Z, rfl⟩
      · rfl
      · exact splL_lead (t := [32]) Z h32
  obtain ⟨R, h1, h2⟩ := hone
  rw [splL_step, hsep, if_neg hne2, h1]
  dsimp only
  rw [hcand _ rfl, h2]; rfl
theorem splL_tail : ∀ (r : List Cand) (c : Cand), GoodC c → (∀ x ∈ r, GoodC x) → splL (textC c ++ tailW r) = c :: r
  | [], c, hc, _ => by
    rw [splL_text hc (Y := tailW []) (.inl rfl)]; rfl
  | d :: r, c, hc, h => by
    have e : tailW (d :: r) = 44 :: 32 :: (textC d ++ tailW r) := by unfold tailW; simp
    rw [e, splL_text hc (.inr ⟨_, rfl⟩)]
    show c :: splL (textC d ++ tailW r) = _
    rw [splL_tail r d (h d (List.mem_cons_self ..)) (fun x hx => h x (List.mem_cons_of_mem _ hx))]
/-- What was read, and is written, is read again as it was. -/
theorem splL_write (l : List Cand) (h : ∀ x ∈ l, GoodC x) : splL (writeL l) = l := by
  cases l with
  | nil => rfl
  | cons c r => exact splL_tail r c (h c (List.mem_cons_self ..)) (fun x hx => h x (List.mem_cons_of_mem _ hx))
end Go.Proofs.YtbejimncmfeggaaDoor
