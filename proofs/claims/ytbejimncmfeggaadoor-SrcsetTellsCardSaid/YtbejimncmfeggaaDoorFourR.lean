/- Numbers as digits, and back: no program in sight. -/
import Derived.Test.YtbejimncmfeggaaDoorFourQ
import Derived.Test.YtbejimncmfeggaaDoorUint
namespace Go.Proofs.YtbejimncmfeggaaDoor
open Go.RowKit
set_option linter.unusedVariables false

/-- A number's digits of a base. -/
def digL (b n : Nat) : List UInt8 := if h : n < b ∨ b < 2 then [hexC n] else digL b (n / b) ++ [hexC (n % b)]
termination_by n
decreasing_by exact Nat.div_lt_self (by omega) (by omega)
theorem digL_small {b n : Nat} (h : n < b) : digL b n = [hexC n] := by rw [digL, dif_pos (.inl h)]
theorem digL_big {b n : Nat} (h : ¬ n < b) (hb : 2 ≤ b) : digL b n = digL b (n / b) ++ [hexC (n % b)] := by rw [digL, dif_neg (by omega)]
theorem hexC_all : ∀ d : Fin 16, worthZ ((hexC d.val).toNat : Int) = (d.val : Int) ∧ hexC d.val ≠ 46 ∧ hexC d.val ≠ 120 ∧ hexC d.val ≠ 88 ∧ (0 < d.val → hexC d.val ≠ 48) := by decide +kernel
theorem hexC_ten : ∀ d : Fin 10, hexC d.val = UInt8.ofNat (48 + d.val) := by decide +kernel
theorem digitZ_hexC {d b : Nat} (h : d < b) (hb : b ≤ 16) : digitZ ((hexC d).toNat : Int) (b : Int) = (d : Int) := by
  have := (hexC_all ⟨d, by omega⟩).1
  unfold digitZ
  rw [show worthZ ((hexC d).toNat : Int) = (d : Int) from this, if_neg (by omega)]
theorem digL_ten (n : Nat) : digL 10 n = Lib.decDigits n := by
  induction n using Nat.strongRecOn with
  | _ n ih =>
    by_cases h : n < 10
    · rw [digL_small h, Lib.decDigits_one h]; exact congrArg (fun x => [x]) (hexC_ten ⟨n, h⟩)
    · rw [digL_big h (by decide), ih (n / 10) (by omega)]
      conv => rhs; rw [Lib.decDigits, dif_neg h]
      rw [show hexC (n % 10) = UInt8.ofNat (48 + n % 10) from hexC_ten ⟨n % 10, by omega⟩]
theorem digL_ne (b n : Nat) : digL b n ≠ [] := by
  rw [digL]; split <;> simp
theorem digL_mem {b : Nat} (hb : 2 ≤ b) (hb2 : b ≤ 16) (n : Nat) : ∀ c ∈ digL b n, ∃ d, d < b ∧ c = hexC d := by
  induction n using Nat.strongRecOn with
  | _ n ih =>
    by_cases h : n < b
    · rw [digL_small h]; intro c hc; simp at hc; exact ⟨n, h, hc⟩
    · rw [digL_big h hb]
      intro c hc
      rcases List.mem_append.1 hc with hc | hc
      · exact ih (n / b) (Nat.div_lt_self (by omega) (by omega)) c hc
      · simp at hc; exact ⟨n % b, Nat.mod_lt _ (by omega), hc⟩
theorem digL_head {b : Nat} (hb : 2 ≤ b) (hb2 : b ≤ 16) (n : Nat) (h0 : 0 < n) : ∃ c r, digL b n = c :: r ∧ c ≠ 48 := by
  induction n using Nat.strongRecOn with
  | _ n ih =>
    by_cases h : n < b
    · exact ⟨hexC n, [], digL_small h, (hexC_all ⟨n, by omega⟩).2.2.2.2 h0⟩
    · obtain ⟨c, r, h1, h2⟩ := ih (n / b) (Nat.div_lt_self (by omega) (by omega)) (Nat.div_pos (by omega) (by omega))
      exact ⟨c, r ++ [hexC (n % b)], by rw [digL_big h hb, h1]; rfl, h2⟩
theorem digsGo_append (b : Nat) : ∀ (l m : List UInt8) (acc : Nat), digsGo b acc (l ++ m) = (digsGo b acc l).bind fun x => digsGo b x m
  | [], m, acc => rfl
  | c :: r, m, acc => by
    rw [List.cons_append, digsGo, digsGo]
    split
    · rfl
    · exact digsGo_append b r m _
theorem digsGo_digL {b : Nat} (hb : 2 ≤ b) (hb2 : b ≤ 16) (n : Nat) : digsGo b 0 (digL b n) = some n := by
  have one : ∀ acc d, d < b → digsGo b acc [hexC d] = some (acc * b + d) := by
    intro acc d hd
    rw [digsGo, digitZ_hexC hd hb2, if_neg (by omega), digsGo]
    simp
  induction n using Nat.strongRecOn with
  | _ n ih =>
    by_cases h : n < b
    · rw [digL_small h, one _ _ h]; simp
    · rw [digL_big h hb, digsGo_append, ih (n / b) (Nat.div_lt_self (by omega) (by omega))]
      show digsGo b (n / b) [hexC (n % b)] = some n
      rw [one _ _ (Nat.mod_lt _ (by omega)), Nat.mul_comm, Nat.div_add_mod]
theorem digsGo_noughts {b : Nat} (hb : 1 ≤ b) (l : List UInt8) : ∀ k, digsGo b 0 (List.replicate k 48 ++ l) = digsGo b 0 l
  | 0 => rfl
  | k + 1 => by
    have h48 : digitZ ((48 : UInt8).toNat : Int) (b : Int) = 0 := by
      unfold digitZ; rw [show worthZ ((48 : UInt8).toNat : Int) = 0 by decide, if_neg (by omega)]
    rw [List.replicate_succ, List.cons_append, digsGo, h48, if_neg (by omega)]
    simp [digsGo_noughts hb l k]
theorem numV_ten (n : Nat) : numV (digL 10 n) = some n := by
  have h := digsGo_digL (b := 10) (by decide) (by decide) n
  match hL : digL 10 n with
  | [] => exact absurd hL (digL_ne _ _)
  | [c] => rw [hL] at h; exact h
  | c :: d :: r =>
    have h0 : 0 < n := by
      by_cases h0 : n = 0
      · rw [h0, digL_small (by decide)] at hL; simp at hL
      · omega
    obtain ⟨c', r', h1, h2⟩ := digL_head (b := 10) (by decide) (by decide) n h0
    rw [hL] at h1 h
    obtain ⟨rfl, _⟩ := List.cons.inj h1
    rw [numV, if_neg h2, h]
theorem numV_sixteen (n k : Nat) : numV ([48, 120] ++ (List.replicate k 48 ++ digL 16 n)) = some n := by
  show numV (48 :: 120 :: (List.replicate k 48 ++ digL 16 n)) = _
  rw [numV, if_pos rfl, if_pos (.inl rfl), digsGo_noughts (by decide), digsGo_digL (by decide) (by decide)]
theorem numV_eight (n k : Nat) : numV ([48] ++ (List.replicate k 48 ++ digL 8 n)) = some n := by
  have h : digsGo 8 0 (List.replicate k 48 ++ digL 8 n) = some n := by rw [digsGo_noughts (by decide), digsGo_digL (by decide) (by decide)]
  have hx : ∀ c ∈ List.replicate k 48 ++ digL 8 n, c ≠ 120 ∧ c ≠ 88 := by
    intro c hc
    rcases List.mem_append.1 hc with hc | hc
    · rw [List.mem_replicate] at hc; rw [hc.2]; decide
    · obtain ⟨d, hd, rfl⟩ := digL_mem (b := 8) (by decide) (by decide) n c hc
      have := hexC_all ⟨d, by omega⟩
      exact ⟨this.2.2.1, this.2.2.2.1⟩
  match hL : List.replicate k 48 ++ digL 8 n with
  | [] => exact absurd (List.append_eq_nil_iff.1 hL).2 (digL_ne _ _)
  | d :: r =>
    rw [hL] at h hx
    show numV (48 :: d :: r) = _
    have := hx d (by simp)
    rw [numV, if_pos rfl, if_neg (by rintro (h | h); exact this.1 h; exact this.2 h), h]
theorem digL_no46 {b : Nat} (hb : 2 ≤ b) (hb2 : b ≤ 16) (n : Nat) : ∀ c ∈ digL b n, c ≠ 46 := by
  intro c hc
  obtain ⟨d, hd, rfl⟩ := digL_mem hb hb2 n c hc
  exact (hexC_all ⟨d, by omega⟩).2.1
theorem digL_len {b : Nat} (hb : 2 ≤ b) : ∀ (k n : Nat), n < 2 ^ (k + 1) → (digL b n).length ≤ k + 1
  | 0, n, h => by rw [digL_small (by omega)]; simp
  | k + 1, n, h => by
    by_cases hn : n < b
    · rw [digL_small hn]; simp
    · rw [digL_big hn hb, List.length_append]
      have h2 : n / b ≤ n / 2 := Nat.div_le_div_left hb (by decide)
      have := digL_len hb k (n / b) (by rw [Nat.pow_succ] at h; omega)
      simp; omega
/-- The pieces of a text that ends none with a point. -/
theorem partsL_of {s x : List UInt8} {ps : List (List UInt8)} (h : splitC 46 s = ps ++ [x]) (hx : x ≠ []) : partsL s = ps ++ [x] := by
  unfold partsL
  rw [h, if_neg]
  rintro ⟨_, h2⟩
  rw [getLast_app _ (by simp)] at h2
  simp at h2; exact hx h2
/-- A text of pieces, each with a point behind it, and one piece more. -/
theorem split_pieces : ∀ (ps : List (List UInt8)) (x : List UInt8), (∀ p ∈ ps, ∀ c ∈ p, c ≠ 46) → (∀ c ∈ x, c ≠ 46) → splitC 46 (ps.flatMap (fun p => p ++ [46]) ++ x) = ps ++ [x]
  | [], x, _, hx => splitC_no x hx
  | p :: ps, x, hp, hx => by
    have e : (p :: ps).flatMap (fun p => p ++ [46]) ++ x = p ++ 46 :: (ps.flatMap (fun p => p ++ [46]) ++ x) := by simp
    rw [e, splitC_append, splitC_no p (hp p (by simp)), split_pieces ps x (fun q hq => hp q (by simp [hq])) hx]
    rfl
theorem parseGo_one {i acc v : Nat} {x : List UInt8} (h : numV x = some v) (hv : v < 2 ^ (8 * (4 - i))) : parseGo i [x] acc = some (acc + v) := by
  rw [parseGo, h]; dsimp only; rw [if_pos hv]
theorem parseGo_more {i acc v : Nat} {x : List UInt8} {L : List (List UInt8)} (hL : L ≠ []) (h : numV x = some v) (hv : v ≤ 255) : parseGo i (x :: L) acc = parseGo (i + 1) L (acc + v * 2 ^ (8 * (3 - i))) := by
  match L, hL with
  | y :: r, _ => rw [parseGo, h]; dsimp only; rw [if_pos hv]
/-- Four bytes' text. -/
theorem fourL_pieces (n : Nat) : fourL n = [byte4 n 0, byte4 n 1, byte4 n 2].flatMap (fun p => p ++ [46]) ++ byte4 n 3 := by
  simp [fourL, fourP]
theorem byte4_no46 (n k : Nat) : ∀ c ∈ byte4 n k, c ≠ 46 := by
  unfold byte4; rw [← digL_ten]; exact digL_no46 (by decide) (by decide) _
theorem byte4_num (n k : Nat) : numV (byte4 n k) = some (n / 256 ^ (3 - k) % 256) := by
  unfold byte4; rw [← digL_ten]; exact numV_ten _
theorem byte4_ne (n k : Nat) : byte4 n k ≠ [] := by unfold byte4; rw [← digL_ten]; exact digL_ne _ _
theorem parts_fourL (n : Nat) : splitC 46 (fourL n) = [byte4 n 0, byte4 n 1, byte4 n 2] ++ [byte4 n 3] := by
  rw [fourL_pieces]
  exact split_pieces _ _ (by intro p hp; simp at hp; rcases hp with rfl | rfl | rfl <;> exact byte4_no46 _ _) (byte4_no46 _ _)
theorem parseV_fourL {n : Nat} (h : n < 4294967296) : parseV [byte4 n 0, byte4 n 1, byte4 n 2, byte4 n 3] = some n := by
  unfold parseV
  rw [if_neg (by simp), parseGo_more (by simp) (byte4_num n 0) (by omega), parseGo_more (by simp) (byte4_num n 1) (by omega), parseGo_more (by simp) (byte4_num n 2) (by omega), parseGo_one (byte4_num n 3) (by simp; omega)]
  congr 1
  simp
  omega
theorem parse_fourL {n : Nat} (h : n < 4294967296) : parseL (fourL n) = some n := by
  unfold parseL
  rw [partsL_of (parts_fourL n) (byte4_ne _ _)]
  exact parseV_fourL h
theorem parse_fourL_point {n : Nat} (h : n < 4294967296) : parseL (fourL n ++ [46]) = some n := by
  unfold parseL
  rw [partsL_point, parts_fourL]
  exact parseV_fourL h
theorem fourL_ne (n : Nat) : fourL n ≠ [] := by
  rw [fourL_pieces]; intro h
  exact byte4_ne n 3 (List.append_eq_nil_iff.1 h).2
theorem fourL_size (n : Nat) : 7 ≤ (fourL n).length ∧ (fourL n).length ≤ 15 := by
  have h : ∀ k, 1 ≤ (byte4 n k).length ∧ (byte4 n k).length ≤ 3 := fun k => ⟨List.length_pos_iff.2 (byte4_ne n k), byte4_len n k⟩
  have h0 := h 0
  have h1 := h 1
  have h2 := h 2
  have h3 := h 3
  rw [fourL_pieces]
  simp only [List.flatMap_cons, List.flatMap_nil, List.append_nil, List.length_append, List.length_cons, List.length_nil]
  omega
end Go.Proofs.YtbejimncmfeggaaDoor
