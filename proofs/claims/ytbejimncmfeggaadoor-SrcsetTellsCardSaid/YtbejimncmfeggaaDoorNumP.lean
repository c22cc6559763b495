/- Texts of floats that are made of digits, read: no program in sight. -/
import Derived.Test.YtbejimncmfeggaaDoorNumE
import Derived.Test.YtbejimncmfeggaaDoorNumK
namespace Go.Proofs.YtbejimncmfeggaaDoor
open Go.RowKit
set_option linter.unusedVariables false

theorem ten_no {l : List UInt8} (h : Ten l) {c : UInt8} (hc : c ∈ l) : c ≠ 101 ∧ c ≠ 69 ∧ c ≠ 46 ∧ c ≠ 45 ∧ c ≠ 43 := by
  obtain ⟨d, hd, rfl⟩ := h c hc
  exact (ten_plain ⟨d, hd⟩).2
theorem ten_take {l : List UInt8} (h : Ten l) (k : Nat) : Ten (l.take k) := fun c hc => h c (List.mem_of_mem_take hc)
theorem ten_drop {l : List UInt8} (h : Ten l) (k : Nat) : Ten (l.drop k) := fun c hc => h c (List.mem_of_mem_drop hc)
theorem cutE_behind {l m : List UInt8} (h : ∀ c ∈ l, c ≠ 101 ∧ c ≠ 69) : cutE (l ++ m) = (l ++ (cutE m).1, (cutE m).2) := by
  induction l with
  | nil => rfl
  | cons c r ih =>
    have hp := h c (List.mem_cons_self ..)
    rw [List.cons_append, cutE, if_neg (by intro hx; rcases hx with hx | hx; exact hp.1 hx; exact hp.2 hx), ih (fun x hx => h x (List.mem_cons_of_mem _ hx))]
    rfl
/-- A point, or none, ahead of the digits b. -/
def pointed (pt : Bool) (b : List UInt8) : List UInt8 := if pt then 46 :: b else b
theorem cutC_pointed {a b : List UInt8} (ha : Ten a) (pt : Bool) (hpt : pt = false → b = []) : cutC 46 (a ++ pointed pt b) = (a, b, pt) := by
  cases pt
  · rw [hpt rfl]
    have := cutC_ten (m := []) ha
    simpa [cutC, pointed] using this
  · have := cutC_ten (m := 46 :: b) ha
    simpa [cutC, pointed] using this
theorem floatQ_form {a b : List UInt8} {n : Nat} {m : Int} (ha : Ten a) (hb : Ten b) (hn : digs1 10 (a ++ b) = some n) (h15 : a.length + b.length ≤ 15) (pt : Bool) (hpt : pt = true → b ≠ []) (hpf : pt = false → b = [])
    (x : List UInt8) (hx : (x = [] ∧ m = 0) ∨ ∃ c r, x = c :: r ∧ (c = 101 ∨ c = 69) ∧ expoV r = some m) (lo : -22 ≤ m - b.length) (hi : m - b.length ≤ 22) :
    floatQ (a ++ pointed pt b ++ x) = some (n, m - b.length) := by
  have hne : ∀ c ∈ a ++ pointed pt b, c ≠ 101 ∧ c ≠ 69 := by
    intro c hc
    rcases List.mem_append.1 hc with h | h
    · exact ⟨(ten_no ha h).1, (ten_no ha h).2.1⟩
    · unfold pointed at h
      split at h
      · rcases List.mem_cons.1 h with rfl | h
        · decide
        · exact ⟨(ten_no hb h).1, (ten_no hb h).2.1⟩
      · exact ⟨(ten_no hb h).1, (ten_no hb h).2.1⟩
  have hc := cutC_pointed (b := b) ha pt hpf
  have hq : floatQ (a ++ pointed pt b ++ x) = tailQ (a ++ pointed pt b) m := by
    rcases hx with ⟨rfl, rfl⟩ | ⟨c, r, rfl, hc, he⟩
    · have h := cutE_behind (m := []) hne
      rw [List.append_nil] at h ⊢
      exact floatQ_none (by rw [h]; simp [cutE])
    · have h := cutE_behind (m := c :: r) hne
      rw [cutE, if_pos hc] at h
      rw [List.append_nil] at h
      exact floatQ_some h he
  rw [hq]
  unfold tailQ
  rw [hc]
  dsimp only
  rw [if_neg (by rintro (h | h); exact hpt h.1 h.2; omega), hn]
  dsimp only
  rw [if_neg (by omega)]
theorem floatP_sign {l : List UInt8} {x : Nat × Int} (h : floatQ l = some x) : floatP (45 :: l) = some (true, x) := by
  show (floatQ l).map _ = _
  rw [h]; rfl
theorem floatP_none {l : List UInt8} {x : Nat × Int} (hl : l.head? ≠ some 45) (h : floatQ l = some x) : floatP l = some (false, x) := by
  unfold floatP
  split
  · exact absurd rfl hl
  · rw [h]; rfl
/-- A sign, or none. -/
def signL (neg : Bool) : List UInt8 := if neg then [45] else []
theorem floatP_signed {l : List UInt8} {x : Nat × Int} (neg : Bool) (hl : l.head? ≠ some 45) (h : floatQ l = some x) : floatP (signL neg ++ l) = some (neg, x) := by
  cases neg
  · exact floatP_none hl h
  · exact floatP_sign h
theorem head_ten {a b : List UInt8} (ha : Ten a) (hb : b.head? ≠ some 45) : (a ++ b).head? ≠ some 45 := by
  cases a with
  | nil => exact hb
  | cons c r => 
    intro h
    have : c = 45 := Option.some.inj h
    exact (ten_no ha (List.mem_cons_self ..)).2.2.2.1 this
theorem head_pointed {pt : Bool} {b x : List UInt8} (hb : Ten b) (hx : x.head? ≠ some 45) : (pointed pt b ++ x).head? ≠ some 45 := by
  cases pt
  · exact head_ten hb hx
  · show some (46 : UInt8) ≠ _; decide
theorem expD_dgl {k n : Nat} (h : (dgl k n).length ≤ 4) : expD (dgl k n) = some n := by
  unfold expD; rw [if_neg (by omega)]; exact digs1_dgl k n
theorem expoV_minus {k n : Nat} (h : (dgl k n).length ≤ 4) : expoV (45 :: dgl k n) = some (-(n : Int)) := by
  show (expD (dgl k n)).map _ = _
  rw [expD_dgl h]; rfl
theorem expoV_plus {k n : Nat} (h : (dgl k n).length ≤ 4) : expoV (43 :: dgl k n) = some (n : Int) := by
  show (expD (dgl k n)).map _ = _
  rw [expD_dgl h]; rfl
theorem expoV_bare {k n : Nat} (h : (dgl k n).length ≤ 4) : expoV (dgl k n) = some (n : Int) := by
  have ht := ten_dgl k n
  unfold expoV
  split
  · rename_i heq; rw [heq] at ht; exact absurd rfl (ten_no ht (List.mem_cons_self ..)).2.2.2.1
  · rename_i heq; rw [heq] at ht; exact absurd rfl (ten_no ht (List.mem_cons_self ..)).2.2.2.2
  · rw [expD_dgl h]; rfl
theorem dgl_len2 {k n : Nat} (h : n < 100) : (dgl k n).length ≤ k + 2 := by
  unfold dgl
  rw [List.length_append, List.length_replicate]
  by_cases h1 : n < 10
  · rw [digL_small h1]; simp
  · rw [digL_big h1 (by decide), digL_small (by omega)]; simp
/-- Negated bits stand for the opposite. -/
theorem read_neg (x : Nat) : Ieee.double.read (Op.negFloat .f64 x) = (Ieee.double.read x).opposite := by
  have hs : Ieee.double.signWeight = 2 ^ 63 := rfl
  have hn : Op.negFloat .f64 x = x ^^^ 2 ^ 63 := rfl
  have h1 : (x ^^^ 2 ^ 63) % 2 ^ 63 = x % 2 ^ 63 := by
    rw [Nat.xor_mod_two_pow, Nat.mod_self, Nat.xor_zero]
  have h2 : ((x ^^^ 2 ^ 63) / 2 ^ 63 % 2 == 1) = !(x / 2 ^ 63 % 2 == 1) := by
    rw [Nat.xor_div_two_pow, show 2 ^ 63 / 2 ^ 63 = 1 by decide]
    have h3 := Nat.xor_mod_two_pow (a := x / 2 ^ 63) (b := 1) (n := 1)
    rw [show 2 ^ 1 = 2 by rfl] at h3
    rw [h3]
    rcases Nat.mod_two_eq_zero_or_one (x / 2 ^ 63) with h | h <;> rw [h] <;> rfl
  rw [hn]
  unfold Ieee.Format.read
  dsimp only
  rw [hs, h1, h2]
  split
  · rfl
  · split
    · rfl
    · split <;> rfl
theorem noNaN_neg {x : Nat} (h : NoNaN x) : NoNaN (Op.negFloat .f64 x) := by
  unfold NoNaN
  rw [read_neg]
  rcases h with ⟨s, m, i, h⟩ | ⟨s, h⟩
  · rw [h]; exact .inl ⟨_, _, _, rfl⟩
  · rw [h]; exact .inr ⟨_, rfl⟩
theorem noNaN_floatW {neg : Bool} {n : Nat} {k : Int} (hn : n < 2 ^ 53) (h0 : -22 ≤ k) (h1 : k ≤ 22) : NoNaN (floatW (neg, n, k)) := by
  obtain ⟨m, i, hr⟩ := read_int hn
  have := noNaN_moveB hr h0 h1
  unfold floatW
  split
  · exact noNaN_neg this
  · exact this
theorem floatW_neg0 {n : Nat} (h : n < 2 ^ 53) (h0 : n ≠ 0) : floatW (true, n, 0) = Op.negFloat .f64 (floatOfInt .f64 (n : Int)) := by
  have := floatW_whole h
  unfold floatW at this ⊢
  rw [if_neg (by simp)] at this
  rw [if_pos ⟨rfl, h0⟩]
  exact congrArg _ this
theorem floatW_zero : floatW (true, 0, 0) = floatOfInt .f64 ((0 : Nat) : Int) := by
  have := floatW_whole (n := 0) (by decide)
  unfold floatW at this ⊢
  rw [if_neg (by simp)] at this ⊢
  exact this
end Go.Proofs.YtbejimncmfeggaaDoor
