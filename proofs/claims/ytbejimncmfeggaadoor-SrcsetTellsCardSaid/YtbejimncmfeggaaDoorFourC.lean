/- The contracts of four.digits, four.number and the reference's number. -/
import Derived.Test.YtbejimncmfeggaaDoorFourP
import Derived.IntWalk
namespace Go.Proofs.YtbejimncmfeggaaDoor
open Go.RowKit
set_option linter.unusedVariables false

theorem min_step {C acc b d : Nat} (hb : 1 ≤ b) : min (min acc C * b + d) C = min (acc * b + d) C := by
  by_cases h : acc ≤ C
  · rw [Nat.min_eq_left h]
  · have h1 : min acc C = C := Nat.min_eq_right (by omega)
    have h2 : C * 1 ≤ C * b := Nat.mul_le_mul_left _ hb
    have h3 : C * b ≤ acc * b := Nat.mul_le_mul_right _ (by omega)
    rw [h1, Nat.min_eq_right (by omega), Nat.min_eq_right (by omega)]
theorem digitZ_ge (c a : Int) : -1 ≤ digitZ c a := by unfold digitZ worthZ; omega
theorem digitZ_le (c a : Int) : digitZ c a ≤ 35 := by unfold digitZ worthZ; omega
/-- A number that is told, no more than C of it, and whether there is one. -/
def RetN (C : Nat) (w : World) (o : Option Nat) (e : Ending) (w' : World) : Prop := e = .returned (.tuple #[.int .i64 ((min (o.getD 0) C : Nat) : Int), .bool o.isSome]) ∧ w = w'
theorem digs1_some {base : Nat} {s : ByteArray} (h : s.toList.isEmpty = false) : digs1 base s.toList = digsGo base 0 s.toList := by
  unfold digs1; rw [if_neg (by intro e; rw [e] at h; cases h)]

theorem hasPrefix2 (c d : UInt8) (l : List UInt8) : Lib.hasPrefix l [c, d] = match l with | x :: y :: _ => (c == x && d == y) | _ => false := by
  unfold Lib.hasPrefix
  match l with
  | [] => rfl
  | [x] => simp [List.isPrefixOf]
  | x :: y :: r => simp [List.isPrefixOf]
theorem get_head {s : ByteArray} {c : UInt8} {l : List UInt8} (h : s.toList = c :: l) (h0 : 0 < s.size) : s[0] = c := by
  have := toList_get s 0 h0
  rw [← this]; simp [h]
theorem toList_from {s : ByteArray} (k : Nat) : (s.extract k s.size).toList = s.toList.drop k := by
  rw [toList_extract, ← size_toList, List.take_length]
theorem retN_eq {C : Nat} {w : World} {o p : Option Nat} {e : Ending} {w' : World} (h : o = p) (r : RetN C w o e w') : RetN C w p e w' := h ▸ r
theorem u8_eqI {c : UInt8} {n : Nat} (hn : n < 256) : ((c.toNat : Int) == (n : Int)) = decide (c = UInt8.ofNat n) := by
  rw [Bool.eq_iff_iff]
  simp only [beq_iff_eq, decide_eq_true_eq]
  constructor
  · intro h
    have : c.toNat = n := by omega
    rw [← this]; simp
  · rintro rfl
    rw [UInt8.toNat_ofNat_of_lt' hn]
end Go.Proofs.YtbejimncmfeggaaDoor
