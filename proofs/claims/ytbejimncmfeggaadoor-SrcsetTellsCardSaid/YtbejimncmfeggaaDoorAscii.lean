/- The contracts of package ascii, and of the reference tamisref01, over this seat's program. -/
import Derived.Test.YtbejimncmfeggaaDoorBase
namespace Go.Proofs.YtbejimncmfeggaaDoor
open Go.RowKit
set_option linter.unusedVariables false

def blankZ (c : Int) : Bool := c == 9 || c == 10 || c == 12 || c == 13 || c == 32
def letterZ (c : Int) : Bool := decide (65 ≤ c ∧ c ≤ 90) || decide (97 ≤ c ∧ c ≤ 122)
def worthZ (c : Int) : Int := if 48 ≤ c ∧ c ≤ 57 then c - 48 else if 97 ≤ c ∧ c ≤ 122 then c - 87 else if 65 ≤ c ∧ c ≤ 90 then c - 55 else -1
def digitZ (c base : Int) : Int := if worthZ c ≥ base then -1 else worthZ c
def lowerC (c : UInt8) : UInt8 := if 65 ≤ c.toNat ∧ c.toNat ≤ 90 then UInt8.ofNat (c.toNat + 32) else c
def lowerL (l : List UInt8) : List UInt8 := l.map lowerC

theorem lowerC_up {c : UInt8} (h : 65 ≤ (c.toNat : Int)) (h' : (c.toNat : Int) ≤ 90) : (c.toNat : Int) - 65 + 97 = ((lowerC c).toNat : Int) := by
  unfold lowerC; rw [if_pos ⟨by omega, by omega⟩]; simp; omega
theorem lowerC_not {c : UInt8} (h : ¬ (65 ≤ (c.toNat : Int) ∧ (c.toNat : Int) ≤ 90)) : lowerC c = c := by
  unfold lowerC; rw [if_neg (by omega)]
theorem lowerL_snoc {l : List UInt8} {c : UInt8} {k : Nat} {s : ByteArray} (hk : k < s.size) (hl : l = lowerL (s.toList.take k)) (hc : c = lowerC s[k]) : l ++ [c] = lowerL (s.toList.take (k + 1)) := by
  rw [take_snoc _ _ hk, hl, hc]; simp [lowerL]

theorem ty8 : ElemTy Tryd.prog 42 5 (.int .u8 0) 1 := .mk' Tryd.underlying42 (by kernel_rfl) rfl

set_option maxHeartbeats 400000 in
theorem blank_any (c : Int) (w : World) :
    Calls Tryd.prog 18 #[.int .u8 c] w fun e w' => e = .returned (.bool (blankZ c)) ∧ w = w' := by
  go_enter Tryd.func18, Tryd.ntmps18
  go_wp2
  all_goals (go_ret; exact ⟨ret_bool (by simp_all [blankZ]), rfl⟩)
set_option maxHeartbeats 400000 in
theorem blankr_any (c : Int) (w : World) :
    Calls Tryd.prog 34 #[.int .u8 c] w fun e w' => e = .returned (.bool (blankZ c)) ∧ w = w' := by
  go_enter Tryd.func34, Tryd.ntmps34
  go_wp2
  all_goals (go_ret; exact ⟨ret_bool (by simp_all [blankZ]), rfl⟩)
set_option maxHeartbeats 400000 in
theorem digit_any (c b : Int) (w : World) (h0 : 0 ≤ c) (h1 : c ≤ 255) :
    Calls Tryd.prog 48 #[.int .u8 c, .int .i64 b] w fun e w' => e = .returned (.int .i64 (digitZ c b)) ∧ w = w' := by
  go_enter Tryd.func48, Tryd.ntmps48
  go_wp2
  all_goals (go_ret; exact ⟨ret_int (by simp only [digitZ, worthZ]; omega), rfl⟩)
set_option maxHeartbeats 400000 in
theorem digitr_any (c b : Int) (w : World) (h0 : 0 ≤ c) (h1 : c ≤ 255) :
    Calls Tryd.prog 54 #[.int .u8 c, .int .i64 b] w fun e w' => e = .returned (.int .i64 (digitZ c b)) ∧ w = w' := by
  go_enter Tryd.func54, Tryd.ntmps54
  go_wp2
  all_goals (go_ret; exact ⟨ret_int (by simp only [digitZ, worthZ]; omega), rfl⟩)

def tightC (c : UInt8) : Bool := !(c.toNat == 9 || c.toNat == 10 || c.toNat == 13)
def tightL (l : List UInt8) : List UInt8 := l.filter tightC
theorem tight_no {c : UInt8} (h : (c.toNat : Int) = 9 ∨ (c.toNat : Int) = 10 ∨ (c.toNat : Int) = 13) : tightC c = false := by simp [tightC]; omega
theorem tight_yes {c : UInt8} (h : ¬ ((c.toNat : Int) = 9 ∨ (c.toNat : Int) = 10 ∨ (c.toNat : Int) = 13)) : tightC c = true := by simp [tightC]; omega
theorem tightL_out {l : List UInt8} {k : Nat} {s : ByteArray} (hk : k < s.size) (hl : l = tightL (s.toList.take k)) (hc : tightC s[k] = false) : l = tightL (s.toList.take (k + 1)) := by
  rw [take_snoc _ _ hk, hl]; simp [tightL, hc]
theorem tightL_in {l : List UInt8} {k : Nat} {s : ByteArray} (hk : k < s.size) (hl : l = tightL (s.toList.take k)) (hc : tightC s[k] = true) : l ++ [s[k]] = tightL (s.toList.take (k + 1)) := by
  rw [take_snoc _ _ hk, hl]; simp [tightL, hc]

theorem lower_step {l : List UInt8} {k : Nat} {s : ByteArray} (hk : k < s.size) (hl : l = lowerL (s.toList.take k) ++ s.toList.drop k) : l.set k (lowerC s[k]) = lowerL (s.toList.take (k + 1)) ++ s.toList.drop (k + 1) := by
  have hlen : (lowerL (s.toList.take k)).length = k := by simp [lowerL, size_toList]; omega
  rw [hl, List.set_append_right _ _ (by omega), hlen, Nat.sub_self, drop_cons _ _ hk, take_snoc _ _ hk]
  simp [lowerL]
theorem lower_same {l : List UInt8} {k : Nat} {s : ByteArray} (hk : k < s.size) (hl : l = lowerL (s.toList.take k) ++ s.toList.drop k) (hc : lowerC s[k] = s[k]) : l = lowerL (s.toList.take (k + 1)) ++ s.toList.drop (k + 1) := by
  rw [hl, drop_cons _ _ hk, take_snoc _ _ hk]
  simp [lowerL, hc]
theorem lower_at {l : List UInt8} {k : Nat} {s : ByteArray} (hk : k < s.size) (hl : l = lowerL (s.toList.take k) ++ s.toList.drop k) : ∃ h : k < l.length, l[k] = s[k] := by
  have hlen : (lowerL (s.toList.take k)).length = k := by simp [lowerL, size_toList]; omega
  subst hl
  refine ⟨by simp [lowerL, size_toList]; omega, ?_⟩
  rw [List.getElem_append_right (by omega)]
  simp only [hlen, Nat.sub_self, drop_cons _ _ hk, List.getElem_cons_zero]

end Go.Proofs.YtbejimncmfeggaaDoor
