/- Powers of ten as floats; the contract of number.move. -/
import Derived.Test.YtbejimncmfeggaaDoorNumF
import Derived.Test.YtbejimncmfeggaaDoorNumB
namespace Go.Proofs.YtbejimncmfeggaaDoor
open Go.RowKit
set_option linter.unusedVariables false

def tenB : Nat := 4621819117588971520
/-- 10 to the k, as the code multiplies it up. -/
def powB : Nat → Nat
  | 0 => 4607182418800017408
  | k + 1 => (Ieee.double.mul (powB k) tenB).getD 0
theorem pow_step : ∀ k : Fin 22, Ieee.double.mul (powB k.val) tenB = some (powB (k.val + 1)) := by decide +kernel
def numberPos : Ieee.Datum → Bool
  | .number false m _ => decide (m ≠ 0)
  | _ => false
theorem pow_read : ∀ k : Fin 23, numberPos (Ieee.double.read (powB k.val)) = true := by decide +kernel
theorem pow_number {k : Nat} (h : k ≤ 22) : ∃ m e, Ieee.double.read (powB k) = .number false m e ∧ m ≠ 0 := by
  have := pow_read ⟨k, by omega⟩
  revert this
  show numberPos (Ieee.double.read (powB k)) = true → _
  cases Ieee.double.read (powB k) with
  | number s m e => cases s <;> simp [numberPos]
  | infinity s => simp [numberPos]
  | nan s t => simp [numberPos]
theorem mul_some {x y : Nat} {s t : Bool} {m n : Nat} {i j : Int} (hx : Ieee.double.read x = .number s m i) (hy : Ieee.double.read y = .number t n j) : Ieee.double.mul x y = some (Ieee.double.nearest (s ^^ t) (m * n) (i + j)) := by
  unfold Ieee.Format.mul; rw [hx, hy]; rfl
theorem div_some {x y : Nat} {s t : Bool} {m n : Nat} {i j : Int} (hx : Ieee.double.read x = .number s m i) (hy : Ieee.double.read y = .number t n j) (hn : n ≠ 0) : ∃ r, Ieee.double.div x y = some r := by
  unfold Ieee.Format.div; rw [hx, hy]
  unfold Ieee.Datum.quotient
  dsimp only
  rw [if_neg hn]
  exact ⟨_, rfl⟩
/-- f with its point moved by k digits. -/
def moveB (f : Nat) (k : Int) : Nat := if k < 0 then (Ieee.double.div f (powB k.natAbs)).getD 0 else (Ieee.double.mul f (powB k.natAbs)).getD 0
theorem move_neg {f : Nat} {s : Bool} {m : Nat} {i : Int} (hf : Ieee.double.read f = .number s m i) {k : Int} (h : k < 0) (hk : -22 ≤ k) : Ieee.double.div f (powB k.natAbs) = some (moveB f k) := by
  obtain ⟨n, e, hp, hn⟩ := pow_number (k := k.natAbs) (by omega)
  obtain ⟨r, hr⟩ := div_some hf hp hn
  unfold moveB; rw [if_pos h, hr]; rfl
theorem move_pos {f : Nat} {s : Bool} {m : Nat} {i : Int} (hf : Ieee.double.read f = .number s m i) {k : Int} (h : ¬ k < 0) (hk : k ≤ 22) : Ieee.double.mul f (powB k.natAbs) = some (moveB f k) := by
  obtain ⟨n, e, hp, hn⟩ := pow_number (k := k.natAbs) (by omega)
  have hr := mul_some hf hp
  unfold moveB; rw [if_neg h, hr]; rfl
set_option maxRecDepth 100000 in
set_option maxHeartbeats 1000000 in
theorem move_any (f : Nat) (k : Int) (w : World) {s : Bool} {m : Nat} {i : Int} (hf : Ieee.double.read f = .number s m i) (h0 : -22 ≤ k) (h1 : k ≤ 22) :
    Calls Tryd.prog 53 #[.float .f64 f, .int .i64 k] w fun e w' => e = .returned (.float .f64 (moveB f k)) ∧ w = w' := by
  have hmax : max k (-k) = (k.natAbs : Int) := by omega
  have e1 : IntKind.i64.wrap (-k) = -k := IntWalk.i64_in _ (by omega)
  have hst : ∀ j, j < 22 → ∀ w t, (binOp .mul t (.float .f64 (powB j)) (.float .f64 4621819117588971520)).run Tryd.prog w = .ok (.float .f64 (powB (j + 1))) w := fun j hj w t =>
    run_float_arith w .mul t .f64 _ _ _ (pow_step ⟨j, hj⟩)
  have hK : k.natAbs ≤ 22 := by omega
  have hKI : (k.natAbs : Int) ≤ 22 := by omega
  replace hst := Lib.hid hst
  go_enter Tryd.func53, Tryd.ntmps53
  go_wp2_with fail
  go_loop [5, 10] (fun pv iv => ∃ j : Nat, iv = .int .i64 j ∧ pv = .float .f64 (powB j) ∧ j ≤ k.natAbs) (fun _ iv => k.natAbs - (intOf iv).toNat)
  case atStart => exact ⟨0, rfl, rfl, Nat.zero_le _⟩
  case round =>
    obtain ⟨j, rfl, rfl, hj⟩ := hrel
    by_cases hlt : j < k.natAbs
    · have hltI : (j : Int) < (k.natAbs : Int) := by omega
      have hr := hst.out j (by omega)
      go_wp2_with fail
      go_round
      case rel => exact ⟨j + 1, by go_num, rfl, by omega⟩
      case measure => simp [intOf]; omega
    · obtain rfl : j = k.natAbs := by omega
      have hgeI : (k.natAbs : Int) ≤ (k.natAbs : Int) := Int.le_refl _
      by_cases hk : k < 0
      · have hr : ∀ w t, (binOp .quo t (.float .f64 f) (.float .f64 (powB k.natAbs))).run Tryd.prog w = .ok (.float .f64 (moveB f k)) w := fun w t => run_float_arith w .quo t .f64 _ _ _ (move_neg hf hk h0)
        go_wp2_with fail
        go_ret
        exact ⟨rfl, rfl⟩
      · have hr : ∀ w t, (binOp .mul t (.float .f64 f) (.float .f64 (powB k.natAbs))).run Tryd.prog w = .ok (.float .f64 (moveB f k)) w := fun w t => run_float_arith w .mul t .f64 _ _ _ (move_pos hf hk h1)
        have hk2 : 0 ≤ k := by omega
        go_wp2_with fail
        go_ret
        exact ⟨rfl, rfl⟩
end Go.Proofs.YtbejimncmfeggaaDoor
