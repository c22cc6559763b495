/- The small case of layer 4 comes out right. -/
import Derived.Test.YtbejimncmfeggaaDoorNumI
namespace Go.Proofs.YtbejimncmfeggaaDoor
open Go.RowKit
set_option linter.unusedVariables false

theorem whole_yes (s : ByteArray) (n : Nat) (w : World) (hs : s.size ≤ 140737488355328) (h : (digs1 10 s.toList).map (fun v => min v maxI) = some n) :
    Calls Tryd.prog 37 #[.string s] w fun e w' => e = .returned (.tuple #[.int .i64 (n : Int), .bool true]) ∧ w = w' := by
  refine (whole_any s w hs).mono fun e w' hr => ?_
  unfold RetN at hr
  cases hd : digs1 10 s.toList with
  | none => rw [hd] at h; cases h
  | some v =>
    rw [hd] at h hr
    have : min v maxI = n := Option.some.inj h
    rw [show (some v).getD 0 = v from rfl, this] at hr
    exact hr
theorem whole_no (s : ByteArray) (w : World) (hs : s.size ≤ 140737488355328) (h : digs1 10 s.toList = none) :
    Calls Tryd.prog 37 #[.string s] w fun e w' => e = .returned (.tuple #[.int .i64 0, .bool false]) ∧ w = w' := by
  refine (whole_any s w hs).mono fun e w' hr => ?_
  unfold RetN at hr
  rw [h] at hr
  exact hr
theorem float_yes (s : ByteArray) (x : Bool × Nat × Int) (b : Nat) (w : World) (hs : s.size ≤ 4294967000) (hm : ML w) (ha : AsciiL s.toList) (h : floatP s.toList = some x) (hb : floatW x = b) :
    Calls Tryd.prog 38 #[.string s] w fun e w' => e = .returned (.tuple #[.float .f64 b, .bool true]) ∧ Below w.heap.size w w' := by
  subst hb; exact float_ascii s (some x) w hs hm ha h
theorem float_no (s : ByteArray) (w : World) (hs : s.size ≤ 4294967000) (hm : ML w) (ha : AsciiL s.toList) (h : floatP s.toList = none) :
    Calls Tryd.prog 38 #[.string s] w fun e w' => e = .returned (.tuple #[.float .f64 0, .bool false]) ∧ Below w.heap.size w w' := float_ascii s none w hs hm ha h
theorem ascii_lit {l : List UInt8} (h : l.all (fun c => decide (c.toNat < 128)) = true) : AsciiL (ByteArray.mk l.toArray).toList := by
  rw [toList_mk]; intro c hc; exact of_decide_eq_true (List.all_eq_true.1 h c hc)
theorem wl0 : (digs1 10 [48, 48, 52, 50]).map (fun v => min v maxI) = some 42 := by decide +kernel
theorem wl1 : (digs1 10 [57, 57, 57, 57, 57, 57, 57, 57, 57, 57, 57, 57, 57, 57, 57, 57, 57, 57, 57, 57]).map (fun v => min v maxI) = some 9223372036854775807 := by decide +kernel
theorem wl2 : digs1 10 [] = none := by decide +kernel
theorem fl0 : floatP [45, 46, 53, 101, 49] = some (true, 5, 0) := by decide +kernel
theorem fb0 : floatW (true, 5, 0) = 13840687554816376832 := by decide +kernel
theorem fl1 : floatP [49, 46] = none := by decide +kernel
theorem fl2 : floatP [43, 49] = none := by decide +kernel
theorem fl3 : floatP [45, 48] = some (true, 0, 0) := by decide +kernel
theorem fb3 : floatW (true, 0, 0) = 0 := by decide +kernel
theorem fl4 : floatP [49, 101, 50, 51] = none := by decide +kernel
theorem fl5 : floatP [48, 46, 49] = some (false, 1, -1) := by decide +kernel
theorem fb5 : floatW (false, 1, -1) = 4591870180066957722 := by decide +kernel
end Go.Proofs.YtbejimncmfeggaaDoor
