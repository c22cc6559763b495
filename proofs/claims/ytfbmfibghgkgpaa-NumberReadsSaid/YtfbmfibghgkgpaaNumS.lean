/- The small case of layer 4 comes out right. -/
import Derived.Test.YtfbmfibghgkgpaaNumI
namespace Go.Proofs.Ytfbmfibghgkgpaa
open Go.RowKit
set_option linter.unusedVariables false

theorem whole_yes (s : ByteArray) (n : Nat) (w : World) (hs : s.size ≤ 140737488355328) (h : (digs1 10 s.toList).map (fun v => min v maxI) = some n) :
    Calls Try.prog 9 #[.string s] w fun e w' => e = .returned (.tuple #[.int .i64 (n : Int), .bool true]) ∧ w = w' := by
  refine (whole_any s w hs).mono fun e w' hr => ?_
  unfold RetN at hr
  cases hd : digs1 10 s.toList with
  | none => rw [hd] at h; cases h
  | some v =>
    rw [hd] at h hr
    have : min v maxI = n := Option.some.inj h
    rw [show (some v).getD 0 = v from rfl, this] at hr
    exact hr
theorem whole_no (s : ByteArray) (w : World) (hs : s.size ≤ 140737488355328) (h : digs1 10 s.toList = none) :
    Calls Try.prog 9 #[.string s] w fun e w' => e = .returned (.tuple #[.int .i64 0, .bool false]) ∧ w = w' := by
  refine (whole_any s w hs).mono fun e w' hr => ?_
  unfold RetN at hr
  rw [h] at hr
  exact hr
theorem float_yes (s : ByteArray) (x : Bool × Nat × Int) (b : Nat) (w : World) (hs : s.size ≤ 4294967000) (hm : ML w) (ha : AsciiL s.toList) (h : floatP s.toList = some x) (hb : floatW x = b) :
    Calls Try.prog 11 #[.string s] w fun e w' => e = .returned (.tuple #[.float .f64 b, .bool true]) ∧ Below w.heap.size w w' := by
  subst hb; exact float_ascii s (some x) w hs hm ha h
theorem float_no (s : ByteArray) (w : World) (hs : s.size ≤ 4294967000) (hm : ML w) (ha : AsciiL s.toList) (h : floatP s.toList = none) :
    Calls Try.prog 11 #[.string s] w fun e w' => e = .returned (.tuple #[.float .f64 0, .bool false]) ∧ Below w.heap.size w w' := float_ascii s none w hs hm ha h
theorem ascii_lit {l : List UInt8} (h : l.all (fun c => decide (c.toNat < 128)) = true) : AsciiL (ByteArray.mk l.toArray).toList := by
  rw [toList_mk]; intro c hc; exact of_decide_eq_true (List.all_eq_true.1 h c hc)
theorem wl0 : (digs1 10 [48, 48, 52, 50]).map (fun v => min v maxI) = some 42 := by decide +kernel
theorem wl1 : (digs1 10 [57, 57, 57, 57, 57, 57, 57, 57, 57, 57, 57, 57, 57, 57, 57, 57, 57, 57, 57, 57]).map (fun v => min v maxI) = some 9223372036854775807 := by decide +kernel
theorem wl2 : digs1 10 [] = none := by decide +kernel
theorem fl0 : floatP [45, 46, 53, 101, 49] = some (true, 5, 0) := by decide +kernel
theorem fb0 : floatW (true, 5, 0) = 13840687554816376832 := by decide +kernel
theorem fl1 : floatP [49, 46] = none := by decide +kernel
theorem fl2 : floatP [43, 49] = none := by decide +kernel
theorem fl3 : floatP [45, 48] = some (true, 0, 0) := by decide +kernel
theorem fb3 : floatW (true, 0, 0) = 0 := by decide +kernel
theorem fl4 : floatP [49, 101, 50, 51] = none := by decide +kernel
theorem fl5 : floatP [48, 46, 49] = some (false, 1, -1) := by decide +kernel
theorem fb5 : floatW (false, 1, -1) = 4591870180066957722 := by decide +kernel
set_option maxRecDepth 100000 in
set_option maxHeartbeats 2000000 in
theorem small04_any (w : World) (hm : ML w) : Calls Try.prog 8 #[] w (RetB w true) := by
  have hB : Below w.heap.size w w := Below.refl _ _
  have o1 : (FloatKind.f64.format.order 13840687554816376832 13840687554816376832 == some .eq) = true := by decide +kernel
  have o2 : (FloatKind.f64.format.order 0 0 == some .eq) = true := by decide +kernel
  have o3 : (FloatKind.f64.format.order 4591870180066957722 4591870180066957722 == some .eq) = true := by decide +kernel
  have o4 : (FloatKind.f64.format.order 9218868437227405312 0 == some .gt) = true := by decide +kernel
  have o5 : ∀ w t, (binOp .quo t (.float .f64 4607182418800017408) (.float .f64 0)).run Try.prog w = .ok (.float .f64 9218868437227405312) w := fun w t => run_float_arith w .quo t .f64 _ _ _ (by decide +kernel)
  go_enter Try.func8, Try.ntmps8
  go_wp2_with fail
  refine (whole_yes ⟨#[48, 48, 52, 50]⟩ 42 _ (by decide) ((congrArg (fun l => (digs1 10 l).map (fun v => min v maxI)) (toList_mk _)).trans wl0)).mono ?_
  rintro e wx ⟨rfl, rfl⟩
  go_wp2_with fail
  refine (whole_yes ⟨#[57, 57, 57, 57, 57, 57, 57, 57, 57, 57, 57, 57, 57, 57, 57, 57, 57, 57, 57, 57]⟩ 9223372036854775807 _ (by decide) ((congrArg (fun l => (digs1 10 l).map (fun v => min v maxI)) (toList_mk _)).trans wl1)).mono ?_
  rintro e wx ⟨rfl, rfl⟩
  go_wp2_with fail
  refine (whole_no ⟨#[]⟩ _ (by decide) ((congrArg (digs1 10) (toList_mk _)).trans wl2)).mono ?_
  rintro e wx ⟨rfl, rfl⟩
  go_wp2_with fail
  refine (float_yes ⟨#[45, 46, 53, 101, 49]⟩ _ _ _ (by decide) (hm.next hB) (ascii_lit (by decide)) ((congrArg floatP (toList_mk _)).trans fl0) fb0).mono ?_
  rintro e w0 ⟨rfl, hb⟩
  replace hB := hB.next hb
  clear hb
  go_wp2_with fail
  refine (float_no ⟨#[49, 46]⟩ _ (by decide) (hm.next hB) (ascii_lit (by decide)) ((congrArg floatP (toList_mk _)).trans fl1)).mono ?_
  rintro e w1 ⟨rfl, hb⟩
  replace hB := hB.next hb
  clear hb
  go_wp2_with fail
  refine (float_no ⟨#[43, 49]⟩ _ (by decide) (hm.next hB) (ascii_lit (by decide)) ((congrArg floatP (toList_mk _)).trans fl2)).mono ?_
  rintro e w2 ⟨rfl, hb⟩
  replace hB := hB.next hb
  clear hb
  go_wp2_with fail
  refine (float_yes ⟨#[45, 48]⟩ _ _ _ (by decide) (hm.next hB) (ascii_lit (by decide)) ((congrArg floatP (toList_mk _)).trans fl3) fb3).mono ?_
  rintro e w3 ⟨rfl, hb⟩
  replace hB := hB.next hb
  clear hb
  go_wp2_with fail
  refine (float_no ⟨#[49, 101, 50, 51]⟩ _ (by decide) (hm.next hB) (ascii_lit (by decide)) ((congrArg floatP (toList_mk _)).trans fl4)).mono ?_
  rintro e w4 ⟨rfl, hb⟩
  replace hB := hB.next hb
  clear hb
  go_wp2_with fail
  refine (float_yes ⟨#[48, 46, 49]⟩ _ _ _ (by decide) (hm.next hB) (ascii_lit (by decide)) ((congrArg floatP (toList_mk _)).trans fl5) fb5).mono ?_
  rintro e w5 ⟨rfl, hb⟩
  replace hB := hB.next hb
  clear hb
  go_wp2_with fail
  go_ret
  exact ⟨rfl, hB⟩
end Go.Proofs.Ytfbmfibghgkgpaa
