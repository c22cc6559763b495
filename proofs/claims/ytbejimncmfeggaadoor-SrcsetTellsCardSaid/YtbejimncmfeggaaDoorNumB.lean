/- What a short float's text tells: no program in sight; the contract of number.exponent. -/
import Derived.Test.YtbejimncmfeggaaDoorNumA
namespace Go.Proofs.YtbejimncmfeggaaDoor
open Go.RowKit
set_option linter.unusedVariables false

/-- What stands ahead of the first e, large or small, and what stands behind it. -/
def cutE : List UInt8 → List UInt8 × Option (List UInt8)
  | [] => ([], none)
  | c :: r => if c = 101 ∨ c = 69 then ([], some r) else (c :: (cutE r).1, (cutE r).2)
/-- One to four digits. -/
def expD (l : List UInt8) : Option Nat := if 4 < l.length then none else digs1 10 l
/-- A sign, or none, and digits. -/
def expoV : List UInt8 → Option Int
  | 45 :: r => (expD r).map (fun n : Nat => -(n : Int))
  | 43 :: r => (expD r).map (fun n : Nat => (n : Int))
  | l => (expD l).map (fun n : Nat => (n : Int))
/-- Behind the sign: the number, and how far its point is moved. -/
def floatQ (l : List UInt8) : Option (Nat × Int) :=
  match (match (cutE l).2 with | none => some 0 | some r => expoV r) with
  | none => none
  | some m =>
    if ((cutC 46 (cutE l).1).2.2 = true ∧ (cutC 46 (cutE l).1).2.1 = []) ∨ 15 < (cutC 46 (cutE l).1).1.length + (cutC 46 (cutE l).1).2.1.length then none
    else match digs1 10 ((cutC 46 (cutE l).1).1 ++ (cutC 46 (cutE l).1).2.1) with
      | none => none
      | some n => if m - (cutC 46 (cutE l).1).2.1.length < -22 ∨ 22 < m - (cutC 46 (cutE l).1).2.1.length then none else some (n, m - (cutC 46 (cutE l).1).2.1.length)
/-- A short float's text: is it below 0, the number, and how far its point is moved. -/
def floatP : List UInt8 → Option (Bool × Nat × Int)
  | 45 :: r => (floatQ r).map fun x => (true, x)
  | l => (floatQ l).map fun x => (false, x)

theorem hasPrefix1 (c : UInt8) (l : List UInt8) : Lib.hasPrefix l [c] = match l with | x :: _ => (c == x) | [] => false := by
  unfold Lib.hasPrefix
  match l with
  | [] => rfl
  | x :: r => simp [List.isPrefixOf]
theorem trim_no {s : ByteArray} {c : UInt8} (h : Lib.hasPrefix s.data.toList [c] = false) : (⟨(Lib.trimPrefix s.data.toList [c]).toArray⟩ : ByteArray) = s := by
  unfold Lib.trimPrefix; rw [if_neg (by rw [h]; decide)]
theorem trim_yes {s : ByteArray} {c : UInt8} {r : List UInt8} (h : s.toList = c :: r) : (⟨(Lib.trimPrefix s.data.toList [c]).toArray⟩ : ByteArray) = ⟨r.toArray⟩ := by
  unfold Lib.trimPrefix
  rw [← ByteArray.toList_eq, h, if_pos (by rw [hasPrefix1]; simp)]; rfl
theorem digs_le {l : List UInt8} {n : Nat} : ∀ (acc : Nat), digsGo 10 acc l = some n → n < (acc + 1) * 10 ^ l.length := by
  induction l with
  | nil => intro acc h; simp [digsGo] at h; rw [List.length_nil, Nat.pow_zero]; omega
  | cons c r ih =>
    intro acc h
    rw [digsGo] at h
    split at h
    · cases h
    · have hd : (digitZ (c.toNat : Int) ((10 : Nat) : Int)).toNat ≤ 9 := by unfold digitZ; omega
      have := ih _ h
      refine Nat.lt_of_lt_of_le this ?_
      rw [List.length_cons, Nat.pow_succ, Nat.mul_comm (10 ^ r.length) 10, ← Nat.mul_assoc]
      exact Nat.mul_le_mul_right _ (by omega)
theorem digs1_le {l : List UInt8} {n : Nat} (h : digs1 10 l = some n) : n < 10 ^ l.length := by
  unfold digs1 at h
  split at h
  · cases h
  · have := digs_le 0 h; omega
/-- A number that may be below 0, and whether there is one. -/
def RetZ (w : World) (o : Option Int) (e : Ending) (w' : World) : Prop := e = .returned (.tuple #[.int .i64 (o.getD 0), .bool o.isSome]) ∧ w = w'
theorem expD_bd {l : List UInt8} {n : Nat} (h : expD l = some n) : n ≤ 9999 := by
  unfold expD at h
  split at h
  · cases h
  · have := digs1_le h
    have h2 : 10 ^ l.length ≤ 10 ^ 4 := Nat.pow_le_pow_right (by decide) (by omega)
    omega
theorem expoV_bd {l : List UInt8} {n : Int} (h : expoV l = some n) : -9999 ≤ n ∧ n ≤ 9999 := by
  unfold expoV at h
  split at h
  all_goals
    rw [Option.map_eq_some_iff] at h
    obtain ⟨m, hm, rfl⟩ := h
    have := expD_bd hm
    omega
set_option maxRecDepth 100000 in
set_option maxHeartbeats 1000000 in
theorem exponent_any (s : ByteArray) (w : World) (hs : s.size ≤ 140737488355328) :
    Calls Tryd.prog 51 #[.string s] w (RetZ w (expoV s.toList)) := by
  have key : ∃ (x : ByteArray) (neg : Bool), x.size ≤ 140737488355328 ∧ Hid (expoV s.toList = (expD x.toList).map (fun n : Nat => if neg then -(n : Int) else (n : Int))) ∧
      ((neg = true ∧ Lib.hasPrefix s.data.toList [45] = true ∧ (⟨(Lib.trimPrefix s.data.toList [45]).toArray⟩ : ByteArray) = x) ∨
       (neg = false ∧ Lib.hasPrefix s.data.toList [45] = false ∧ (⟨(Lib.trimPrefix s.data.toList [45]).toArray⟩ : ByteArray) = s ∧ (⟨(Lib.trimPrefix s.data.toList [43]).toArray⟩ : ByteArray) = x)) := by
    have hl := size_toList s
    match hL : s.toList with
    | [] =>
      have p1 : Lib.hasPrefix s.data.toList [45] = false := by rw [← ByteArray.toList_eq, hL]; rfl
      have p2 : Lib.hasPrefix s.data.toList [43] = false := by rw [← ByteArray.toList_eq, hL]; rfl
      exact ⟨s, false, hs, Lib.hid (by rw [hL]; rfl), .inr ⟨rfl, p1, trim_no p1, trim_no p2⟩⟩
    | c :: r =>
      have hz : (ByteArray.mk r.toArray).size ≤ 140737488355328 := by rw [← size_toList, toList_mk]; rw [hL] at hl; simp at hl; omega
      have pq : ∀ d, Lib.hasPrefix s.data.toList [d] = (d == c) := fun d => by rw [← ByteArray.toList_eq, hL, hasPrefix1]
      by_cases h1 : c = 45
      · subst h1
        exact ⟨⟨r.toArray⟩, true, hz, Lib.hid (by rw [toList_mk]; rfl), .inl ⟨rfl, (pq 45).trans rfl, trim_yes hL⟩⟩
      · have p1 : Lib.hasPrefix s.data.toList [45] = false := (pq 45).trans (by simpa using Ne.symm h1)
        by_cases h2 : c = 43
        · subst h2
          exact ⟨⟨r.toArray⟩, false, hz, Lib.hid (by rw [toList_mk]; rfl), .inr ⟨rfl, p1, trim_no p1, trim_yes hL⟩⟩
        · have p2 : Lib.hasPrefix s.data.toList [43] = false := (pq 43).trans (by simpa using Ne.symm h2)
          refine ⟨s, false, hs, Lib.hid ?_, .inr ⟨rfl, p1, trim_no p1, trim_no p2⟩⟩
          rw [hL]
          unfold expoV
          split
          · rename_i h; exact absurd (List.cons.inj h).1 h1
          · rename_i h; exact absurd (List.cons.inj h).1 h2
          · rfl
  obtain ⟨x, neg, hx, hV, hcs⟩ := key
  have hw := Lib.hid (fun w => whole_any x w hx)
  have hlen : (decide ((4 : Int) < (x.size : Int)) = true ∧ Hid (expD x.toList = none)) ∨ (decide ((4 : Int) < (x.size : Int)) = false ∧ Hid (expD x.toList = digs1 10 x.toList)) := by
    by_cases h : 4 < x.size
    · exact .inl ⟨decide_eq_true (by omega), Lib.hid (by unfold expD; rw [size_toList, if_pos h])⟩
    · exact .inr ⟨decide_eq_false (by omega), Lib.hid (by unfold expD; rw [size_toList, if_neg h])⟩
  rcases hlen with ⟨q1, q2⟩ | ⟨q1, q2⟩
  · have hno : Hid (expoV s.toList = none) := Lib.hid (by rw [hV.out, q2.out]; rfl)
    rcases hcs with ⟨rfl, h1, h2⟩ | ⟨rfl, h1, h2, h3⟩
    all_goals
      go_enter Tryd.func51, Tryd.ntmps51
      go_wp2_with (first
        | (go_at_call 49; refine (Tryd.strings_CutPrefix _ _ _).mono ?_; rintro e w' ⟨rfl, rfl⟩)
        | (go_at_call 61; refine (Tryd.strings_TrimPrefix _ _ _).mono ?_; rintro e w' ⟨rfl, rfl⟩))
      go_ret2
      unfold RetZ
      rw [hno.out]
      exact ⟨rfl, rfl⟩
  · cases hD : expD x.toList with
    | none =>
      have hno : Hid (expoV s.toList = none) := Lib.hid (by rw [hV.out, hD]; rfl)
      have hw2 := Lib.hid (fun w => by have := hw.out w; rw [← q2.out, hD] at this; exact this)
      replace hD := Lib.hid hD
      rcases hcs with ⟨rfl, h1, h2⟩ | ⟨rfl, h1, h2, h3⟩
      all_goals
        go_enter Tryd.func51, Tryd.ntmps51
        go_wp2_with (first
          | (go_at_call 49; refine (Tryd.strings_CutPrefix _ _ _).mono ?_; rintro e w' ⟨rfl, rfl⟩)
          | (go_at_call 61; refine (Tryd.strings_TrimPrefix _ _ _).mono ?_; rintro e w' ⟨rfl, rfl⟩)
          | (go_at_call 37; refine (hw2.out _).mono ?_; rintro e w' ⟨rfl, rfl⟩))
        go_ret2
        unfold RetZ
        rw [hno.out]
        exact ⟨rfl, rfl⟩
    | some n =>
      have hbd := expD_bd hD
      have hmin : min n maxI = n := by unfold maxI; omega
      have hyes : Hid (expoV s.toList = some (if neg then -(n : Int) else (n : Int))) := Lib.hid (by rw [hV.out, hD]; rfl)
      have hw2 : Hid (∀ w, Calls Tryd.prog 37 #[.string x] w (fun e w' => e = .returned (.tuple #[.int .i64 (n : Int), .bool true]) ∧ w = w')) := Lib.hid (fun w => by
        have := hw.out w
        rw [← q2.out, hD] at this
        refine this.mono fun e w' h => ?_
        unfold RetN at h
        rw [show (some n).getD 0 = n from rfl, hmin] at h
        exact h)
      have e1 : IntKind.i64.wrap (-(n : Int)) = -(n : Int) := IntWalk.i64_in _ (by omega)
      replace hD := Lib.hid hD
      replace hmin := Lib.hid hmin
      rcases hcs with ⟨rfl, h1, h2⟩ | ⟨rfl, h1, h2, h3⟩
      all_goals
        go_enter Tryd.func51, Tryd.ntmps51
        go_wp2_with (first
          | (go_at_call 49; refine (Tryd.strings_CutPrefix _ _ _).mono ?_; rintro e w' ⟨rfl, rfl⟩)
          | (go_at_call 61; refine (Tryd.strings_TrimPrefix _ _ _).mono ?_; rintro e w' ⟨rfl, rfl⟩)
          | (go_at_call 37; refine (hw2.out _).mono ?_; rintro e w' ⟨rfl, rfl⟩))
        go_ret2
        unfold RetZ
        rw [hyes.out]
        exact ⟨rfl, rfl⟩
end Go.Proofs.YtbejimncmfeggaaDoor
