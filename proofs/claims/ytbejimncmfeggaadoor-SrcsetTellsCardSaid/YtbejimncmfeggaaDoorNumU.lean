/- The contracts of the reference's exponent and Float. -/
import Derived.Test.YtbejimncmfeggaaDoorNumV
import Derived.Deep.CutRange
namespace Go.Proofs.YtbejimncmfeggaaDoor
open Go.RowKit
set_option linter.unusedVariables false
set_option linter.unusedSimpArgs false

theorem get_first {s : ByteArray} {c : UInt8} {r : List UInt8} (h : s.toList = c :: r) : ∃ h0 : 0 < s.size, s[0] = c := by
  have h0 : 0 < s.size := by rw [← size_toList, h]; simp
  refine ⟨h0, ?_⟩
  have := drop_cons s 0 h0
  rw [List.drop_zero, h] at this
  exact (List.cons.inj this).1.symm
theorem nat_beq {a b : Nat} : ((a : Int) == (b : Int)) = (a == b) := by
  rw [Bool.eq_iff_iff]; simp only [beq_iff_eq]; omega
theorem u8_is {c d : UInt8} (h : c = d) : ((c.toNat : Int) == (d.toNat : Int)) = true ∧ ((c.toNat : Int) != (d.toNat : Int)) = false := by subst h; simp
theorem u8_not {c d : UInt8} (h : c ≠ d) : ((c.toNat : Int) == (d.toNat : Int)) = false ∧ ((c.toNat : Int) != (d.toNat : Int)) = true :=
  bne_of (fun h2 => h (UInt8.toNat_inj.1 (by omega)))
theorem isEmpty_cons {s : ByteArray} {c : UInt8} {r : List UInt8} (h : s.toList = c :: r) : s.toList.isEmpty = false := by rw [h]; rfl
theorem isEmpty_nil {s : ByteArray} (h : s.toList = []) : s.toList.isEmpty = true := by rw [h]; rfl
theorem from_one {s : ByteArray} {c : UInt8} {r : List UInt8} (h : s.toList = c :: r) : (s.extract 1 s.size).toList = r := by rw [toList_from, h]; rfl
theorem size_from (s : ByteArray) (k : Nat) : (s.extract k s.size).size ≤ s.size := by rw [ByteArray.size_extract]; omega
set_option maxRecDepth 100000 in
set_option maxHeartbeats 2000000 in
theorem refExp_any (s : ByteArray) (w : World) (hs : s.size ≤ 140737488355328) :
    Calls Tryd.prog 41 #[.string s] w (RetZ w (expR s.toList)) := by
  match hL : s.toList with
  | [] =>
    have hem := isEmpty_nil hL
    have hy : Hid (expR [] = some 0) := Lib.hid rfl
    replace hL := Lib.hid hL
    go_enter Tryd.func41, Tryd.ntmps41
    go_wp2_with fail
    go_ret2
    unfold RetZ
    rw [hy.out]
    exact ⟨rfl, rfl⟩
  | c :: r =>
    have hem := isEmpty_cons hL
    obtain ⟨hp, hc⟩ := get_first hL
    have hpI : (0 : Int) < (s.size : Int) := by omega
    have hpI2 : (1 : Int) ≤ (s.size : Int) := by omega
    by_cases hce : c = 101 ∨ c = 69
    · have hq : (((c.toNat : Int) == 101) = true ∧ ((c.toNat : Int) != 101) = false) ∨ ((((c.toNat : Int) == 101) = false ∧ ((c.toNat : Int) != 101) = true) ∧ (((c.toNat : Int) == 69) = true ∧ ((c.toNat : Int) != 69) = false)) := by
        rcases hce with h | h
        · exact .inl (u8_is (d := 101) h)
        · exact .inr ⟨u8_not (d := 101) (by rw [h]; decide), u8_is (d := 69) h⟩
      have key : ∃ (x t : ByteArray) (neg : Bool), s.extract 1 s.size = t ∧ x.size ≤ s.size ∧ Hid (expR (c :: r) = (expD x.toList).map (fun n : Nat => if neg then -(n : Int) else (n : Int))) ∧
          ((t.toList.isEmpty = true ∧ neg = false ∧ x = t) ∨
           (t.toList.isEmpty = false ∧ neg = true ∧ (∃ h : 0 < t.size, ((t[0].toNat : Int) == 43) = false ∧ ((t[0].toNat : Int) == 45) = true) ∧ t.extract 1 t.size = x) ∨
           (t.toList.isEmpty = false ∧ neg = false ∧ (∃ h : 0 < t.size, ((t[0].toNat : Int) == 43) = true ∧ ((t[0].toNat : Int) == 45) = false) ∧ t.extract 1 t.size = x) ∨
           (t.toList.isEmpty = false ∧ neg = false ∧ (∃ h : 0 < t.size, ((t[0].toNat : Int) == 43) = false ∧ ((t[0].toNat : Int) == 45) = false) ∧ x = t)) := by
        have ht := from_one hL
        have htz := size_from s 1
        have he : expR (c :: r) = expoV r := if_pos hce
        rw [he]
        match hR : r with
        | [] => exact ⟨_, _, false, rfl, htz, Lib.hid (by rw [ht]; rfl), .inl ⟨isEmpty_nil ht, rfl, rfl⟩⟩
        | d :: q =>
          obtain ⟨g0, g1⟩ := get_first ht
          have hx := from_one ht
          have hxz := Nat.le_trans (size_from (s.extract 1 s.size) 1) htz
          by_cases h1 : d = 45
          · refine ⟨_, _, true, rfl, hxz, Lib.hid (by rw [hx, h1]; rfl), .inr (.inl ⟨isEmpty_cons ht, rfl, ⟨g0, ?_⟩, rfl⟩)⟩
            rw [g1, h1]; decide
          · by_cases h2 : d = 43
            · refine ⟨_, _, false, rfl, hxz, Lib.hid (by rw [hx, h2]; rfl), .inr (.inr (.inl ⟨isEmpty_cons ht, rfl, ⟨g0, ?_⟩, rfl⟩))⟩
              rw [g1, h2]; decide
            · refine ⟨_, _, false, rfl, htz, Lib.hid ?_, .inr (.inr (.inr ⟨isEmpty_cons ht, rfl, ⟨g0, by rw [g1]; exact ⟨(u8_not (d := 43) h2).1, (u8_not (d := 45) h1).1⟩⟩, rfl⟩))⟩
              rw [ht]
              unfold expoV
              split
              · rename_i h; exact absurd (List.cons.inj h).1 h1
              · rename_i h; exact absurd (List.cons.inj h).1 h2
              · rfl
      obtain ⟨x, t, neg, ht, hxz, hV, hcs⟩ := key
      have hw := Lib.hid (fun w => wholeR_any x w (by omega))
      have hlen : (Hid (digs1 10 x.toList = none) ∧ Hid (expD x.toList = none)) ∨ (∃ n, Hid (digs1 10 x.toList = some n) ∧ ((decide ((4 : Int) < (x.size : Int)) = true ∧ Hid (expD x.toList = none)) ∨ (decide ((4 : Int) < (x.size : Int)) = false ∧ Hid (expD x.toList = some n) ∧ n ≤ 9999))) := by
        cases hd : digs1 10 x.toList with
        | none => exact .inl ⟨Lib.hid rfl, Lib.hid (by unfold expD; rw [hd]; split <;> rfl)⟩
        | some n =>
          refine .inr ⟨n, Lib.hid rfl, ?_⟩
          by_cases h : 4 < x.size
          · exact .inl ⟨decide_eq_true (by omega), Lib.hid (by unfold expD; rw [size_toList, if_pos h])⟩
          · have he : expD x.toList = some n := by unfold expD; rw [size_toList, if_neg h]; exact hd
            exact .inr ⟨decide_eq_false (by omega), Lib.hid he, expD_bd he⟩
      replace hL := Lib.hid hL
      replace hce := Lib.hid hce
      rcases hlen with ⟨q1, q2⟩ | ⟨n, q1, ⟨q3, q2⟩ | ⟨q3, q2, hn⟩⟩
      · have hno : Hid (expR (c :: r) = none) := Lib.hid (by rw [hV.out, q2.out]; rfl)
        have hw2 : Hid (∀ w, Calls Tryd.prog 39 #[.string x] w fun e w' => e = .returned (.tuple #[.int .i64 0, .bool false]) ∧ w = w') := Lib.hid (fun w => by have := hw.out w; rw [q1.out] at this; exact this)
        clear hw
        rcases hq with hq | ⟨hq, hq2⟩ <;> rcases hcs with ⟨a1, rfl, rfl⟩ | ⟨a1, rfl, ⟨a2, a3, a4⟩, a5⟩ | ⟨a1, rfl, ⟨a2, a3, a4⟩, a5⟩ | ⟨a1, rfl, ⟨a2, a3, a4⟩, rfl⟩
        all_goals
          go_enter Tryd.func41, Tryd.ntmps41
          go_wp2_with (go_at_call 39; refine (hw2.out _).mono ?_; rintro e w' ⟨rfl, rfl⟩)
          go_ret2
          unfold RetZ
          rw [hno.out]
          exact ⟨rfl, rfl⟩
      · have hno : Hid (expR (c :: r) = none) := Lib.hid (by rw [hV.out, q2.out]; rfl)
        have hw2 : Hid (∀ w, Calls Tryd.prog 39 #[.string x] w fun e w' => e = .returned (.tuple #[.int .i64 ((min n maxI : Nat) : Int), .bool true]) ∧ w = w') := Lib.hid (fun w => by have := hw.out w; rw [q1.out] at this; exact this)
        clear hw
        generalize ((min n maxI : Nat) : Int) = mm at hw2
        rcases hq with hq | ⟨hq, hq2⟩ <;> rcases hcs with ⟨a1, rfl, rfl⟩ | ⟨a1, rfl, ⟨a2, a3, a4⟩, a5⟩ | ⟨a1, rfl, ⟨a2, a3, a4⟩, a5⟩ | ⟨a1, rfl, ⟨a2, a3, a4⟩, rfl⟩
        all_goals
          go_enter Tryd.func41, Tryd.ntmps41
          go_wp2_with (go_at_call 39; refine (hw2.out _).mono ?_; rintro e w' ⟨rfl, rfl⟩)
          go_ret2
          unfold RetZ
          rw [hno.out]
          exact ⟨rfl, rfl⟩
      · have hyes : Hid (expR (c :: r) = some (if neg then -(n : Int) else (n : Int))) := Lib.hid (by rw [hV.out, q2.out]; rfl)
        have hw2 : Hid (∀ w, Calls Tryd.prog 39 #[.string x] w fun e w' => e = .returned (.tuple #[.int .i64 (n : Int), .bool true]) ∧ w = w') := Lib.hid (fun w => by
          have := hw.out w
          rw [q1.out] at this
          refine this.mono fun e w' h => ?_
          unfold RetN at h
          rw [show (some n).getD 0 = n from rfl, show min n maxI = n by unfold maxI; omega] at h
          exact h)
        clear hw
        have m1 : IntKind.i64.wrap (-(n : Int)) = -(n : Int) := IntWalk.i64_in _ (by omega)
        have m2 : IntKind.i64.wrap (n : Int) = (n : Int) := IntWalk.i64_in _ (by omega)
        have m3 : IntKind.i64.wrap (-1 * (n : Int)) = -(n : Int) := by rw [Int.neg_mul, Int.one_mul]; exact m1
        rcases hq with hq | ⟨hq, hq2⟩ <;> rcases hcs with ⟨a1, rfl, rfl⟩ | ⟨a1, rfl, ⟨a2, a3, a4⟩, a5⟩ | ⟨a1, rfl, ⟨a2, a3, a4⟩, a5⟩ | ⟨a1, rfl, ⟨a2, a3, a4⟩, rfl⟩
        all_goals
          go_enter Tryd.func41, Tryd.ntmps41
          go_wp2_with (go_at_call 39; refine (hw2.out _).mono ?_; rintro e w' ⟨rfl, rfl⟩)
          go_ret2
          unfold RetZ
          rw [hyes.out]
          exact ⟨rfl, rfl⟩
    · have hno : Hid (expR (c :: r) = none) := Lib.hid (if_neg hce)
      have h1 := u8_not (d := 101) (fun h => hce (.inl h))
      have h2 := u8_not (d := 69) (fun h => hce (.inr h))
      replace h1 : ((c.toNat : Int) == 101) = false ∧ ((c.toNat : Int) != 101) = true := h1
      replace h2 : ((c.toNat : Int) == 69) = false ∧ ((c.toNat : Int) != 69) = true := h2
      obtain ⟨h1a, h1b⟩ := h1
      obtain ⟨h2a, h2b⟩ := h2
      replace hL := Lib.hid hL
      replace hce := Lib.hid hce
      go_enter Tryd.func41, Tryd.ntmps41
      go_wp2_with fail
      go_ret2
      unfold RetZ
      rw [hno.out]
      exact ⟨rfl, rfl⟩
end Go.Proofs.YtbejimncmfeggaaDoor
