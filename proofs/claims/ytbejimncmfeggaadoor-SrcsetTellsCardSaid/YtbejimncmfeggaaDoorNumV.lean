/- How the document reads a float: the same (no program in sight); the contracts of the reference's digits and exponent. -/
import Derived.Test.YtbejimncmfeggaaDoorNumQ
namespace Go.Proofs.YtbejimncmfeggaaDoor
open Go.RowKit
set_option linter.unusedVariables false

/-- The digits that stand first, and the rest. -/
def span10 : List UInt8 → List UInt8 × List UInt8
  | [] => ([], [])
  | c :: r => if dig c then (c :: (span10 r).1, (span10 r).2) else ([], c :: r)
theorem span10_all (l : List UInt8) : l = (span10 l).1 ++ (span10 l).2 := by
  induction l with
  | nil => rfl
  | cons c r ih =>
    rw [span10]
    split
    · show c :: r = c :: ((span10 r).1 ++ (span10 r).2); rw [← ih]
    · rfl
theorem span10_dig (l : List UInt8) : ∀ c ∈ (span10 l).1, dig c = true := by
  induction l with
  | nil => intro c hc; cases hc
  | cons d r ih =>
    rw [span10]
    split
    · rename_i hd
      intro c hc
      rcases List.mem_cons.1 hc with rfl | hc
      · exact hd
      · exact ih c hc
    · intro c hc; cases hc
theorem span10_rest (l : List UInt8) : (span10 l).2 = [] ∨ ∃ c r, (span10 l).2 = c :: r ∧ dig c = false := by
  induction l with
  | nil => exact .inl rfl
  | cons d r ih =>
    rw [span10]
    split
    · exact ih
    · rename_i hd; exact .inr ⟨d, r, rfl, by simpa using hd⟩
/-- What stands behind the digits. -/
def expR : List UInt8 → Option Int
  | [] => some 0
  | c :: r => if c = 101 ∨ c = 69 then expoV r else none
def finR (all : List UInt8) (f : Nat) (r : List UInt8) : Option (Nat × Int) :=
  match digs1 10 all with
  | none => none
  | some m => match expR r with
    | none => none
    | some e => if 15 < all.length ∨ e - f < -22 ∨ 22 < e - f then none else some (m, e - f)
def refQ (l : List UInt8) : Option (Nat × Int) :=
  match (span10 l).2 with
  | [] => finR (span10 l).1 0 []
  | c :: r => if c = 46 then (if (span10 r).1 = [] then none else finR ((span10 l).1 ++ (span10 r).1) (span10 r).1.length (span10 r).2)
    else finR (span10 l).1 0 (c :: r)
theorem digs1_bad {l : List UInt8} {c : UInt8} (hc : c ∈ l) (hd : dig c = false) : digs1 10 l = none := by
  cases h : digs1 10 l with
  | none => rfl
  | some n => have := (digs1_dig h).2 c hc; rw [hd] at this; cases this
theorem dig_ne {c : UInt8} (h : dig c = true) : c ≠ 101 ∧ c ≠ 69 ∧ c ≠ 46 := by
  refine ⟨?_, ?_, ?_⟩ <;> (rintro rfl; revert h; decide)
theorem cutC_dig {a b : List UInt8} (h : ∀ c ∈ a, dig c = true) : cutC 46 (a ++ b) = (a ++ (cutC 46 b).1, (cutC 46 b).2.1, (cutC 46 b).2.2) := by
  induction a with
  | nil => rfl
  | cons c r ih =>
    rw [List.cons_append, cutC, if_neg (dig_ne (h c (List.mem_cons_self ..))).2.2, ih (fun x hx => h x (List.mem_cons_of_mem _ hx))]
    rfl
theorem tail_fin {A w p : List UInt8} {pt : Bool} (hc : cutC 46 A = (w, p, pt)) (hp : pt = true → p ≠ []) (m : Int) :
    tailQ A m = match digs1 10 (w ++ p) with
      | none => none
      | some n => if 15 < (w ++ p).length ∨ m - p.length < -22 ∨ 22 < m - p.length then none else some (n, m - p.length) := by
  unfold tailQ
  rw [hc]
  dsimp only
  rw [List.length_append]
  by_cases h15 : 15 < w.length + p.length
  · rw [if_pos (.inr h15)]
    cases digs1 10 (w ++ p) with
    | none => rfl
    | some n => dsimp only; rw [if_pos (.inl h15)]
  · rw [if_neg (by rintro (h | h); exact hp h.1 h.2; exact h15 h)]
    cases digs1 10 (w ++ p) with
    | none => rfl
    | some n =>
      dsimp only
      by_cases hk : m - (p.length : Int) < -22 ∨ 22 < m - (p.length : Int)
      · rw [if_pos hk, if_pos (.inr hk)]
      · rw [if_neg hk, if_neg (by rintro (h | h); exact h15 h; exact hk h)]
/-- Digits, perhaps a point and digits, and what an exponent may be. -/
theorem fin_form {A w p r : List UInt8} {pt : Bool} (hne : ∀ c ∈ A, c ≠ 101 ∧ c ≠ 69) (hc : cutC 46 A = (w, p, pt)) (hp : pt = true → p ≠ []) (hr : r = [] ∨ ∃ c q, r = c :: q ∧ (c = 101 ∨ c = 69)) :
    floatQ (A ++ r) = finR (w ++ p) p.length r := by
  unfold finR
  rcases hr with rfl | ⟨c, q, rfl, hcc⟩
  · have h := cutE_behind (m := []) hne
    rw [List.append_nil] at h ⊢
    rw [floatQ_none (by rw [h]; simp [cutE]), tail_fin hc hp]
    rfl
  · have h := cutE_behind (m := c :: q) hne
    rw [cutE, if_pos hcc] at h
    rw [List.append_nil] at h
    rw [show expR (c :: q) = expoV q from if_pos hcc]
    cases he : expoV q with
    | none =>
      rw [floatQ_bad h he]
      cases digs1 10 (w ++ p) <;> rfl
    | some m =>
      rw [floatQ_some h he, tail_fin hc hp]
theorem finR_bad {all : List UInt8} {f : Nat} {c : UInt8} {r : List UInt8} (h : ¬ (c = 101 ∨ c = 69)) : finR all f (c :: r) = none := by
  unfold finR
  rw [show expR (c :: r) = none from if_neg h]
  cases digs1 10 all <;> rfl
theorem refQ_eq (l : List UInt8) : refQ l = floatQ l := by
  have hall := span10_all l
  have hd := span10_dig l
  have hrest := span10_rest l
  generalize ha : (span10 l).1 = a at hall hd
  unfold refQ
  rw [ha]
  have hane : ∀ c ∈ a, c ≠ 101 ∧ c ≠ 69 := fun c hc => ⟨(dig_ne (hd c hc)).1, (dig_ne (hd c hc)).2.1⟩
  have hac : cutC 46 a = (a, [], false) := by have := cutC_dig (b := []) hd; simpa [cutC] using this
  rcases hrest with hr | ⟨c, r, hr, hcd⟩
  · rw [hr] at hall ⊢
    dsimp only
    have := fin_form (r := []) hane hac (fun h => by cases h) (.inl rfl)
    rw [hall, this, List.append_nil]
    rfl
  · rw [hr] at hall ⊢
    dsimp only
    by_cases h46 : c = 46
    · rw [if_pos h46]
      subst h46
      have rall := span10_all r
      have rd := span10_dig r
      have rrest := span10_rest r
      generalize hf : (span10 r).1 = f at rall rd
      generalize hq : (span10 r).2 = q at rall rrest
      by_cases hfe : f = []
      · rw [if_pos hfe]
        subst hfe
        have rall : r = q := rall
        subst rall
        cases hx : floatQ l with
        | none => rfl
        | some x =>
          have hi := floatQ_inv hx
          have hcut : cutE l = (a ++ 46 :: (cutE r).1, (cutE r).2) := by
            rw [hall, cutE_behind hane, cutE, if_neg (by decide)]
          have hcc : cutC 46 (a ++ 46 :: (cutE r).1) = (a, (cutE r).1, true) := by
            rw [cutC_dig hd, cutC, if_pos rfl]; simp
          have hpt := hi.pt
          have hdg := hi.dg
          rw [hcut] at hpt hdg
          dsimp only at hpt hdg
          rw [hcc] at hpt hdg
          dsimp only at hpt hdg
          exfalso
          rcases rrest with rfl | ⟨d, r3, rfl, hdd⟩
          · exact hpt ⟨rfl, rfl⟩
          · rw [cutE] at hpt hdg
            by_cases hde : d = 101 ∨ d = 69
            · rw [if_pos hde] at hpt; exact hpt ⟨rfl, rfl⟩
            · rw [if_neg hde] at hdg
              have := hdg d (List.mem_append_right _ (List.mem_cons_self ..))
              rw [hdd] at this; cases this
      · rw [if_neg hfe]
        have hAne : ∀ c ∈ a ++ 46 :: f, c ≠ 101 ∧ c ≠ 69 := by
          intro c hc
          rcases List.mem_append.1 hc with h | h
          · exact hane c h
          · rcases List.mem_cons.1 h with rfl | h
            · decide
            · exact ⟨(dig_ne (rd c h)).1, (dig_ne (rd c h)).2.1⟩
        have hAc : cutC 46 (a ++ 46 :: f) = (a, f, true) := by
          rw [cutC_dig hd, cutC, if_pos rfl]; simp
        have hl : l = (a ++ 46 :: f) ++ q := by rw [hall, rall]; simp
        rcases rrest with rfl | ⟨d, r3, rfl, hdd⟩
        · rw [hl, fin_form hAne hAc (fun _ => hfe) (.inl rfl)]
        · by_cases hde : d = 101 ∨ d = 69
          · rw [hl, fin_form hAne hAc (fun _ => hfe) (.inr ⟨d, r3, rfl, hde⟩)]
          · rw [finR_bad hde]
            cases hx : floatQ l with
            | none => rfl
            | some x =>
              exfalso
              have hdg := (floatQ_inv hx).dg
              have hcut : (cutE l).1 = (a ++ 46 :: f) ++ d :: (cutE r3).1 := by
                rw [hl, cutE_behind hAne, cutE, if_neg hde]
              rw [hcut] at hdg
              have hcc : cutC 46 (a ++ 46 :: f ++ d :: (cutE r3).1) = (a, f ++ d :: (cutE r3).1, true) := by
                rw [List.append_assoc, cutC_dig hd]
                show (a ++ (cutC 46 (46 :: (f ++ d :: (cutE r3).1))).1, _, _) = _
                rw [List.cons_append, cutC, if_pos rfl]; simp
              rw [hcc] at hdg
              have := hdg d (by simp)
              rw [hdd] at this; cases this
    · rw [if_neg h46]
      by_cases hce : c = 101 ∨ c = 69
      · rw [hall, fin_form hane hac (fun h => by cases h) (.inr ⟨c, r, rfl, hce⟩), List.append_nil]
        rfl
      · rw [finR_bad hce]
        cases hx : floatQ l with
        | none => rfl
        | some x =>
          exfalso
          have hdg := (floatQ_inv hx).dg
          have hcut : (cutE l).1 = a ++ c :: (cutE r).1 := by
            rw [hall, cutE_behind hane, cutE, if_neg hce]
          rw [hcut, cutC_dig hd, cutC, if_neg h46] at hdg
          have := hdg c (by simp)
          rw [hcd] at this; cases this
set_option maxRecDepth 100000 in
set_option maxHeartbeats 1000000 in
theorem refDigits_any (s : ByteArray) (w : World) (hs : s.size ≤ 140737488355328) :
    Calls Tryd.prog 40 #[.string s] w fun e w' => e = .returned (.int .i64 ((span10 s.toList).1.length : Int)) ∧ w = w' := by
  go_enter Tryd.func40, Tryd.ntmps40
  go_wp2_with fail
  go_loop [3] (fun iv => ∃ k : Nat, iv = .int .i64 k ∧ k ≤ s.size ∧ Hid ((span10 s.toList).1.length = k + (span10 (s.toList.drop k)).1.length)) (fun iv => s.size - (intOf iv).toNat)
  case atStart => exact ⟨0, rfl, Nat.zero_le _, Lib.hid (by rw [List.drop_zero, Nat.zero_add])⟩
  case round =>
    obtain ⟨k, rfl, hk, hg⟩ := hrel
    by_cases hlt : k < s.size
    · have hdr := drop_cons s k hlt
      have hltI : (k : Int) < (s.size : Int) := by omega
      rw [hdr, span10] at hg
      clear hdr
      by_cases hd : digitZ (s[k].toNat : Int) 10 < 0
      · have hdf : dig s[k] = false := (digitZ_dig _).1 hd
        rw [hdf] at hg
        have hfin : Hid ((span10 s.toList).1.length = k) := Lib.hid hg.out
        clear hg
        replace hdf := Lib.hid hdf
        go_wp2_with (go_at_call 54; refine (digitr_any _ _ _ (byte_nn _) (byte_le _)).mono ?_; rintro e w' ⟨rfl, rfl⟩)
        go_ret
        exact ⟨by rw [hfin.out]; rfl, rfl⟩
      · have hdt : dig s[k] = true := by
          cases h : dig s[k]
          · exact absurd ((digitZ_dig _).2 h) hd
          · rfl
        rw [hdt] at hg
        have hnew : Hid ((span10 s.toList).1.length = (k + 1) + (span10 (s.toList.drop (k + 1))).1.length) := Lib.hid (by have := hg.out; simp only [if_true, List.length_cons] at this; omega)
        clear hg
        replace hdt := Lib.hid hdt
        have hd0 : 0 ≤ digitZ (s[k].toNat : Int) 10 := by omega
        go_wp2_with (go_at_call 54; refine (digitr_any _ _ _ (byte_nn _) (byte_le _)).mono ?_; rintro e w' ⟨rfl, rfl⟩)
        go_round
        case rel => exact ⟨k + 1, by go_num, by omega, hnew⟩
        case measure => simp [intOf]; omega
    · have hge : (s.size : Int) ≤ (k : Int) := by omega
      have hfin : Hid ((span10 s.toList).1.length = k) := Lib.hid (by have := hg.out; rw [drop_end s k (by omega)] at this; exact this)
      clear hg
      go_wp2_with fail
      go_ret
      exact ⟨by rw [hfin.out]; rfl, rfl⟩
end Go.Proofs.YtbejimncmfeggaaDoor
