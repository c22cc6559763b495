/- The walk of the law PartsJoin. -/
import Derived.Test.YtlohhmckeanegaaSmall14
import Derived.Test.YtlohhmckeanegaaTrimPlain
import Derived.Deep.RegionHeld3
import Derived.Deep.Cut
import Derived.Deep.CutRange
namespace Go.Proofs.Ytlohhmckeanegaa
open Go.RowKit
set_option linter.unusedVariables false

def optL (b : Bool) (l : List UInt8) : List UInt8 := if b then l else []
/-- What stands behind the scheme. -/
def PartsL.tail (p : PartsL) : List UInt8 := p.rest ++ optL p.hq (63 :: p.qry) ++ optL p.hf (35 :: p.frg)
theorem lowerL_length (l : List UInt8) : (lowerL l).length = l.length := by simp [lowerL]
theorem splitL_facts (l : List UInt8) : (∃ x, lowerL x = (splitL l).sch ∧ l = x ++ (optL (splitL l).hs [58] ++ (splitL l).tail)) ∧
    ((splitL l).hs = false → (splitL l).sch = []) ∧ ((splitL l).hs = true → (splitL l).sch ≠ []) ∧ ((splitL l).hq = false → (splitL l).qry = []) ∧ ((splitL l).hf = false → (splitL l).frg = []) ∧
    (∀ d ∈ (splitL l).rest, d ≠ 63 ∧ d ≠ 35) ∧ (∀ d ∈ (splitL l).qry, d ≠ 35) := by
  have f1 := cutC_all 35 l
  have f2 := cutC_none 35 l
  have f3 := cutC_ahead 35 l
  unfold splitL
  dsimp only
  generalize cutC 35 l = f at *
  obtain ⟨f, fr, fb⟩ := f
  dsimp only at *
  have q1 := cutC_all 63 f
  have q2 := cutC_none 63 f
  have q3 := cutC_ahead 63 f
  generalize cutC 63 f = q at *
  obtain ⟨q, qr, qb⟩ := q
  dsimp only at *
  have s1 := cutC_all 58 q
  have s2 := cutC_none 58 q
  generalize cutC 58 q = s at *
  obtain ⟨s, sr, sb⟩ := s
  dsimp only at *
  have hq0 : qb = false → qr = [] := fun h => (q2 h).2
  have hf0 : fb = false → fr = [] := fun h => (f2 h).2
  have hqf : ∀ d ∈ q, d ≠ 63 ∧ d ≠ 35 := fun d hd => ⟨q3 d hd, f3 d (by rw [q1]; simp [hd])⟩
  have hqr : ∀ d ∈ qr, d ≠ 35 := by
    intro d hd
    cases hb : qb
    · rw [hq0 hb] at hd; cases hd
    · exact f3 d (by rw [q1, hb]; simp [hd])
  cases hsb : (sb && schemeB s)
  · have e : ∀ A B : PartsL, (if false = true then A else B) = B := fun A B => rfl
    rw [e]
    refine ⟨⟨[], rfl, ?_⟩, fun _ => rfl, fun h => (Bool.noConfusion h), hq0, hf0, hqf, hqr⟩
    simp only [PartsL.tail, optL, Bool.false_eq_true, if_false, List.nil_append]
    rw [← q1, ← f1]
  · have e : ∀ A B : PartsL, (if true = true then A else B) = A := fun A B => rfl
    rw [e]
    have h1 : sb = true := by revert hsb; cases sb <;> simp
    have h2 : schemeB s = true := by revert hsb; cases sb <;> simp
    have hne : s ≠ [] := by intro e; rw [e] at h2; cases h2
    refine ⟨⟨s, rfl, ?_⟩, fun h => (Bool.noConfusion h), fun _ e => hne (by simpa [lowerL] using e), hq0, hf0, fun d hd => hqf d (by rw [s1, h1]; simp [hd]), hqr⟩
    simp only [PartsL.tail, optL, if_true]
    rw [h1] at s1
    simp only [if_true] at s1
    have e : s ++ ([58] ++ (sr ++ (if qb = true then 63 :: qr else []) ++ (if fb = true then 35 :: fr else []))) = (s ++ 58 :: sr) ++ (if qb = true then 63 :: qr else []) ++ (if fb = true then 35 :: fr else []) := by simp
    rw [e, ← s1, ← q1, ← f1]

set_option maxRecDepth 100000 in
set_option maxHeartbeats 2000000 in
theorem partsJoin_walk (s : ByteArray) (w : World) (ws : s.size ≤ maxLen) (hm : ML w) :
    Calls Try.prog 4 #[.string s] w (RetB w true) := by
  have hB : Below w.heap.size w w := Below.refl _ _
  unfold maxLen at ws
  by_cases hs : 500 < s.size
  · have z : (500 : Int) < (s.size : Int) := by omega
    go_enter Try.func4, Try.ntmps4
    go_wp2_with (go_at_call 7; refine (small14_any _ hm).mono ?_; rintro e w' ⟨rfl, hb⟩)
    go_ret
    exact ⟨rfl, by assumption⟩
  have z : (s.size : Int) ≤ (500 : Int) := by omega
  go_enter Try.func4, Try.ntmps4
  go_wp2_with fail
  refine (small14_any _ hm).mono ?_
  rintro e w1 ⟨rfl, hb⟩
  replace hB := hB.next hb
  clear hb
  go_wp2_with fail
  refine (split_any s _ (hm.next hB) (by omega)).mono ?_
  rintro e w4 ⟨a, b, c, d, rfl, ha, hbb, hc, hd, hb⟩
  replace hB := hB.next hb
  clear hb
  have hfacts := splitL_facts s.toList
  generalize splitL s.toList = p at *
  obtain ⟨hsb, sch, rest, hqb, qry, hfb, frg⟩ := p
  dsimp only [PartsL.tail] at *
  obtain ⟨⟨x, hx1, hx2⟩, hs0, hs1, hq0, hf0, hr1, hr2⟩ := hfacts
  have ea := ha.out; have eb := hbb.out; have ec := hc.out; have ed := hd.out
  subst ea eb ec ed
  replace hx1 := Lib.hid hx1
  replace hx2 := Lib.hid hx2
  replace hs0 := Lib.hid hs0
  replace hs1 := Lib.hid hs1
  replace hq0 := Lib.hid hq0
  replace hf0 := Lib.hid hf0
  replace hr1 := Lib.hid hr1
  replace hr2 := Lib.hid hr2
  clear ha hbb hc hd
  have hlen := congrArg List.length hx2.out
  have hxl := congrArg List.length hx1.out
  simp only [List.length_append, size_toList, lowerL_length] at hlen hxl
  have l1 : a.size + b.size ≤ 500 := by omega
  have l2 : c.size ≤ 500 := by
    cases hqb
    · have := (toList_empty_iff c).1 (hq0.out rfl); omega
    · simp [optL, size_toList] at hlen; omega
  have l3 : d.size ≤ 500 := by
    cases hfb
    · have := (toList_empty_iff d).1 (hf0.out rfl); omega
    · simp [optL, size_toList] at hlen; omega
  replace hlen := Lib.hid hlen
  replace hxl := Lib.hid hxl
  go_upto_if 19 with (fail)
  go_cut [5, 6] (fun s5 s6 wx => ∃ y : ByteArray, s5 = .string y ∧ s6 = .int .i64 (a.size : Int) ∧ y.size ≤ 501 ∧ Hid (y.toList = a.toList ++ optL hsb [58] ++ b.toList) ∧
    wx = w4.alloc (.cells #[.bool hsb, .string a, .string b, .bool hqb, .string c, .bool hfb, .string d] 25))
  case first =>
    cases hsb
    · have ha0 := hs0.out rfl
      have ha1 : a.size = 0 := (toList_empty_iff a).1 ha0
      replace ha0 := Lib.hid ha0
      replace ha1 := Lib.hid ha1
      go_wp2_with fail
      go_meet
      exact ⟨b, rfl, by rw [ha1.out]; rfl, by omega, Lib.hid (by rw [ha0.out]; rfl), rfl⟩
    · go_wp2_with fail
      go_meet
      refine ⟨_, rfl, rfl, ?_, Lib.hid (by rw [toList_append, toList_append, show (ByteArray.mk #[58]).toList = [58] from toList_mk _]; rfl), rfl⟩
      simp only [ByteArray.size_append]
      have : (ByteArray.mk #[58]).size = 1 := rfl
      omega
  case rest =>
    obtain ⟨y, rfl, rfl, hy, hyl, rfl⟩ := hcut
    go_upto_if 29 with (fail)
    go_cut [5] (fun s5 wx => ∃ y2 : ByteArray, s5 = .string y2 ∧ y2.size ≤ 1002 ∧ Hid (y2.toList = y.toList ++ optL hqb (63 :: c.toList)) ∧
      wx = w4.alloc (.cells #[.bool hsb, .string a, .string b, .bool hqb, .string c, .bool hfb, .string d] 25))
    case first =>
      cases hqb
      · go_wp2_with fail
        go_meet
        exact ⟨y, rfl, by omega, Lib.hid (by simp [optL]), rfl⟩
      · go_wp2_with fail
        go_meet
        refine ⟨_, rfl, ?_, Lib.hid (by rw [toList_append, toList_append, show (ByteArray.mk #[63]).toList = [63] from toList_mk _]; simp [optL]), rfl⟩
        simp only [ByteArray.size_append]
        have : (ByteArray.mk #[63]).size = 1 := rfl
        omega
    case rest =>
      obtain ⟨y2, rfl, hy2, hyl2, rfl⟩ := hcut
      go_upto_if 36 with (fail)
      go_cut [5] (fun s5 wx => ∃ y3 : ByteArray, s5 = .string y3 ∧ y3.size ≤ 1503 ∧ Hid (y3.toList = y2.toList ++ optL hfb (35 :: d.toList)) ∧
        wx = w4.alloc (.cells #[.bool hsb, .string a, .string b, .bool hqb, .string c, .bool hfb, .string d] 25))
      case first =>
        cases hfb
        · go_wp2_with fail
          go_meet
          exact ⟨y2, rfl, by omega, Lib.hid (by simp [optL]), rfl⟩
        · go_wp2_with fail
          go_meet
          refine ⟨_, rfl, ?_, Lib.hid (by rw [toList_append, toList_append, show (ByteArray.mk #[35]).toList = [35] from toList_mk _]; simp [optL]), rfl⟩
          simp only [ByteArray.size_append]
          have : (ByteArray.mk #[35]).size = 1 := rfl
          omega
      case rest =>
        obtain ⟨y3, rfl, hy3, hyl3, rfl⟩ := hcut
        have hall : y3.toList = a.toList ++ (optL hsb [58] ++ (b.toList ++ optL hqb (63 :: c.toList) ++ optL hfb (35 :: d.toList))) := by
          rw [hyl3.out, hyl2.out, hyl.out]; simp
        have hsz3 : y3.size = s.size := by
          have h1 := congrArg List.length hall
          have h2 := congrArg List.length hx2.out
          have h3 := hxl.out
          rw [List.length_append, size_toList] at h1 h2
          rw [size_toList] at h1
          omega
        have hnx : (x.length : Nat) = a.size := hxl.out
        have hn1 : a.size ≤ s.size := by
          have h2 := congrArg List.length hx2.out
          rw [List.length_append, size_toList] at h2; omega
        have hd1 : (s.extract a.size s.size).toList = (y3.extract a.size y3.size).toList := by
          rw [toList_extract, toList_extract, take_all _ _ (Nat.le_refl _), take_all _ _ (Nat.le_refl _), hall]
          conv => lhs; rw [hx2.out, ← hnx]
          conv => rhs; rw [← size_toList]
          rw [List.drop_left, List.drop_left]
        have hd2 : Hid ((s.extract 0 a.size).toList = x) := Lib.hid (by
          rw [toList_extract, List.drop_zero, hx2.out, ← hnx, List.take_left])
        have hsz3' := Lib.hid hsz3
        have hnx' := Lib.hid hnx
        have b1 : ((y3.size : Int) != (s.size : Int)) = false := by rw [hsz3]; simp
        have b2 : (a.size : Int) ≤ (s.size : Int) := by omega
        have b5 : decide (s.size < a.size) = false := decide_eq_false (by omega)
        have b6 : decide ((s.size : Int) < (a.size : Int)) = false := decide_eq_false (by omega)
        have b7 : ((s.extract a.size s.size).toList != (y3.extract a.size y3.size).toList) = false := by rw [hd1]; simp
        have b3 : (a.size : Int) ≤ (y3.size : Int) := by omega
        have b4 : (s.extract 0 a.size).size ≤ 1099511627776 := by rw [← size_toList, toList_extract, List.drop_zero, List.length_take, size_toList]; omega
        clear hall hsz3 hnx
        go_upto_region 14 with fail
        go_cut [70] (fun s70 wx => s70 = .bool false ∧ ∃ E dd, wx = extW (w4.alloc (.cells #[.bool hsb, .string a, .string b, .bool hqb, .string c, .bool hfb, .string d] 25)) E dd)
        case first =>
          go_region_held3 (fun w' => w'.cell? ⟨w4.heap.size, 1, none⟩ = some (.string a)) (first | go_keep | (simp [go_sem]))
            (first | (go_at_call 12; refine (lower_any _ _ b4).mono ?_; rintro e w5 ⟨t, rfl, ht, hb⟩; have hq := ht.out.trans ((congrArg lowerL hd2.out).trans hx1.out); clear ht; obtain ⟨E, d5, rfl⟩ := hb.ext; clear hb))
          go_wp2_with fail
          go_meet
          exact ⟨rfl, _, _, rfl⟩
        case rest =>
          obtain ⟨rfl, E, dd, rfl⟩ := hcut
          clear hd1 hd2 b1 b2 b3 b4 b5 b6 b7 hsz3' hnx' hyl hyl2 hyl3 hlen hxl
          have hqe : (hqb = true) ∨ (hqb = false ∧ c.toList.isEmpty = true) := by
            cases hqb
            · exact .inr ⟨rfl, by rw [hq0.out rfl]; rfl⟩
            · exact .inl rfl
          have hfe : (hfb = true) ∨ (hfb = false ∧ d.toList.isEmpty = true) := by
            cases hfb
            · exact .inr ⟨rfl, by rw [hf0.out rfl]; rfl⟩
            · exact .inl rfl
          have hse : (hsb = true ∧ a.toList.isEmpty = false) ∨ (hsb = false ∧ a.toList.isEmpty = true) := by
            cases hsb
            · exact .inr ⟨rfl, by rw [hs0.out rfl]; rfl⟩
            · exact .inl ⟨rfl, by have := hs1.out rfl; cases h : a.toList with | nil => exact absurd h this | cons => rfl⟩
          replace hqe := Lib.hid hqe
          replace hfe := Lib.hid hfe
          replace hse := Lib.hid hse
          go_wp2_with fail
          go_loop [7] (fun v => ∃ j : Nat, v = .int .i64 j ∧ j ≤ b.size) (fun v => b.size - (intOf v).toNat)
          case atStart => exact ⟨0, rfl, Nat.zero_le _⟩
          case round =>
            obtain ⟨j, rfl, hj⟩ := hrel
            by_cases hlt : j < b.size
            · have hne := hr1.out b[j] (by rw [← toList_get b j hlt]; exact List.getElem_mem _)
              have h63 : ((b[j].toNat : Int) == 63) = false := beq_eq_false_iff_ne.2 (fun e => hne.1 (UInt8.toNat_inj.1 (by simp; omega)))
              have h35 : ((b[j].toNat : Int) == 35) = false := beq_eq_false_iff_ne.2 (fun e => hne.2 (UInt8.toNat_inj.1 (by simp; omega)))
              have hlt2 : (j : Int) < (b.size : Int) := by omega
              clear hne
              go_wp2_with fail
              go_round
              case rel => exact ⟨j + 1, by go_num, by omega⟩
              case measure => simp [intOf]; omega
            · have hge : (b.size : Int) ≤ (j : Int) := by omega
              go_wp2_with fail
              go_loop [8] (fun v => ∃ j : Nat, v = .int .i64 j ∧ j ≤ c.size) (fun v => c.size - (intOf v).toNat)
              case atStart => exact ⟨0, rfl, Nat.zero_le _⟩
              case round =>
                obtain ⟨i, rfl, hi⟩ := hrel
                by_cases hlt : i < c.size
                · have hne := hr2.out c[i] (by rw [← toList_get c i hlt]; exact List.getElem_mem _)
                  have h35 : ((c[i].toNat : Int) == 35) = false := beq_eq_false_iff_ne.2 (fun e => hne (UInt8.toNat_inj.1 (by simp; omega)))
                  have hlt2 : (i : Int) < (c.size : Int) := by omega
                  clear hne
                  go_wp2_with fail
                  go_round
                  case rel => exact ⟨i + 1, by go_num, by omega⟩
                  case measure => simp [intOf]; omega
                · have hige : (c.size : Int) ≤ (i : Int) := by omega
                  have hBf : Below w.heap.size w (extW (w4.alloc (.cells #[.bool hsb, .string a, .string b, .bool hqb, .string c, .bool hfb, .string d] 25)) E dd) :=
                    (hB.alloc hB.size _).toExt (by have := hB.size; simp; omega) _ _
                  clear hr1 hr2 hs0 hs1 hq0 hf0 hx1 hx2
                  rcases hqe.out with rfl | ⟨rfl, e1⟩ <;> rcases hfe.out with rfl | ⟨rfl, e2⟩ <;> rcases hse.out with ⟨rfl, e3⟩ | ⟨rfl, e3⟩
                  all_goals
                    clear hqe hfe hse
                    go_wp2_with fail
                    go_ret
                    exact ⟨rfl, hBf⟩
end Go.Proofs.Ytlohhmckeanegaa
