/- The contracts of package parts. -/
import Derived.Test.YtlohhmckeanegaaTrim
import Derived.Test.YtlohhmckeanegaaCut
namespace Go.Proofs.Ytlohhmckeanegaa
open Go.RowKit
set_option linter.unusedVariables false

def nameZ (c : UInt8) : Bool := letterZ (c.toNat : Int) || decide (0 ≤ digitZ (c.toNat : Int) 10) || c.toNat == 43 || c.toNat == 45 || c.toNat == 46
def schemeB : List UInt8 → Bool
  | [] => false
  | c :: r => letterZ (c.toNat : Int) && r.all nameZ
theorem schemeB_eq (s : ByteArray) (h : 0 < s.size) : schemeB s.toList = (letterZ (s[0].toNat : Int) && (s.toList.drop 1).all nameZ) := by
  have := drop_cons s 0 h
  rw [List.drop_zero] at this
  rw [this]; rfl
/-- How a byte comes to be one of a name, in the code's order. -/
theorem name_ways (c : UInt8) : (letterZ (c.toNat : Int) = true ∧ nameZ c = true) ∨ (letterZ (c.toNat : Int) = false ∧
    ((0 ≤ digitZ (c.toNat : Int) 10 ∧ nameZ c = true) ∨ (digitZ (c.toNat : Int) 10 < 0 ∧
      ((((c.toNat : Int) != 43) = false ∧ nameZ c = true) ∨ (((c.toNat : Int) != 43) = true ∧
        ((((c.toNat : Int) != 45) = false ∧ nameZ c = true) ∨ (((c.toNat : Int) != 45) = true ∧
          ((((c.toNat : Int) != 46) = false ∧ nameZ c = true) ∨ (((c.toNat : Int) != 46) = true ∧ nameZ c = false))))))))) := by
  unfold nameZ
  cases letterZ (c.toNat : Int)
  · refine .inr ⟨rfl, ?_⟩
    by_cases hd : 0 ≤ digitZ (c.toNat : Int) 10
    · exact .inl ⟨hd, by simp [hd]⟩
    · refine .inr ⟨by omega, ?_⟩
      by_cases h1 : c.toNat = 43
      · exact .inl (by simp [h1])
      refine .inr ⟨by simp; omega, ?_⟩
      by_cases h2 : c.toNat = 45
      · exact .inl (by simp [h2])
      refine .inr ⟨by simp; omega, ?_⟩
      by_cases h3 : c.toNat = 46
      · exact .inl (by simp [h3])
      exact .inr ⟨by simp; omega, by simp [hd, h1, h2, h3]⟩
  · exact .inl ⟨rfl, rfl⟩

set_option maxHeartbeats 1000000 in
theorem named_any (s : ByteArray) (w : World) (hs : s.size ≤ 1099511627776) :
    Calls Try.prog 19 #[.string s] w fun e w' => e = .returned (.bool (schemeB s.toList)) ∧ w = w' := by
  by_cases h0 : 0 < s.size
  · have hne : s.toList.isEmpty = false := by rw [extract1 s h0]; rfl
    have hd := Lib.hid (schemeB_eq s h0)
    have b0 := byte_nn s[0]
    have b1 := byte_le s[0]
    cases hl : letterZ (s[0].toNat : Int)
    · go_enter Try.func19, Try.ntmps19
      go_wp2_with (go_at_call 13; refine (letter_any _ _).mono ?_; rintro e w' ⟨rfl, rfl⟩)
      go_ret
      exact ⟨ret_bool (by rw [hd.out, hl]; rfl), rfl⟩
    · go_enter Try.func19, Try.ntmps19
      go_wp2_with (go_at_call 13; refine (letter_any _ _).mono ?_; rintro e w' ⟨rfl, rfl⟩)
      go_loop [3] (fun i => ∃ k : Nat, i = .int .i64 k ∧ 1 ≤ k ∧ k ≤ s.size ∧ Hid ((s.toList.drop k).all nameZ = (s.toList.drop 1).all nameZ)) (fun i => s.size - (intOf i).toNat)
      case atStart => exact ⟨1, rfl, Nat.le_refl _, h0, rfl⟩
      case round =>
        obtain ⟨k, rfl, hk1, hk, hr⟩ := hrel
        by_cases hlt : k < s.size
        · have c0 := byte_nn s[k]
          have c1 := byte_le s[k]
          have hdc := Lib.hid (drop_cons s k hlt)
          have hlt2 : (k : Int) < (s.size : Int) := by omega
          rcases name_ways s[k] with ⟨x1, x2⟩ | ⟨x1, ⟨x3, x2⟩ | ⟨x3, ⟨x4, x2⟩ | ⟨x4, ⟨x5, x2⟩ | ⟨x5, ⟨x6, x2⟩ | ⟨x6, x2⟩⟩⟩⟩⟩
          all_goals
            have hq := Lib.hid x2
            clear x2
            go_wp2_with (first
              | (go_at_call 13; refine (letter_any _ _).mono ?_; rintro e w' ⟨rfl, rfl⟩)
              | (go_at_call 26; refine (digit_any _ _ _ c0 c1).mono ?_; rintro e w' ⟨rfl, rfl⟩))
            first
              | (go_ret; exact ⟨ret_bool (by rw [hd.out, ← hr.out, hdc.out, List.all_cons, hq.out]; simp), rfl⟩)
              | (go_round
                 case rel => exact ⟨k + 1, by go_num, by omega, by omega, Lib.hid (by rw [← hr.out, hdc.out, List.all_cons, hq.out]; simp)⟩
                 case measure => simp [intOf]; omega)
        · have hdc := Lib.hid (drop_end s k (by omega))
          go_wp2_with fail
          go_ret
          exact ⟨ret_bool (by rw [hd.out, ← hr.out, hdc.out, hl]; rfl), rfl⟩
  · have hne : s.toList.isEmpty = true := by rw [(toList_empty_iff s).2 (by omega)]; rfl
    have hd : Hid (schemeB s.toList = false) := Lib.hid (by rw [(toList_empty_iff s).2 (by omega)]; rfl)
    go_enter Try.func19, Try.ntmps19
    go_wp2_with fail
    go_ret
    exact ⟨ret_bool hd.out.symm, rfl⟩

/-- What a text is cut into. -/
structure PartsL where
  hs : Bool
  sch : List UInt8
  rest : List UInt8
  hq : Bool
  qry : List UInt8
  hf : Bool
  frg : List UInt8
deriving DecidableEq
def splitL (l : List UInt8) : PartsL :=
  let f := cutC 35 l
  let q := cutC 63 f.1
  let s := cutC 58 q.1
  if s.2.2 && schemeB s.1 then ⟨true, lowerL s.1, s.2.1, q.2.2, q.2.1, f.2.2, f.2.1⟩ else ⟨false, [], q.1, q.2.2, q.2.1, f.2.2, f.2.1⟩
/-- The call hands back these parts. -/
def RetP (w : World) (p : PartsL) (e : Ending) (w' : World) : Prop :=
  ∃ a b c d : ByteArray, e = .returned (.agg #[.bool p.hs, .string a, .string b, .bool p.hq, .string c, .bool p.hf, .string d]) ∧
    Hid (a.toList = p.sch) ∧ Hid (b.toList = p.rest) ∧ Hid (c.toList = p.qry) ∧ Hid (d.toList = p.frg) ∧ Below w.heap.size w w'

theorem bcell {W w1 : World} (hb : Below W.heap.size W w1) : (∀ b o, b < W.heap.size → w1.cell? ⟨b, o, none⟩ = W.cell? ⟨b, o, none⟩) ∧ (∀ b o, b < W.heap.size → w1.frozen? ⟨b, o, none⟩ = W.frozen? ⟨b, o, none⟩) :=
  ⟨fun b o h => hb.cell (p := ⟨b, o, none⟩) h, fun b o h => hb.frozen (p := ⟨b, o, none⟩) h⟩
theorem cutC_size {c : UInt8} {s a b : ByteArray} (ha : a.toList = (cutC c s.toList).1) (hb : b.toList = (cutC c s.toList).2.1) : a.size + b.size ≤ s.size := by
  have := cutC_len c s.toList
  rwa [← ha, ← hb, size_toList, size_toList, size_toList] at this

set_option maxHeartbeats 1000000 in
theorem split_any (s : ByteArray) (w : World) (hm : ML w) (hs : s.size < 4294967281) :
    Calls Try.prog 10 #[.string s] w (RetP w (splitL s.toList)) := by
  go_enter Try.func10, Try.ntmps10
  go_wp2_with fail
  refine (cut_any _ 35 _ (by exact (hm.alloc _).alloc _) hs).mono ?_
  rintro e w1 ⟨f1, f2, n1, rfl, hf1, hf2, rfl⟩
  have z1 := cutC_size hf1.out hf2.out
  have hs1 : f1.size < 4294967281 := by omega
  generalize hfb0 : (cutC 35 s.toList).2.2 = fb
  have hfb := Lib.hid hfb0
  clear hfb0
  go_wp2_with fail
  refine (cut_any _ 63 _ (by exact ((hm.alloc _).alloc _).drewN _) hs1).mono ?_
  rintro e w1 ⟨q1, q2, n2, rfl, hq1, hq2, rfl⟩
  have z2 := cutC_size hq1.out hq2.out
  have hs2 : q1.size < 4294967281 := by omega
  generalize hqb0 : (cutC 63 f1.toList).2.2 = qb
  have hqb := Lib.hid hqb0
  clear hqb0
  go_wp2_with fail
  refine (cut_any _ 58 _ (by exact ((hm.alloc _).alloc _).drewN _) hs2).mono ?_
  rintro e w1 ⟨s1, s2, n3, rfl, hs1', hs2', rfl⟩
  have z3 := cutC_size hs1'.out hs2'.out
  have hs3 : s1.size ≤ 1099511627776 := by omega
  generalize hsb0 : (cutC 58 q1.toList).2.2 = sb
  have hsb := Lib.hid hsb0
  clear hsb0
  have hno : (sb && schemeB s1.toList) = false → splitL s.toList = ⟨false, [], q1.toList, qb, q2.toList, fb, f2.toList⟩ := by
    intro h
    unfold splitL
    simp only [← hf1.out, ← hf2.out, hfb.out, ← hq1.out, ← hq2.out, hqb.out, ← hs1'.out, ← hs2'.out, hsb.out, h, if_false, Bool.false_eq_true]
  have hyes : (sb && schemeB s1.toList) = true → splitL s.toList = ⟨true, lowerL s1.toList, s2.toList, qb, q2.toList, fb, f2.toList⟩ := by
    intro h
    unfold splitL
    simp only [← hf1.out, ← hf2.out, hfb.out, ← hq1.out, ← hq2.out, hqb.out, ← hs1'.out, ← hs2'.out, hsb.out, h, if_true]
  replace hno := Lib.hid hno
  replace hyes := Lib.hid hyes
  cases sb
  · go_wp2_with fail
    refine bodyPost_ret (v := .agg #[.bool false, .string ⟨#[]⟩, .string q1, .bool qb, .string q2, .bool fb, .string f2]) (by simp [results, Try.results10, go_sem]) rfl ?_
    rw [hno.out rfl]
    exact ⟨_, _, _, _, rfl, toList_mk [], rfl, rfl, rfl, below_drewN (((Below.refl _ _).alloc (Nat.le_refl _) _).alloc (by simp) _) _⟩
  · cases hnm : schemeB s1.toList
    · go_wp2_with (go_at_call 19; refine (named_any _ _ hs3).mono ?_; rintro e w' ⟨rfl, rfl⟩)
      refine bodyPost_ret (v := .agg #[.bool false, .string ⟨#[]⟩, .string q1, .bool qb, .string q2, .bool fb, .string f2]) (by simp [results, Try.results10, go_sem]) rfl ?_
      rw [hno.out (by rw [hnm]; rfl)]
      exact ⟨_, _, _, _, rfl, toList_mk [], rfl, rfl, rfl, below_drewN (((Below.refl _ _).alloc (Nat.le_refl _) _).alloc (by simp) _) _⟩
    · go_wp2_with (go_at_call 19; refine (named_any _ _ hs3).mono ?_; rintro e w' ⟨rfl, rfl⟩)
      refine (lower_any _ _ hs3).mono ?_
      rintro e w2 ⟨t, rfl, ht, hb⟩
      obtain ⟨E, d, rfl⟩ := hb.ext
      clear hb
      go_wp2_with fail
      refine bodyPost_ret (v := .agg #[.bool true, .string t, .string s2, .bool qb, .string q2, .bool fb, .string f2]) (by simp [results, Try.results10, go_sem]) rfl ?_
      rw [hyes.out (by rw [hnm]; rfl)]
      exact ⟨_, _, _, _, rfl, ht, rfl, rfl, rfl, (((Below.refl _ _).alloc (Nat.le_refl _) _).alloc (by simp) _).toExt (by simp <;> omega) _ _⟩
/-- The parts of a text that is written out. -/
theorem split_lit (l : List UInt8) (p : PartsL) (h : splitL l = p) (hl : l.length < 4294967281) (w : World) (hm : ML w) :
    Calls Try.prog 10 #[.string ⟨l.toArray⟩] w fun e w' => e = .returned (.agg #[.bool p.hs, .string ⟨p.sch.toArray⟩, .string ⟨p.rest.toArray⟩, .bool p.hq, .string ⟨p.qry.toArray⟩, .bool p.hf, .string ⟨p.frg.toArray⟩]) ∧ Below w.heap.size w w' := by
  refine (split_any ⟨l.toArray⟩ w hm (by rw [← size_toList, toList_mk]; exact hl)).mono ?_
  rw [toList_mk, h]
  rintro e w' ⟨a, b, c, d, rfl, ha, hb, hc, hd, hB⟩
  have e1 := eq_of_toList (ha.out.trans (toList_mk p.sch).symm)
  have e2 := eq_of_toList (hb.out.trans (toList_mk p.rest).symm)
  have e3 := eq_of_toList (hc.out.trans (toList_mk p.qry).symm)
  have e4 := eq_of_toList (hd.out.trans (toList_mk p.frg).symm)
  exact ⟨by rw [e1, e2, e3, e4], hB⟩

def cleanL (l : List UInt8) : List UInt8 := tightL (trimL l)
theorem trimL_len (l : List UInt8) : (trimL l).length ≤ l.length := by
  unfold trimL rdropZ dropZ
  have h1 : (l.dropWhile fun c => lowZ (c.toNat : Int)).length ≤ l.length := (List.dropWhile_sublist _).length_le
  have h2 := (List.dropWhile_sublist (fun c : UInt8 => lowZ (c.toNat : Int)) (l := (l.dropWhile fun c => lowZ (c.toNat : Int)).reverse)).length_le
  simp at h2 ⊢
  omega
set_option maxHeartbeats 400000 in
theorem clean_any (s : ByteArray) (w : World) (hs : s.size ≤ 1099511627776) :
    Calls Try.prog 8 #[.string s] w (RetS w (cleanL s.toList)) := by
  go_enter Try.func8, Try.ntmps8
  go_wp2_with fail
  refine (trim_any s _ hs).mono ?_
  rintro e w1 ⟨t, rfl, ht, hb⟩
  have hl := trimL_len s.toList
  rw [← ht.out, size_toList, size_toList] at hl
  have hl2 : t.size ≤ 1099511627776 := by omega
  go_wp2_with fail
  refine (tight_any t _ hl2).mono ?_
  rintro e w2 ⟨u, rfl, hu, hb2⟩
  have hq := Lib.hid (hu.out.trans (congrArg tightL ht.out))
  go_wp2_with fail
  go_ret
  exact retS hq.out (hb.next hb2)
end Go.Proofs.Ytlohhmckeanegaa
