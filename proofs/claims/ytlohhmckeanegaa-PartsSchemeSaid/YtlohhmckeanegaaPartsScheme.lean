/- The walk of the law PartsScheme. -/
import Derived.Test.YtlohhmckeanegaaSmall14
import Derived.Test.YtlohhmckeanegaaBytesIn
import Derived.Deep.RegionHeld3
import Derived.Deep.Cut
import Derived.Deep.CutRange
namespace Go.Proofs.Ytlohhmckeanegaa
open Go.RowKit
set_option linter.unusedVariables false

/-- The world is told by what holds of it. -/
theorem wp_gen {P : Program} {s : Code} {Q : Exit → Act → World → Prop} {a : Act} {w : World} {R : World → Prop} (h : R w) (k : ∀ w', R w' → s.wp P Q a w') : s.wp P Q a w := k w h
theorem cutC_past {c : UInt8} (a b : List UInt8) (h : ∀ d ∈ a, d ≠ c) : cutC c (a ++ b) = (a ++ (cutC c b).1, (cutC c b).2.1, (cutC c b).2.2) := by
  induction a with
  | nil => rfl
  | cons d r ih =>
    rw [List.cons_append]; conv => lhs; unfold cutC
    rw [if_neg (h d (by simp)), ih (fun x hx => h x (by simp [hx]))]; rfl
theorem name_plain {c : UInt8} (h : nameZ c = true) : c ≠ 35 ∧ c ≠ 63 ∧ c ≠ 58 := by
  refine ⟨?_, ?_, ?_⟩ <;> (intro e; rw [e] at h; revert h; decide)
/-- The parts of a text behind a scheme's name. -/
theorem splitL_scheme {A R : List UInt8} (hA : ∀ d ∈ A, nameZ d = true) (hs : schemeB A = true) :
    splitL (A ++ 58 :: R) = ⟨true, lowerL A, (cutC 63 (cutC 35 R).1).1, (cutC 63 (cutC 35 R).1).2.2, (cutC 63 (cutC 35 R).1).2.1, (cutC 35 R).2.2, (cutC 35 R).2.1⟩ ∧
    splitL (49 :: (A ++ 58 :: R)) = ⟨false, [], 49 :: (A ++ 58 :: (cutC 63 (cutC 35 R).1).1), (cutC 63 (cutC 35 R).1).2.2, (cutC 63 (cutC 35 R).1).2.1, (cutC 35 R).2.2, (cutC 35 R).2.1⟩ := by
  have e1 : ∀ X : List UInt8, A ++ 58 :: X = (A ++ [58]) ++ X := fun X => by simp
  have e2 : ∀ X : List UInt8, 49 :: (A ++ 58 :: X) = (49 :: (A ++ [58])) ++ X := fun X => by simp
  have n35 : ∀ d ∈ A ++ [58], d ≠ 35 := by
    intro d hd; rcases List.mem_append.1 hd with h | h
    · exact (name_plain (hA d h)).1
    · simp at h; rw [h]; decide
  have n63 : ∀ d ∈ A ++ [58], d ≠ 63 := by
    intro d hd; rcases List.mem_append.1 hd with h | h
    · exact (name_plain (hA d h)).2.1
    · simp at h; rw [h]; decide
  have m35 : ∀ d ∈ 49 :: (A ++ [58]), d ≠ 35 := by
    intro d hd; rcases List.mem_cons.1 hd with h | h
    · rw [h]; decide
    · exact n35 d h
  have m63 : ∀ d ∈ 49 :: (A ++ [58]), d ≠ 63 := by
    intro d hd; rcases List.mem_cons.1 hd with h | h
    · rw [h]; decide
    · exact n63 d h
  have n58 : ∀ d ∈ A, d ≠ 58 := fun d hd => (name_plain (hA d hd)).2.2
  have m58 : ∀ d ∈ 49 :: A, d ≠ 58 := by
    intro d hd; rcases List.mem_cons.1 hd with h | h
    · rw [h]; decide
    · exact n58 d h
  constructor
  · unfold splitL
    simp only [e1 R, cutC_past _ R n35, cutC_past _ _ n63]
    rw [← e1, cutC_has A _ n58, hs]; rfl
  · unfold splitL
    simp only [e2 R, cutC_past _ R m35, cutC_past _ _ m63]
    rw [← e2]
    have e3 : ∀ X : List UInt8, 49 :: (A ++ 58 :: X) = (49 :: A) ++ 58 :: X := fun X => by simp
    have h0 : schemeB (49 :: A) = false := by simp [schemeB, letterZ]
    rw [e3, cutC_has (49 :: A) _ m58, h0]; rfl
theorem splitL_same (R : List UInt8) : (splitL R).hq = (cutC 63 (cutC 35 R).1).2.2 ∧ (splitL R).qry = (cutC 63 (cutC 35 R).1).2.1 ∧ (splitL R).hf = (cutC 35 R).2.2 ∧ (splitL R).frg = (cutC 35 R).2.1 ∧
    ((splitL R).hs = false → (splitL R).rest = (cutC 63 (cutC 35 R).1).1) := by
  unfold splitL
  dsimp only
  split <;> simp
def signs14 : ByteArray := ⟨#[97, 98, 121, 122, 65, 66, 89, 90, 48, 49, 56, 57, 43, 45, 46]⟩
theorem signs14_name : ∀ r : Fin 15, ∃ x, ((([97, 98, 121, 122, 65, 66, 89, 90, 48, 49, 56, 57, 43, 45, 46] : List UInt8).take (r.val + 1)).drop r.val) = [x] ∧ nameZ x = true := by
  intro r
  have h : ∀ r : Fin 15, ((([97, 98, 121, 122, 65, 66, 89, 90, 48, 49, 56, 57, 43, 45, 46] : List UInt8).take (r.val + 1)).drop r.val).length = 1 ∧ ((([97, 98, 121, 122, 65, 66, 89, 90, 48, 49, 56, 57, 43, 45, 46] : List UInt8).take (r.val + 1)).drop r.val).all nameZ = true := by decide +kernel
  obtain ⟨h1, h2⟩ := h r
  obtain ⟨x, hx⟩ := List.length_eq_one_iff.1 h1
  rw [hx] at h2
  exact ⟨x, hx, by simpa using h2⟩

set_option maxRecDepth 100000 in
set_option maxHeartbeats 2000000 in
theorem partsScheme_walk (ci : Int) (am : Option Addr) (lm cm : Nat) (zm : List Int) (s : ByteArray) (w : World) (wc : (Lit.int .u8 ci).wf = true) (wm : IsRow .u8 w am lm cm zm) (ws : s.size ≤ maxLen) (hm : ML w) :
    Calls Try.prog 5 #[.int .u8 ci, .slice am lm cm, .string s] w (RetB w true) := by
  have hB : Below w.heap.size w w := Below.refl _ _
  obtain ⟨c, rfl⟩ : ∃ c : UInt8, ci = (c.toNat : Int) := ⟨UInt8.ofNat ci.toNat, by have := bounds_u8 wc; simp; omega⟩
  clear wc
  obtain ⟨l, hll, hrd, hml⟩ := wm.bytes
  clear wm
  subst hll
  obtain ⟨a1, c1, hv, hcell⟩ := hrd
  obtain ⟨rfl, -, rfl⟩ : am = a1 ∧ l.length = l.length ∧ cm = c1 := by simpa using hv
  clear hv
  unfold maxLen at ws hml
  by_cases hs : 50 < l.length
  · have z : (50 : Int) < (l.length : Int) := by omega
    clear hcell
    go_enter Try.func5, Try.ntmps5
    go_wp2_with (go_at_call 7; refine (small14_any _ hm).mono ?_; rintro e w' ⟨rfl, hb⟩)
    go_ret
    exact ⟨rfl, by assumption⟩
  have z : (l.length : Int) ≤ (50 : Int) := by omega
  by_cases hs2 : 300 < s.size
  · have z2 : (300 : Int) < (s.size : Int) := by omega
    clear hcell
    go_enter Try.func5, Try.ntmps5
    go_wp2_with (go_at_call 7; refine (small14_any _ hm).mono ?_; rintro e w' ⟨rfl, hb⟩)
    go_ret
    exact ⟨rfl, by assumption⟩
  have z2 : (s.size : Int) ≤ (300 : Int) := by omega
  cases hlt : letterZ (c.toNat : Int)
  · clear hcell
    go_enter Try.func5, Try.ntmps5
    go_wp2_with (first
      | (go_at_call 7; refine (small14_any _ hm).mono ?_; rintro e w' ⟨rfl, hb⟩)
      | (go_at_call 13; refine (letter_any _ _).mono ?_; rintro e w' ⟨rfl, rfl⟩))
    go_ret
    exact ⟨rfl, by assumption⟩
  obtain ⟨sep, hsep, hsep1, hcv⟩ := conv_one (P := Try.prog) (S := 9) Try.underlying28 Try.underlying5 Try.underlying9 c
  replace hcell := Lib.hid hcell
  go_enter Try.func5, Try.ntmps5
  go_wp2_with (first
    | (go_at_call 7; refine (small14_any _ hm).mono ?_; rintro e w1 ⟨rfl, hb⟩; replace hB := hB.next hb; clear hb)
    | (go_at_call 13; refine (letter_any _ _).mono ?_; rintro e w' ⟨rfl, rfl⟩))
  clear hcv
  replace hlt := Lib.hid hlt
  generalize hw1 : w1.alloc (.cells #[.int .u8 (c.toNat : Int)] 5) = wa
  replace hB : Below w.heap.size w wa := by rw [← hw1]; exact hB.alloc hB.size _
  clear hw1
  go_loopw [8, 9] (fun sv iv wr => ∃ (k : Nat) (t : ByteArray), iv = .int .i64 k ∧ sv = .string t ∧ k ≤ l.length ∧ t.size ≤ k + 1 ∧ Hid (∃ r, t.toList = c :: r ∧ r.all nameZ = true) ∧ Below w.heap.size w wr) (fun _ i _ => l.length - (intOf i).toNat)
  case atStart => exact ⟨0, sep, rfl, rfl, Nat.zero_le _, hsep1, Lib.hid ⟨[], hsep.out, rfl⟩, hB⟩
  case round =>
    obtain ⟨k, t, rfl, rfl, hk, htk, ht, hbel⟩ := hrel
    clear hB
    by_cases hkl : k < l.length
    · obtain ⟨g, o, rfl, hcc⟩ := hcell.out (by omega)
      have x1 := hcc k hkl
      have b1 := World.block_lt_of_cell? w _ x1
      have y1 : wr.cell? ⟨g, o + k, none⟩ = some (.int .u8 (l[k].toNat : Int)) := (hbel.cell (by simpa using b1)).trans x1
      have m0 := byte_nn l[k]
      have m1 := byte_le l[k]
      have hkl2 : (k : Int) < (l.length : Int) := by omega
      clear hcell hcc x1 b1
      go_wp2_with fail
      go_quiet (fail)
      obtain ⟨x, hx, hxn⟩ := signs14_name ⟨l[k].toNat % 15, by omega⟩
      have hxe : (signs14.extract (l[k].toNat % 15) (l[k].toNat % 15 + 1)).toList = [x] := by
        rw [toList_extract]; unfold signs14; rw [toList_mk]; exact hx
      have hnew : Hid (∃ r, (t ++ signs14.extract (l[k].toNat % 15) (l[k].toNat % 15 + 1)).toList = c :: r ∧ r.all nameZ = true) := by
        obtain ⟨r, h1, h2⟩ := ht.out
        refine ⟨r ++ [x], by rw [toList_append, h1, hxe]; rfl, by rw [List.all_append, h2]; simp [hxn]⟩
      have hsz : (t ++ signs14.extract (l[k].toNat % 15) (l[k].toNat % 15 + 1)).size ≤ k + 1 + 1 := by
        have h1 : (signs14.extract (l[k].toNat % 15) (l[k].toNat % 15 + 1)).size = 1 := by rw [← size_toList, hxe]; rfl
        rw [ByteArray.size_append]; omega
      clear hx hxe
      go_wp2_with fail
      go_roundw
      case rel => exact ⟨k + 1, _, by go_num, rfl, by omega, hsz, hnew, below_drewN hbel _⟩
      case measure => simp [intOf]; omega
    · obtain ⟨r0, hr1, hr2⟩ := ht.out
      have hA : ∀ d ∈ t.toList, nameZ d = true := by
        rw [hr1]; intro d hd
        rcases List.mem_cons.1 hd with rfl | h
        · unfold nameZ; rw [hlt.out]; rfl
        · exact List.all_eq_true.1 hr2 d h
      have hsch : schemeB t.toList = true := by rw [hr1]; show (letterZ _ && _) = true; rw [hlt.out, hr2]; rfl
      obtain ⟨P1, P2⟩ := splitL_scheme (R := s.toList) hA hsch
      obtain ⟨R1, R2, R3, R4, R5⟩ := splitL_same s.toList
      have n1 : (t ++ ByteArray.mk #[58] ++ s).toList = t.toList ++ 58 :: s.toList := by
        rw [toList_append, toList_append, show (ByteArray.mk #[58]).toList = [58] from toList_mk _]; simp
      have n2 : (ByteArray.mk #[49] ++ t ++ ByteArray.mk #[58] ++ s).toList = 49 :: (t.toList ++ 58 :: s.toList) := by
        rw [toList_append, toList_append, toList_append, show (ByteArray.mk #[58]).toList = [58] from toList_mk _, show (ByteArray.mk #[49]).toList = [49] from toList_mk _]; simp
      rw [← n1] at P1
      rw [← n2] at P2
      have hz1 : (t ++ ByteArray.mk #[58] ++ s).size < 4294967281 := by
        simp only [ByteArray.size_append]; have : (ByteArray.mk #[58]).size = 1 := rfl
        omega
      have hz2 : (ByteArray.mk #[49] ++ t ++ ByteArray.mk #[58] ++ s).size < 4294967281 := by
        simp only [ByteArray.size_append]; have : (ByteArray.mk #[58]).size = 1 := rfl
        have : (ByteArray.mk #[49]).size = 1 := rfl
        omega
      have ht3 : t.size ≤ 1099511627776 := by omega
      have hkge : (l.length : Int) ≤ (k : Int) := by omega
      have hZ1 : (cutC 63 (cutC 35 s.toList).1).1.length ≤ s.size := by
        have h1 := cutC_len 35 s.toList
        have h2 := cutC_len 63 (cutC 35 s.toList).1
        rw [size_toList] at h1; omega
      generalize (cutC 63 (cutC 35 s.toList).1).1 = Z1 at P1 P2 R1 R2 R3 R4 R5 hZ1
      generalize (cutC 63 (cutC 35 s.toList).1).2.2 = Z2 at P1 P2 R1 R2 R3 R4 R5
      generalize (cutC 63 (cutC 35 s.toList).1).2.1 = Z3 at P1 P2 R1 R2 R3 R4 R5
      generalize (cutC 35 s.toList).2.2 = Z4 at P1 P2 R1 R2 R3 R4 R5
      generalize (cutC 35 s.toList).2.1 = Z5 at P1 P2 R1 R2 R3 R4 R5
      replace P1 := Lib.hid P1
      replace P2 := Lib.hid P2
      replace R1 := Lib.hid R1
      replace R2 := Lib.hid R2
      replace R3 := Lib.hid R3
      replace R4 := Lib.hid R4
      replace R5 := Lib.hid R5
      replace n2 := Lib.hid n2
      clear n1 hr1 hr2 hsch hsep hcell ht
      replace hA := Lib.hid hA
      go_wp2_with fail
      refine (split_any _ _ (hm.next hbel) hz1).mono ?_
      rw [P1.out]
      rintro e w4 ⟨pa, pb, pc, pd, rfl, ha1, hb1, hc1, hd1, hb⟩
      replace hbel := hbel.next hb
      clear hb
      dsimp only at ha1 hb1 hc1 hd1
      go_wp2_with fail
      refine (split_any _ _ ((hm.next hbel).alloc _) hz2).mono ?_
      rw [P2.out]
      rintro e w5 ⟨qa, qb, qc, qd, rfl, ha2, hb2, hc2, hd2, hb⟩
      replace hbel := (hbel.alloc hbel.size _).next hb
      obtain ⟨E2, d2, rfl⟩ := hb.ext
      clear hb
      dsimp only at ha2 hb2 hc2 hd2
      go_wp2_with fail
      refine (split_any s _ ((hm.next hbel).alloc _) (by omega)).mono ?_
      generalize splitL s.toList = p at R1 R2 R3 R4 R5 ⊢
      obtain ⟨rhs, rsch, rrest, rhq, rqry, rhf, rfrg⟩ := p
      rintro e w6 ⟨ra, rb, rc, rd, rfl, ha3, hb3, hc3, hd3, hb⟩
      replace hbel := (hbel.alloc hbel.size _).next hb
      obtain ⟨E3, d3, rfl⟩ := hb.ext
      clear hb
      dsimp only at ha3 hb3 hc3 hd3 R1 R2 R3 R4 R5
      obtain rfl := R1.out
      obtain rfl := R3.out
      have q1 := hc1.out.trans (R2.out.symm.trans hc3.out.symm)
      have q2 := hd1.out.trans (R4.out.symm.trans hd3.out.symm)
      replace q1 := Lib.hid q1
      replace q2 := Lib.hid q2
      go_upto_region 12 with fail
      refine wp_gen (R := fun w' => w'.cell? ⟨w4.heap.size, 0, none⟩ = some (.bool true) ∧ w'.cell? ⟨w4.heap.size, 1, none⟩ = some (.string pa) ∧ w'.cell? ⟨w4.heap.size, 2, none⟩ = some (.string pb) ∧ w'.cell? ⟨w4.heap.size, 3, none⟩ = some (.bool rhq) ∧ w'.cell? ⟨w4.heap.size, 4, none⟩ = some (.string pc) ∧ w'.cell? ⟨w4.heap.size, 5, none⟩ = some (.bool rhf) ∧ w'.cell? ⟨w4.heap.size, 6, none⟩ = some (.string pd) ∧ w'.cell? ⟨w4.heap.size + 1 + E2.size, 0, none⟩ = some (.bool false) ∧ w'.cell? ⟨w4.heap.size + 1 + E2.size, 2, none⟩ = some (.string qb) ∧ w'.cell? ⟨w4.heap.size + 1 + E2.size + 1 + E3.size, 0, none⟩ = some (.bool rhs) ∧ w'.cell? ⟨w4.heap.size + 1 + E2.size + 1 + E3.size, 2, none⟩ = some (.string rb) ∧ w'.cell? ⟨w4.heap.size + 1 + E2.size + 1 + E3.size, 3, none⟩ = some (.bool rhq) ∧ w'.cell? ⟨w4.heap.size + 1 + E2.size + 1 + E3.size, 4, none⟩ = some (.string rc) ∧ w'.cell? ⟨w4.heap.size + 1 + E2.size + 1 + E3.size, 5, none⟩ = some (.bool rhf) ∧ w'.cell? ⟨w4.heap.size + 1 + E2.size + 1 + E3.size, 6, none⟩ = some (.string rd) ∧ Below w.heap.size w w') ?_ ?_
      · refine ⟨?_, ?_, ?_, ?_, ?_, ?_, ?_, ?_, ?_, ?_, ?_, ?_, ?_, ?_, ?_, hbel.alloc hbel.size _⟩ <;> go_simp
      generalize w4.heap.size + 1 + E2.size + 1 + E3.size = p3
      generalize w4.heap.size + 1 + E2.size = p2
      generalize w4.heap.size = p1
      clear hbel
      rintro wg ⟨k0, k1, k2, k3, k4, k5, k6, k7, k8, k9, k10, k11, k12, k13, k14, hbel⟩
      have lt1 : p1 < wg.heap.size := World.block_lt_of_cell? wg _ k0
      have lt2 : p2 < wg.heap.size := World.block_lt_of_cell? wg _ k7
      have lt3 : p3 < wg.heap.size := World.block_lt_of_cell? wg _ k9
      go_region_held3 (fun w' => w'.cell? ⟨p1, 0, none⟩ = some (.bool true) ∧ w'.cell? ⟨p1, 1, none⟩ = some (.string pa) ∧ w'.cell? ⟨p2, 0, none⟩ = some (.bool false)) (first | go_keep | ((try dsimp only); refine ⟨?_, ?_, ?_⟩ <;> go_simp))
        (first | (go_at_call 12; refine (lower_any t _ ht3).mono ?_; rintro e w7 ⟨u, rfl, hu, hb⟩; have hq := ha1.out.trans hu.out.symm; clear hu; replace hbel := hbel.drew.next hb; obtain ⟨E4, d4, rfl⟩ := hb.ext; clear hb))
      have q3 := q1.out
      have q4 := q2.out
      have q5 : qb.toList = (ByteArray.mk #[49] ++ t ++ ByteArray.mk #[58] ++ pb).toList := by
        rw [hb2.out, toList_append, toList_append, toList_append, show (ByteArray.mk #[58]).toList = [58] from toList_mk _, show (ByteArray.mk #[49]).toList = [49] from toList_mk _, hb1.out]; simp
      have q6 : rhs = true ∨ rhs = false ∧ pb.toList = rb.toList := by
        cases rhs
        · exact .inr ⟨rfl, hb1.out.trans ((R5.out rfl).symm.trans hb3.out.symm)⟩
        · exact .inl rfl
      have hz3 : pb.size ≤ 300 := by
        have := congrArg List.length hb1.out
        rw [size_toList] at this; omega
      clear hq
      rcases q6 with rfl | ⟨rfl, q6⟩
      all_goals
        go_wp2_with fail
        go_ret
        exact ⟨rfl, hbel⟩
end Go.Proofs.Ytlohhmckeanegaa
