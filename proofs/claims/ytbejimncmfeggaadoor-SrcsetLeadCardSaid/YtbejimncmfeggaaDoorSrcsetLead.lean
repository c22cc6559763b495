/- The walk of SrcsetLead. -/
import Derived.Test.YtbejimncmfeggaaDoorSrcL
import Derived.Test.YtbejimncmfeggaaDoorBytesIn
namespace Go.Proofs.YtbejimncmfeggaaDoor
open Go.RowKit
set_option linter.unusedVariables false
set_option linter.unusedSimpArgs false

def seps6 : ByteArray := ⟨#[32, 44, 9, 10, 12, 13]⟩
theorem seps6_sep : ∀ r : Fin 6, ∃ x, ((([32, 44, 9, 10, 12, 13] : List UInt8).take (r.val + 1)).drop r.val) = [x] ∧ sepC x = true := by
  intro r
  have h : ∀ r : Fin 6, ((([32, 44, 9, 10, 12, 13] : List UInt8).take (r.val + 1)).drop r.val).length = 1 ∧ ((([32, 44, 9, 10, 12, 13] : List UInt8).take (r.val + 1)).drop r.val).all sepC = true := by decide +kernel
  obtain ⟨h1, h2⟩ := h r
  obtain ⟨x, hx⟩ := List.length_eq_one_iff.1 h1
  rw [hx] at h2
  exact ⟨x, hx, by simpa using h2⟩
set_option maxRecDepth 100000 in
set_option maxHeartbeats 2000000 in
theorem srcsetLead_walk (am : Option Addr) (lm cm : Nat) (zm : List Int) (s : ByteArray) (w : World) (wm : IsRow .u8 w am lm cm zm) (ws : s.size ≤ maxLen) :
    Calls Tryd.prog 7 #[.slice am lm cm, .string s] w (RetB w true) := by
  have hB : Below w.heap.size w w := Below.refl _ _
  obtain ⟨l, hll, hrd, hml⟩ := wm.bytes
  clear wm
  subst hll
  obtain ⟨a1, c1, hv, hcell⟩ := hrd
  obtain ⟨rfl, -, rfl⟩ : am = a1 ∧ l.length = l.length ∧ cm = c1 := by simpa using hv
  clear hv
  unfold maxLen at ws hml
  replace hcell := Lib.hid hcell
  go_enter Tryd.func7, Tryd.ntmps7
  go_wp2_with fail
  refine (small19_any _).mono ?_
  rintro e w1 ⟨rfl, hb⟩
  replace hB := hB.next hb
  clear hb
  by_cases hbig : 50 < l.length ∨ 300 < s.size
  · have hway : (50 : Int) < (l.length : Int) ∨ ((l.length : Int) ≤ 50 ∧ (300 : Int) < (s.size : Int)) := by omega
    clear hbig
    rcases hway with q1 | ⟨q1, q2⟩
    all_goals
      go_wp2_with fail
      go_ret
      exact ⟨rfl, hB⟩
  have q1 : (l.length : Int) ≤ 50 := by omega
  have q2 : (s.size : Int) ≤ 300 := by omega
  clear hbig
  go_wp2_with fail
  go_loopw [6, 7] (fun sv iv wr => ∃ (k : Nat) (t : ByteArray), iv = .int .i64 k ∧ sv = .string t ∧ k ≤ l.length ∧ t.size ≤ k ∧ Hid (∀ c ∈ t.toList, sepC c = true) ∧ Below w.heap.size w wr) (fun _ i _ => l.length - (intOf i).toNat)
  case atStart => exact ⟨0, _, rfl, rfl, Nat.zero_le _, Nat.le_refl _, Lib.hid (by rw [show (ByteArray.mk #[]).toList = [] from toList_mk []]; intro c hc; cases hc), hB⟩
  case round =>
    obtain ⟨k, t, rfl, rfl, hk, htk, ht, hbel⟩ := hrel
    clear hB
    by_cases hkl : k < l.length
    · obtain ⟨g, o, rfl, hcc⟩ := hcell.out (by omega)
      have x1 := hcc k hkl
      have b1 := World.block_lt_of_cell? w _ x1
      have y1 : wr.cell? ⟨g, o + k, none⟩ = some (.int .u8 (l[k].toNat : Int)) := (hbel.cell (by simpa using b1)).trans x1
      have m0 := byte_nn l[k]
      have m1 := byte_le l[k]
      have hkl2 : (k : Int) < (l.length : Int) := by omega
      clear hcell hcc x1 b1
      go_wp2_with fail
      go_quiet (fail)
      obtain ⟨x, hx, hxn⟩ := seps6_sep ⟨l[k].toNat % 6, by omega⟩
      have hxe : (seps6.extract (l[k].toNat % 6) (l[k].toNat % 6 + 1)).toList = [x] := by
        rw [toList_extract]; unfold seps6; rw [toList_mk]; exact hx
      have hnew : Hid (∀ c ∈ (t ++ seps6.extract (l[k].toNat % 6) (l[k].toNat % 6 + 1)).toList, sepC c = true) := Lib.hid (by
        rw [toList_append, hxe]
        intro c hc
        rcases List.mem_append.1 hc with hc | hc
        · exact ht.out c hc
        · rw [List.mem_singleton.1 hc]; exact hxn)
      have hsz : (t ++ seps6.extract (l[k].toNat % 6) (l[k].toNat % 6 + 1)).size ≤ k + 1 := by
        have h1 : (seps6.extract (l[k].toNat % 6) (l[k].toNat % 6 + 1)).size = 1 := by rw [← size_toList, hxe]; rfl
        rw [ByteArray.size_append]; omega
      clear hx hxe
      go_wp2_with fail
      go_roundw
      case rel => exact ⟨k + 1, _, by go_num, rfl, by omega, hsz, hnew, below_drewN hbel _⟩
      case measure => simp [intOf]; omega
    · have hkI : (l.length : Int) ≤ (k : Int) := by omega
      have e1 := splL_lead (t := t.toList) s.toList ht.out
      rw [← toList_append] at e1
      have e2 := splL_seps ht.out
      replace e1 := Lib.hid e1
      replace e2 := Lib.hid e2
      have z1 : (t ++ s).size ≤ 900000 := by rw [ByteArray.size_append]; omega
      clear hcell ht
      go_wp2_with fail
      refine (split_at _ _ z1).mono ?_
      rintro e w2 ⟨pa, na, ca, la, rfl, h1, hb⟩
      rw [e1.out] at h1
      replace hbel := hbel.next hb
      clear hb
      go_wp2_with fail
      refine (split_at _ _ (by omega)).mono ?_
      rintro e w3 ⟨pb, nb, cb, lb, rfl, h2, hb⟩
      replace h1 := h1.below hb (Nat.le_refl _)
      replace hbel := hbel.next hb
      clear hb
      go_wp2_with fail
      refine (same_at h1 h2).mono ?_
      rintro e w4 ⟨rfl, hb⟩
      replace hbel := hbel.next hb
      clear hb h1 h2
      go_wp2_with fail
      refine (split_at _ _ (by omega)).mono ?_
      rintro e w5 ⟨pc, nc, cc, lc, rfl, h3, hb⟩
      rw [e2.out] at h3
      obtain rfl := h3.none
      replace hbel := hbel.next hb
      clear hb h3
      go_wp2_with fail
      go_ret
      exact ⟨rfl, hbel⟩
end Go.Proofs.YtbejimncmfeggaaDoor
