/- The contracts of package ascii, and of the reference tamisref01, over this seat's program. -/
import Derived.Test.YtnalafhepnfggaaDoorBase
namespace Go.Proofs.YtnalafhepnfggaaDoor
open Go.RowKit
set_option linter.unusedVariables false

def blankZ (c : Int) : Bool := c == 9 || c == 10 || c == 12 || c == 13 || c == 32
def letterZ (c : Int) : Bool := decide (65 ≤ c ∧ c ≤ 90) || decide (97 ≤ c ∧ c ≤ 122)
def worthZ (c : Int) : Int := if 48 ≤ c ∧ c ≤ 57 then c - 48 else if 97 ≤ c ∧ c ≤ 122 then c - 87 else if 65 ≤ c ∧ c ≤ 90 then c - 55 else -1
def digitZ (c base : Int) : Int := if worthZ c ≥ base then -1 else worthZ c
def lowerC (c : UInt8) : UInt8 := if 65 ≤ c.toNat ∧ c.toNat ≤ 90 then UInt8.ofNat (c.toNat + 32) else c
def lowerL (l : List UInt8) : List UInt8 := l.map lowerC

theorem lowerC_up {c : UInt8} (h : 65 ≤ (c.toNat : Int)) (h' : (c.toNat : Int) ≤ 90) : (c.toNat : Int) - 65 + 97 = ((lowerC c).toNat : Int) := by
  unfold lowerC; rw [if_pos ⟨by omega, by omega⟩]; simp; omega
theorem lowerC_not {c : UInt8} (h : ¬ (65 ≤ (c.toNat : Int) ∧ (c.toNat : Int) ≤ 90)) : lowerC c = c := by
  unfold lowerC; rw [if_neg (by omega)]
theorem lowerL_snoc {l : List UInt8} {c : UInt8} {k : Nat} {s : ByteArray} (hk : k < s.size) (hl : l = lowerL (s.toList.take k)) (hc : c = lowerC s[k]) : l ++ [c] = lowerL (s.toList.take (k + 1)) := by
  rw [take_snoc _ _ hk, hl, hc]; simp [lowerL]

theorem ty8 : ElemTy Tryd.prog 56 5 (.int .u8 0) 1 := .mk' Tryd.underlying56 (by kernel_rfl) rfl

set_option maxHeartbeats 400000 in
theorem blank_any (c : Int) (w : World) :
    Calls Tryd.prog 43 #[.int .u8 c] w fun e w' => e = .returned (.bool (blankZ c)) ∧ w = w' := by
  go_enter Tryd.func43, Tryd.ntmps43
  go_wp2
  all_goals (go_ret; exact ⟨ret_bool (by simp_all [blankZ]), rfl⟩)
set_option maxHeartbeats 400000 in
theorem letter_any (c : Int) (w : World) :
    Calls Tryd.prog 59 #[.int .u8 c] w fun e w' => e = .returned (.bool (letterZ c)) ∧ w = w' := by
  go_enter Tryd.func59, Tryd.ntmps59
  go_wp2
  all_goals (go_ret; exact ⟨ret_bool (by rw [Bool.eq_iff_iff]; simp [letterZ]; omega), rfl⟩)
set_option maxHeartbeats 400000 in
theorem digit_any (c b : Int) (w : World) (h0 : 0 ≤ c) (h1 : c ≤ 255) :
    Calls Tryd.prog 60 #[.int .u8 c, .int .i64 b] w fun e w' => e = .returned (.int .i64 (digitZ c b)) ∧ w = w' := by
  go_enter Tryd.func60, Tryd.ntmps60
  go_wp2
  all_goals (go_ret; exact ⟨ret_int (by simp only [digitZ, worthZ]; omega), rfl⟩)
def tightC (c : UInt8) : Bool := !(c.toNat == 9 || c.toNat == 10 || c.toNat == 13)
def tightL (l : List UInt8) : List UInt8 := l.filter tightC
theorem tight_no {c : UInt8} (h : (c.toNat : Int) = 9 ∨ (c.toNat : Int) = 10 ∨ (c.toNat : Int) = 13) : tightC c = false := by simp [tightC]; omega
theorem tight_yes {c : UInt8} (h : ¬ ((c.toNat : Int) = 9 ∨ (c.toNat : Int) = 10 ∨ (c.toNat : Int) = 13)) : tightC c = true := by simp [tightC]; omega
theorem tightL_out {l : List UInt8} {k : Nat} {s : ByteArray} (hk : k < s.size) (hl : l = tightL (s.toList.take k)) (hc : tightC s[k] = false) : l = tightL (s.toList.take (k + 1)) := by
  rw [take_snoc _ _ hk, hl]; simp [tightL, hc]
theorem tightL_in {l : List UInt8} {k : Nat} {s : ByteArray} (hk : k < s.size) (hl : l = tightL (s.toList.take k)) (hc : tightC s[k] = true) : l ++ [s[k]] = tightL (s.toList.take (k + 1)) := by
  rw [take_snoc _ _ hk, hl]; simp [tightL, hc]

theorem lower_step {l : List UInt8} {k : Nat} {s : ByteArray} (hk : k < s.size) (hl : l = lowerL (s.toList.take k) ++ s.toList.drop k) : l.set k (lowerC s[k]) = lowerL (s.toList.take (k + 1)) ++ s.toList.drop (k + 1) := by
  have hlen : (lowerL (s.toList.take k)).length = k := by simp [lowerL, size_toList]; omega
  rw [hl, List.set_append_right _ _ (by omega), hlen, Nat.sub_self, drop_cons _ _ hk, take_snoc _ _ hk]
  simp [lowerL]
theorem lower_same {l : List UInt8} {k : Nat} {s : ByteArray} (hk : k < s.size) (hl : l = lowerL (s.toList.take k) ++ s.toList.drop k) (hc : lowerC s[k] = s[k]) : l = lowerL (s.toList.take (k + 1)) ++ s.toList.drop (k + 1) := by
  rw [hl, drop_cons _ _ hk, take_snoc _ _ hk]
  simp [lowerL, hc]
theorem lower_at {l : List UInt8} {k : Nat} {s : ByteArray} (hk : k < s.size) (hl : l = lowerL (s.toList.take k) ++ s.toList.drop k) : ∃ h : k < l.length, l[k] = s[k] := by
  have hlen : (lowerL (s.toList.take k)).length = k := by simp [lowerL, size_toList]; omega
  subst hl
  refine ⟨by simp [lowerL, size_toList]; omega, ?_⟩
  rw [List.getElem_append_right (by omega)]
  simp only [hlen, Nat.sub_self, drop_cons _ _ hk, List.getElem_cons_zero]

set_option maxHeartbeats 400000 in
theorem lower_any (s : ByteArray) (w : World) (hs : s.size ≤ 1099511627776) :
    Calls Tryd.prog 39 #[.string s] w (RetS w (lowerL s.toList)) := by
  have hcb := fun (w : World) (s : ByteArray) => Lib.run_convert_string_bytes (P := Tryd.prog) w 9 56 5 s Tryd.underlying9 Tryd.underlying56 Tryd.underlying5
  have hr0 := RowB.made w 5 s
  have hb0 := Below.bytesWorld (Below.refl w.heap.size w) (Nat.le_refl _) 5 s
  go_enter Tryd.func39, Tryd.ntmps39
  go_wp2
  clear hcb
  go_loopw [10] (fun i wr => ∃ (k : Nat) (l : List UInt8), k ≤ s.size ∧ i = .int .i64 k ∧ Hid (l = lowerL (s.toList.take k) ++ s.toList.drop k) ∧ RowB wr w.heap.size 5 l ∧ Below w.heap.size w wr) (fun i _ => s.size - (intOf i).toNat)
  case atStart => exact ⟨0, _, Nat.zero_le _, rfl, Lib.hid (by simp [lowerL]), hr0, hb0⟩
  case round =>
    obtain ⟨k, l, hk, rfl, hl, hrow, hbel⟩ := hrel
    clear hr0 hb0
    by_cases hlt : k < s.size
    · have h0 := byte_nn s[k]
      have h1 := byte_le s[k]
      obtain ⟨hkl, hat⟩ := lower_at hlt hl.out
      have hcell := hrow.cell k hkl
      have hfree := hrow.free k hkl
      rw [hat, byteV] at hcell
      clear hat
      by_cases hup : 65 ≤ (s[k].toNat : Int) ∧ (s[k].toNat : Int) ≤ 90
      · obtain ⟨hu1, hu2⟩ := hup
        have hset := hrow.set k hkl (lowerC s[k])
        have hup := Lib.hid (lowerC_up hu1 hu2)
        go_wp2
        go_roundw
        case rel => exact ⟨k + 1, _, by omega, by go_num, lower_step hlt hl.out, by rw [hup.out]; exact hset, hbel.setCell (Nat.le_refl _) _⟩
        case measure => simp [intOf]; omega
      · have hnc := Lib.hid (lowerC_not hup)
        have hcase : ¬ 65 ≤ (s[k].toNat : Int) ∨ ¬ (s[k].toNat : Int) ≤ 90 := by omega
        clear hup
        rcases hcase with hup | hup
        all_goals
          go_wp2
          go_roundw
          case rel => exact ⟨k + 1, _, by omega, by go_num, lower_same hlt hl.out hnc.out, hrow, hbel⟩
          case measure => simp [intOf]; omega
    · have hlen : l.length = s.size := by rw [hl.out]; simp [lowerL, size_toList]; omega
      have hcv := conv_row (P := Tryd.prog) (S := 9) Tryd.underlying56 Tryd.underlying5 Tryd.underlying9 hrow s.size (grownCap w s.size 0 5) hlen.symm
      clear hlen
      go_wp2
      go_ret
      exact retS_mk (by rw [hl.out, take_all _ _ (by omega), drop_end _ _ (by omega), List.append_nil]) hbel
end Go.Proofs.YtnalafhepnfggaaDoor
