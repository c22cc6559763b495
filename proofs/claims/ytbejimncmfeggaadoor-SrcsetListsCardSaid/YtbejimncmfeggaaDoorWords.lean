/- The contracts of ascii.Words and the reference's, over this seat's program. -/
import Derived.Test.YtbejimncmfeggaaDoorAscii
namespace Go.Proofs.YtbejimncmfeggaaDoor
open Go.RowKit
set_option linter.unusedVariables false

/-- The longest pieces without a blank; cur: the piece that is being read. -/
def wordsGo (cur : List UInt8) : List UInt8 → List (List UInt8)
  | [] => if cur = [] then [] else [cur]
  | c :: r => if blankZ (c.toNat : Int) then (if cur = [] then wordsGo [] r else cur :: wordsGo [] r) else wordsGo (cur ++ [c]) r
def wordsL (l : List UInt8) : List (List UInt8) := wordsGo [] l

theorem tyS : ElemTy Tryd.prog 22 9 (.string ByteArray.empty) 16 := .mk' Tryd.underlying22 (by kernel_rfl) rfl

/-- What is told at the head of a round: what has been gathered, and what is still to come. -/
def WordsAt (s : ByteArray) (l : List ByteArray) (b k : Nat) : Prop := l.map (·.toList) ++ wordsGo ((s.toList.take k).drop b) (s.toList.drop k) = wordsL s.toList
theorem cur_empty {s : ByteArray} {b k : Nat} (h : k ≤ b) : (s.toList.take k).drop b = [] := List.drop_of_length_le (by rw [List.length_take]; omega)
theorem cur_full {s : ByteArray} {b k : Nat} (h : b < k) (hk : k ≤ s.size) : ¬ (s.toList.take k).drop b = [] := by
  intro e; have := congrArg List.length e; simp [size_toList] at this; omega
theorem words_on {s : ByteArray} {l : List ByteArray} {b k : Nat} (hk : k < s.size) (hb : b ≤ k) (h : WordsAt s l b k) (hn : blankZ (s[k].toNat : Int) = false) : WordsAt s l b (k + 1) := by
  unfold WordsAt at h ⊢
  rw [drop_cons s k hk, wordsGo, hn] at h
  rw [take_snoc s k hk, List.drop_append_of_le_length (by rw [List.length_take, size_toList]; omega)]
  simpa using h
theorem words_gap {s : ByteArray} {l : List ByteArray} {b k : Nat} (hk : k < s.size) (hb : k ≤ b) (h : WordsAt s l b k) (hn : blankZ (s[k].toNat : Int) = true) : WordsAt s l (k + 1) (k + 1) := by
  unfold WordsAt at h ⊢
  rw [drop_cons s k hk, wordsGo, hn, cur_empty hb] at h
  rw [cur_empty (Nat.le_refl _)]
  simpa using h
theorem words_new {s : ByteArray} {l : List ByteArray} {b k : Nat} (hk : k < s.size) (hb : b < k) (h : WordsAt s l b k) (hn : blankZ (s[k].toNat : Int) = true) : WordsAt s (l ++ [s.extract b k]) (k + 1) (k + 1) := by
  unfold WordsAt at h ⊢
  rw [drop_cons s k hk, wordsGo, hn, if_pos rfl, if_neg (cur_full hb (by omega))] at h
  rw [cur_empty (Nat.le_refl _), ← h]
  simp [toList_extract]
theorem words_end {s : ByteArray} {l : List ByteArray} {b k : Nat} (hk : s.size ≤ k) (hb : k ≤ b) (h : WordsAt s l b k) : l.map (·.toList) = wordsL s.toList := by
  unfold WordsAt at h
  rw [drop_end s k hk, cur_empty hb] at h
  simpa [wordsGo] using h
theorem words_endgap {s : ByteArray} {l : List ByteArray} {b k : Nat} (hk : k = s.size) (hb : k ≤ b) (h : WordsAt s l b k) : WordsAt s l (k + 1) (k + 1) := by
  have := words_end (by omega) hb h
  unfold WordsAt
  rw [drop_end s (k + 1) (by omega), cur_empty (Nat.le_refl _), this]
  simp [wordsGo]
theorem words_endnew {s : ByteArray} {l : List ByteArray} {b k : Nat} (hk : k = s.size) (hb : b < k) (h : WordsAt s l b k) : WordsAt s (l ++ [s.extract b s.size]) (k + 1) (k + 1) := by
  unfold WordsAt at h ⊢
  rw [drop_end s k (by omega), wordsGo, if_neg (cur_full hb (by omega))] at h
  rw [drop_end s (k + 1) (by omega), cur_empty (Nat.le_refl _), ← h, hk]
  simp [wordsGo, toList_extract]

set_option maxHeartbeats 800000 in
theorem words_any (s : ByteArray) (w : World) (hs : s.size ≤ 1099511627776) :
    Calls Tryd.prog 21 #[.string s] w (RetW w 9 (wordsL s.toList)) := by
  go_enter Tryd.func21, Tryd.ntmps21
  go_wp2_with fail
  go_loopw [3, 4, 5] (fun v bg i wr => ∃ (k b : Nat) (l : List ByteArray), i = .int .i64 k ∧ k ≤ s.size + 1 ∧ b ≤ k ∧ (s.size < k → k ≤ b) ∧ bg = .int .i64 b ∧ Hid (WordsAt s l b k) ∧ l.length ≤ k ∧ OwnS wr w.heap.size 9 v l ∧ Below w.heap.size w wr) (fun _ _ i _ => s.size + 1 - (intOf i).toNat)
  case atStart => exact ⟨0, 0, [], rfl, by omega, Nat.zero_le _, fun _ => Nat.le_refl _, rfl, Lib.hid (by simp [WordsAt, wordsL]), Nat.zero_le _, OwnS.nil _ _ _, Below.refl _ _⟩
  case round =>
    obtain ⟨k, b, l, rfl, hk, hbk, hbe, rfl, hw, hll, hown, hbel⟩ := hrel
    have hsz := hbel.size
    by_cases hlt : k < s.size
    · obtain ⟨e1, n1⟩ := bne_of (show ¬ (k : Int) = (s.size : Int) by omega)
      have z1 : (k : Int) < (s.size : Int) := by omega
      cases hq : blankZ (s[k].toNat : Int)
      · go_wp2_with (first | (go_at_call 18; refine (blank_any _ _).mono ?_; rintro e w' ⟨rfl, rfl⟩) | (at_builtin; refine wpList_pushS tyS rfl _ _ rfl rfl rfl hown hbel hsz (by unfold maxLen; omega) (by omega) ?_; intro v' w' ho' hb' _))
        go_roundw
        case rel => exact ⟨k + 1, b, _, by go_num, by omega, by omega, fun _ => by omega, by go_num, Lib.hid (words_on hlt hbk hw.out hq), by omega, hown, hbel⟩
        case measure => simp [intOf]; omega
      by_cases hgt : k ≤ b
      · go_wp2_with (first | (go_at_call 18; refine (blank_any _ _).mono ?_; rintro e w' ⟨rfl, rfl⟩) | (at_builtin; refine wpList_pushS tyS rfl _ _ rfl rfl rfl hown hbel hsz (by unfold maxLen; omega) (by omega) ?_; intro v' w' ho' hb' _))
        go_roundw
        case rel => exact ⟨k + 1, k + 1, _, by go_num, by omega, by omega, fun _ => by omega, by go_num, Lib.hid (words_gap hlt hgt hw.out hq), by omega, hown, hbel⟩
        case measure => simp [intOf]; omega
      · have hgt : b < k := by omega
        go_wp2_with (first | (go_at_call 18; refine (blank_any _ _).mono ?_; rintro e w' ⟨rfl, rfl⟩) | (at_builtin; refine wpList_pushS tyS rfl _ _ rfl rfl rfl hown hbel hsz (by unfold maxLen; omega) (by omega) ?_; intro v' w' ho' hb' _))
        go_roundw
        case rel => exact ⟨k + 1, k + 1, _, by go_num, by omega, by omega, fun _ => by omega, by go_num, Lib.hid (words_new hlt hgt hw.out hq), by simp; omega, ho', hb'⟩
        case measure => simp [intOf]; omega
    by_cases hEq : k = s.size
    · obtain ⟨e1, n1⟩ := beq_of (show (k : Int) = (s.size : Int) by omega)
      have hEq := Lib.hid hEq
      by_cases hgt : k ≤ b
      · go_wp2_with (first | (go_at_call 18; refine (blank_any _ _).mono ?_; rintro e w' ⟨rfl, rfl⟩) | (at_builtin; refine wpList_pushS tyS rfl _ _ rfl rfl rfl hown hbel hsz (by unfold maxLen; omega) (by omega) ?_; intro v' w' ho' hb' _))
        go_roundw
        case rel => exact ⟨k + 1, k + 1, _, by go_num, by omega, by omega, fun _ => by omega, by go_num, Lib.hid (words_endgap hEq.out hgt hw.out), by omega, hown, hbel⟩
        case measure => simp [intOf]; omega
      · have hgt : b < k := by omega
        have z2 : s.size ≤ k := by omega
        have z3 : k ≤ s.size := by have := hEq.out; omega
        go_wp2_with (first | (go_at_call 18; refine (blank_any _ _).mono ?_; rintro e w' ⟨rfl, rfl⟩) | (at_builtin; refine wpList_pushS tyS rfl _ _ rfl rfl rfl hown hbel hsz (by unfold maxLen; omega) (by omega) ?_; intro v' w' ho' hb' _))
        go_roundw
        case rel => exact ⟨k + 1, k + 1, _, by go_num, by omega, by omega, fun _ => by omega, by go_num, Lib.hid (words_endnew hEq.out hgt hw.out), by simp; omega, ho', hb'⟩
        case measure => simp [intOf]; omega
    · have hfin : Hid (l.map (·.toList) = wordsL s.toList) := Lib.hid (words_end (by omega) (hbe (by omega)) hw.out)
      go_wp2_with (first | (go_at_call 18; refine (blank_any _ _).mono ?_; rintro e w' ⟨rfl, rfl⟩) | (at_builtin; refine wpList_pushS tyS rfl _ _ rfl rfl rfl hown hbel hsz (by unfold maxLen; omega) (by omega) ?_; intro v' w' ho' hb' _))
      go_ret
      exact ⟨_, l, rfl, hfin, hown, hbel⟩

end Go.Proofs.YtbejimncmfeggaaDoor
