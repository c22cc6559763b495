/- The contracts of ascii.Words and the reference's, over this seat's program. -/
import Derived.Test.YtdlgpmihjecdlaaDoorAscii
namespace Go.Proofs.YtdlgpmihjecdlaaDoor
open Go.RowKit
set_option linter.unusedVariables false

/-- The longest pieces without a blank; cur: the piece that is being read. -/
def wordsGo (cur : List UInt8) : List UInt8 → List (List UInt8)
  | [] => if cur = [] then [] else [cur]
  | c :: r => if blankZ (c.toNat : Int) then (if cur = [] then wordsGo [] r else cur :: wordsGo [] r) else wordsGo (cur ++ [c]) r
def wordsL (l : List UInt8) : List (List UInt8) := wordsGo [] l

theorem tyS : ElemTy Tryd.prog 27 9 (.string ByteArray.empty) 16 := .mk' Tryd.underlying27 (by kernel_rfl) rfl

/-- What is told at the head of a round: what has been gathered, and what is still to come. -/
def WordsAt (s : ByteArray) (l : List ByteArray) (b k : Nat) : Prop := l.map (·.toList) ++ wordsGo ((s.toList.take k).drop b) (s.toList.drop k) = wordsL s.toList
theorem cur_empty {s : ByteArray} {b k : Nat} (h : k ≤ b) : (s.toList.take k).drop b = [] := List.drop_of_length_le (by rw [List.length_take]; omega)
theorem cur_full {s : ByteArray} {b k : Nat} (h : b < k) (hk : k ≤ s.size) : ¬ (s.toList.take k).drop b = [] := by
  intro e; have := congrArg List.length e; simp [size_toList] at this; omega
theorem words_on {s : ByteArray} {l : List ByteArray} {b k : Nat} (hk : k < s.size) (hb : b ≤ k) (h : WordsAt s l b k) (hn : blankZ (s[k].toNat : Int) = false) : WordsAt s l b (k + 1) := by
  unfold WordsAt at h ⊢
  rw [drop_cons s k hk, wordsGo, hn] at h
  rw [take_snoc s k hk, List.drop_append_of_le_length (by rw [List.length_take, size_toList]; omega)]
  simpa using h
theorem words_gap {s : ByteArray} {l : List ByteArray} {b k : Nat} (hk : k < s.size) (hb : k ≤ b) (h : WordsAt s l b k) (hn : blankZ (s[k].toNat : Int) = true) : WordsAt s l (k + 1) (k + 1) := by
  unfold WordsAt at h ⊢
  rw [drop_cons s k hk, wordsGo, hn, cur_empty hb] at h
  rw [cur_empty (Nat.le_refl _)]
  simpa using h
theorem words_new {s : ByteArray} {l : List ByteArray} {b k : Nat} (hk : k < s.size) (hb : b < k) (h : WordsAt s l b k) (hn : blankZ (s[k].toNat : Int) = true) : WordsAt s (l ++ [s.extract b k]) (k + 1) (k + 1) := by
  unfold WordsAt at h ⊢
  rw [drop_cons s k hk, wordsGo, hn, if_pos rfl, if_neg (cur_full hb (by omega))] at h
  rw [cur_empty (Nat.le_refl _), ← h]
  simp [toList_extract]
theorem words_end {s : ByteArray} {l : List ByteArray} {b k : Nat} (hk : s.size ≤ k) (hb : k ≤ b) (h : WordsAt s l b k) : l.map (·.toList) = wordsL s.toList := by
  unfold WordsAt at h
  rw [drop_end s k hk, cur_empty hb] at h
  simpa [wordsGo] using h
theorem words_endgap {s : ByteArray} {l : List ByteArray} {b k : Nat} (hk : k = s.size) (hb : k ≤ b) (h : WordsAt s l b k) : WordsAt s l (k + 1) (k + 1) := by
  have := words_end (by omega) hb h
  unfold WordsAt
  rw [drop_end s (k + 1) (by omega), cur_empty (Nat.le_refl _), this]
  simp [wordsGo]
theorem words_endnew {s : ByteArray} {l : List ByteArray} {b k : Nat} (hk : k = s.size) (hb : b < k) (h : WordsAt s l b k) : WordsAt s (l ++ [s.extract b s.size]) (k + 1) (k + 1) := by
  unfold WordsAt at h ⊢
  rw [drop_end s k (by omega), wordsGo, if_neg (cur_full hb (by omega))] at h
  rw [drop_end s (k + 1) (by omega), cur_empty (Nat.le_refl _), ← h, hk]
  simp [wordsGo, toList_extract]

end Go.Proofs.YtdlgpmihjecdlaaDoor
