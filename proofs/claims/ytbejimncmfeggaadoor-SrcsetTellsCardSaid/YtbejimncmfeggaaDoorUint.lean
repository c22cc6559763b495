/- strconv.AppendUint at base 10 and, below 65536, at base 16, onto bytes of the call's own. -/
import Derived.Test.YtbejimncmfeggaaDoorBase
import Derived.Test.YtbejimncmfeggaaDoorShelf
import Derived.Lib.LaidTab
import Derived.Lib.Builder
import Derived.Laws.BitsLemmas
namespace Go.Proofs.YtbejimncmfeggaaDoor
open Go.RowKit
set_option linter.unusedVariables false

theorem ownB_cells {w : World} {B : Nat} {E : TypeId} {v : Value} {l : List UInt8} : OwnB w B E v l ↔ w.ownsRow B E 1 v l.length (Lib.byteCells l) := by
  have : l.map byteV = Lib.byteCells l := rfl
  unfold OwnB; rw [this]

theorem owns_below {w w' : World} {B K size n : Nat} {E : TypeId} {v : Value} {xs : List Value} (h : w.ownsRow B E size v n xs) (hb : Below K w w') (hK : w.heap.size ≤ K) : w'.ownsRow B E size v n xs := by
  refine ⟨h.1, ?_⟩
  rcases h.2 with hn | ⟨g, cap, cur, rfl, hg, hh, rest⟩
  · exact .inl hn
  · exact .inr ⟨g, cap, cur, rfl, hg, by rw [hb.block g (by have := (Array.getElem?_eq_some_iff.1 hh).1; omega)]; exact hh, rest⟩
/-- A number of 64 bits. -/
def U64 (u : Nat) : Prop := u < 18446744073709551616
theorem uintInfo : (Tryd.prog.info? 5).map (fun i => (i.zero, i.size, i.bytes)) = some (some (.int .u8 0), 1, 1) := by kernel_rfl
/-- A digit of base 16. -/
def hexC (d : Nat) : UInt8 := UInt8.ofNat (if d < 10 then 48 + d else 87 + d)
/-- The digits of base 16, f at most. -/
def hexF : Nat → Nat → List UInt8
  | 0, _ => []
  | f + 1, n => if n < 16 then [hexC n] else hexF f (n / 16) ++ [hexC (n % 16)]
def hexL (n : Nat) : List UInt8 := hexF 4 n
theorem digits_at : ∀ d : Fin 16, (([48, 49, 50, 51, 52, 53, 54, 55, 56, 57, 97, 98, 99, 100, 101, 102] : List UInt8)[d.val]?) = some (hexC d.val) := by decide +kernel

theorem u64_wraps (n : Int) (h₀ : 0 ≤ n) (h₁ : n < 2 ^ 64) : IntKind.u64.wrap n = n := by
  simp [IntKind.wrap, IntKind.bits, IntKind.signed]; omega
theorem u64_and15 (x : Nat) (h : x < 65536) : bits .and .u64 (x : Int) 15 = (x : Int) % 16 := bits_mask .u64 64 (by decide) u64_wraps 4 (by decide) (x : Int) (by omega) (by omega)
theorem hexF_big {f n : Nat} (h : 16 ≤ n) : hexF (f + 1) n = hexF f (n / 16) ++ [hexC (n % 16)] := by rw [hexF, if_neg (by omega)]
theorem hexF_small {f n : Nat} (h : n < 16) : hexF (f + 1) n = [hexC n] := by rw [hexF, if_pos h]
def digs36 : ByteArray := ⟨#[48, 49, 50, 51, 52, 53, 54, 55, 56, 57, 97, 98, 99, 100, 101, 102, 103, 104, 105, 106, 107, 108, 109, 110, 111, 112, 113, 114, 115, 116, 117, 118, 119, 120, 121, 122]⟩
theorem digs36_at : ∀ d : Fin 16, digs36[d.val]'(by have := d.isLt; show d.val < 36; omega) = hexC d.val := by decide +kernel

end Go.Proofs.YtbejimncmfeggaaDoor
