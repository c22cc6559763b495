/- srcset.Split, and the reference's Same, in the words that the laws of srcset use. -/
import Derived.Test.YtbejimncmfeggaaDoorSrcK
namespace Go.Proofs.YtbejimncmfeggaaDoor
open Go.RowKit
set_option linter.unusedVariables false
set_option linter.unusedSimpArgs false

/-- A slice that reads as candidates L. -/
structure SplitAt (w : World) (pa : Option Addr) (n c : Nat) (l : List HCand) (L : List Cand) : Prop where
  read : ReadC w (.slice pa n c) l
  len : l.length = n
  list : l.map candIs = L
  nan : ∀ c ∈ l, NoNaN c.st.d
  ws : ∀ c ∈ l, c.ws.length ≤ 1000000
  small : n ≤ 1000000
  sz : ∀ c ∈ l, ∀ x ∈ c.ws, x.size ≤ 1000000
  uz : ∀ c ∈ l, c.url.size ≤ 1000000
theorem SplitAt.below {w w' : World} {pa : Option Addr} {n c K : Nat} {l : List HCand} {L : List Cand} (h : SplitAt w pa n c l L) (hb : Below K w w') (hK : w.heap.size ≤ K) : SplitAt w' pa n c l L :=
  ⟨h.read.below hb hK, h.len, h.list, h.nan, h.ws, h.small, h.sz, h.uz⟩
theorem split_at (s : ByteArray) (w : World) (hz : s.size ≤ 900000) :
    Calls Tryd.prog 16 #[.string s] w fun e w' => ∃ pa n c l, e = .returned (.slice pa n c) ∧ SplitAt w' pa n c l (splL s.toList) ∧ Below w.heap.size w w' := by
  refine (splitC_any s w hz).mono ?_
  rintro e w' ⟨v, l, rfl, hl, hlz, hsz, ho, hb⟩
  have hr := ho.read
  obtain ⟨pa, c, rfl, h2⟩ := ho.read
  exact ⟨pa, l.length, c, l, rfl, ⟨hr, rfl, hl.out, rows_nan hl.out, fun c hc => (hsz c hc).2.2, by omega, fun c hc => (hsz c hc).2.1, fun c hc => by have := (hsz c hc).1; omega⟩, hb⟩
theorem same_at {w : World} {pa pb : Option Addr} {n m c d : Nat} {l k : List HCand} {L : List Cand} (h1 : SplitAt w pa n c l L) (h2 : SplitAt w pb m d k L) :
    Calls Tryd.prog 15 #[.slice pa n c, .slice pb m d] w (RetB w true) :=
  same_yes _ _ l k w h1.read h2.read (h1.list.trans h2.list.symm) h1.nan h1.ws (by rw [h1.len]; exact h1.small)
theorem SplitAt.none {w : World} {pa : Option Addr} {n c : Nat} {l : List HCand} (h : SplitAt w pa n c l []) : n = 0 := by
  rw [← h.len, List.map_eq_nil_iff.1 h.list]; rfl
end Go.Proofs.YtbejimncmfeggaaDoor
