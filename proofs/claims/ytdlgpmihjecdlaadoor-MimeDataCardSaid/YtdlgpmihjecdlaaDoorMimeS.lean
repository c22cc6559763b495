/- Plain: the type of data is that of its head; no program in sight. -/
import Derived.Test.YtdlgpmihjecdlaaDoorMimeR
namespace Go.Proofs.YtdlgpmihjecdlaaDoor
open Go.RowKit
set_option linter.unusedVariables false
set_option linter.unusedSimpArgs false

theorem dropZ_idem (p : Int → Bool) : ∀ l, dropZ p (dropZ p l) = dropZ p l
  | [] => rfl
  | c :: r => by
    cases h : p (c.toNat : Int)
    · rw [dropZ_no h, dropZ_no h]
    · rw [dropZ_yes h, dropZ_idem p r]
theorem dropZ_blank {l : List UInt8} (h : ∀ c ∈ l, c ≠ 12) : dropZ blankZ l = dropZ spZ l := by
  induction l with
  | nil => rfl
  | cons c r ih =>
    have hc : blankZ (c.toNat : Int) = spZ (c.toNat : Int) := by
      have hall : ∀ n : Fin 256, n.val ≠ 12 → blankZ ((UInt8.ofNat n.val).toNat : Int) = spZ ((UInt8.ofNat n.val).toNat : Int) := by decide +kernel
      have := hall ⟨c.toNat, c.toNat_lt⟩ (fun e => h c (by simp) (by rw [← UInt8.toNat_inj]; exact e))
      simpa using this
    cases hs : spZ (c.toNat : Int)
    · rw [dropZ_no hs, dropZ_no (hc.trans hs)]
    · rw [dropZ_yes hs, dropZ_yes (hc.trans hs), ih (fun x hx => h x (by simp [hx]))]
theorem typeL_ess {s : List UInt8} (h12 : ∀ c ∈ s, c ≠ 12) (h59 : ∀ c ∈ s, c ≠ 59) : typeL s = (essL s).getD plainL := by
  rw [typeL_eq]
  unfold stripL
  rw [blank_sp (fun c hc => h12 c (mem_dropZ hc)), nameL_rdrop, dropZ_blank h12]
  unfold nameL
  rw [if_neg (fun e => h59 59 (mem_dropZ (List.mem_of_head? e)) rfl), essL_left, dropZ_idem, ← essL_left]
theorem typeL_tab (s : List UInt8) : typeL (s ++ [9]) = typeL s := by
  rw [typeL_eq, typeL_eq, strip_comm, strip_comm, rdropZ_append, if_pos (by decide)]
theorem typeL_ahead (s : List UInt8) : typeL (32 :: s) = typeL s := by
  rw [typeL_eq, typeL_eq]
  unfold stripL
  rw [dropZ_yes (by decide)]
theorem typeL_long {s : List UInt8} (h12 : ∀ c ∈ s, c ≠ 12) : typeL (s ++ 59 :: [120, 61, 121, 32, 32, 59, 32, 32, 66, 97, 115, 101, 54, 52]) = typeL s := typeL_semi s _ h12 (by decide)
theorem typeL_round {s : List UInt8} (h12 : ∀ c ∈ s, c ≠ 12) : typeL ((32 :: s ++ [9]) ++ 59 :: [98, 97, 115, 101, 54, 52]) = typeL s := by
  rw [typeL_semi _ _ (by
    intro c hc
    rcases List.mem_append.1 hc with hc | hc
    · rcases List.mem_cons.1 hc with rfl | hc
      · decide
      · exact h12 c hc
    · rintro rfl; exact absurd hc (by decide)) (by decide), typeL_tab, typeL_ahead]
end Go.Proofs.YtdlgpmihjecdlaaDoor
