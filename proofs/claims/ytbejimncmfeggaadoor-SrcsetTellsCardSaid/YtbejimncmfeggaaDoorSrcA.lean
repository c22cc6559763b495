/- The closures of package srcset: what may turn behind a call; skip. -/
import Derived.Test.YtbejimncmfeggaaDoorTrim
import Derived.Deep.LoopGhost
namespace Go.Proofs.YtbejimncmfeggaaDoor
open Go.RowKit
set_option linter.unusedVariables false
set_option linter.unusedSimpArgs false

/-- Nothing that was there has turned but the blocks of G. -/
structure Chg (G : Nat → Prop) (w w' : World) : Prop where
  os : w'.os = w.os
  tape : w'.tape = w.tape
  output : w'.output = w.output
  size : w.heap.size ≤ w'.heap.size
  block : ∀ k, k < w.heap.size → ¬ G k → w'.heap[k]? = w.heap[k]?
theorem Chg.refl (G : Nat → Prop) (w : World) : Chg G w w := ⟨rfl, rfl, rfl, Nat.le_refl _, fun _ _ _ => rfl⟩
theorem Chg.trans {G : Nat → Prop} {a b c : World} (h : Chg G a b) (k : Chg G b c) : Chg G a c :=
  ⟨k.os.trans h.os, k.tape.trans h.tape, k.output.trans h.output, Nat.le_trans h.size k.size, fun i hi hg => (k.block i (Nat.lt_of_lt_of_le hi h.size) hg).trans (h.block i hi hg)⟩
theorem Chg.mono {G G' : Nat → Prop} {a b : World} (h : Chg G a b) (hg : ∀ k, G k → G' k) : Chg G' a b := ⟨h.os, h.tape, h.output, h.size, fun k hk hn => h.block k hk (fun x => hn (hg k x))⟩
theorem Chg.of {G : Nat → Prop} {a b : World} (h : Below a.heap.size a b) : Chg G a b := ⟨h.os, h.tape, h.output, h.size, fun k hk _ => h.block k hk⟩
theorem Chg.below {G : Nat → Prop} {a b : World} (h : Chg G a b) {B : Nat} (hB : B ≤ a.heap.size) (hG : ∀ k, G k → B ≤ k) : Below B a b :=
  ⟨h.os, h.tape, h.output, h.size, fun k hk => h.block k (by omega) (fun x => by have := hG k x; omega)⟩
theorem Chg.set {G : Nat → Prop} {a b : World} (h : Chg G a b) {g : Nat} (hg : G g) (i : Nat) (v : Value) : Chg G a (b.setCell ⟨g, i, none⟩ v) :=
  h.trans ⟨rfl, rfl, rfl, by simp [World.setCell], fun k hk hn => Below.heap_setCell _ _ _ _ (fun e => hn (by rw [e]; exact hg))⟩
/-- As long as it is said so. -/
def runL {σ : Type} (step : σ → UInt8 → Bool × σ) : σ → List UInt8 → List UInt8 × List UInt8 × σ
  | st, [] => ([], [], st)
  | st, c :: r => if (step st c).1 = true then (c :: (runL step (step st c).2 r).1, (runL step (step st c).2 r).2.1, (runL step (step st c).2 r).2.2) else ([], c :: r, (step st c).2)
theorem runL_yes {σ : Type} {step : σ → UInt8 → Bool × σ} {st : σ} {c : UInt8} {r : List UInt8} (h : (step st c).1 = true) : runL step st (c :: r) = (c :: (runL step (step st c).2 r).1, (runL step (step st c).2 r).2) := by rw [runL, if_pos h]
theorem runL_no {σ : Type} {step : σ → UInt8 → Bool × σ} {st : σ} {c : UInt8} {r : List UInt8} (h : (step st c).1 = false) : runL step st (c :: r) = ([], c :: r, (step st c).2) := by rw [runL, if_neg (by rw [h]; decide)]
theorem set_blockA {w : World} {g i : Nat} {cs : Array Value} {T : TypeId} {v : Value} (h : w.heap[g]? = some (.cells cs T (0, 0))) : (w.setCell ⟨g, i, none⟩ v).heap[g]? = some (.cells (cs.setIfInBounds i v) T (0, 0)) := by
  simp only [World.setCell, Array.getElem?_modify, if_true, h]; rfl
/-- A variable that a closure has captured. -/
def BoxI (w : World) (g : Nat) (n : Nat) : Prop := w.heap[g]? = some (.cells #[.int .i64 (n : Int)] 3 (0, 0))
def BoxS (w : World) (g : Nat) (s : ByteArray) : Prop := w.heap[g]? = some (.cells #[.string s] 9 (0, 0))
/-- What skip hands back: the piece, read on as long as it is said so. -/
def RetSkip {σ : Type} (step : σ → UInt8 → Bool × σ) (R : σ → World → Prop) (Ga : Nat → Prop) (ga gs : Nat) (s : ByteArray) (st : σ) (k : Nat) (w : World) (e : Ending) (w' : World) : Prop :=
  ∃ t : ByteArray, e = .returned (.string t) ∧ Hid (t.toList = (runL step st (s.toList.drop k)).1) ∧ k + t.size ≤ s.size ∧ BoxI w' ga (k + t.size) ∧ BoxS w' gs s ∧ R (runL step st (s.toList.drop k)).2.2 w' ∧ Chg (fun i => i = ga ∨ Ga i) w w'
set_option maxRecDepth 100000 in
set_option maxHeartbeats 1000000 in
theorem skip_any {σ : Type} (f : Nat) (cap : Array Value) (step : σ → UInt8 → Bool × σ) (R : σ → World → Prop) (Ga : Nat → Prop) (ga gs : Nat) (s : ByteArray)
    (hask : ∀ (st : σ) (c : UInt8) (w : World), R st w → Calls Tryd.prog f (#[.int .u8 (c.toNat : Int)] ++ cap) w fun e w' => e = .returned (.bool (step st c).1) ∧ R (step st c).2 w' ∧ Chg Ga w w')
    (hcf : ∀ args w, (callFunc f args).run Tryd.prog w = .ok (.enter f args) w)
    (hRs : ∀ (st : σ) (w : World) (v : Value), R st w → R st (w.setCell ⟨ga, 0, none⟩ v)) (hga : ¬ Ga ga) (hgs : ¬ Ga gs) (hne : ga ≠ gs) (hsz : s.size ≤ 1099511627776)
    (st : σ) (k : Nat) (w : World) (hR : R st w) (ha : BoxI w ga k) (hs : BoxS w gs s) (hk : k ≤ s.size) :
    Calls Tryd.prog 28 #[.func (.func f) #[] cap, .pointer (some ⟨ga, 0, none⟩), .pointer (some ⟨gs, 0, none⟩)] w (RetSkip step R Ga ga gs s st k w) := by
  have hq := Lib.hid hask
  have hRs' := Lib.hid hRs
  clear hask hRs
  have xa := cell_of_row _ _ 0 _ _ _ ha
  have xs := cell_of_row _ _ 0 _ _ _ hs
  simp only [List.getElem?_toArray, List.getElem?_cons_zero] at xa xs
  go_enter Tryd.func28, Tryd.ntmps28
  go_wp2_with fail
  go_loopg [] (s.size - k) (fun g wr => ∃ (j : Nat) (st' : σ), g = s.size - j ∧ k ≤ j ∧ j ≤ s.size ∧ Hid (runL step st (s.toList.drop k) = ((s.toList.take j).drop k ++ (runL step st' (s.toList.drop j)).1, (runL step st' (s.toList.drop j)).2)) ∧ BoxI wr ga j ∧ BoxS wr gs s ∧ R st' wr ∧ Chg (fun i => i = ga ∨ Ga i) w wr)
  case atStart => exact ⟨k, st, rfl, Nat.le_refl _, hk, Lib.hid (by rw [show (s.toList.take k).drop k = [] from List.drop_eq_nil_of_le (by rw [List.length_take]; omega), List.nil_append]), ha, hs, hR, Chg.refl _ _⟩
  case round =>
    clear xa xs ha hs hR
    obtain ⟨j, st', hgk, hkj, hj, hrun, hba, hbs, hR, hC⟩ := hrel
    have xa := cell_of_row _ _ 0 _ _ _ hba
    have xs := cell_of_row _ _ 0 _ _ _ hbs
    simp only [List.getElem?_toArray, List.getElem?_cons_zero] at xa xs
    have ls : gs < wr.heap.size := (Array.getElem?_eq_some_iff.1 hbs).1
    have la : ga < wr.heap.size := (Array.getElem?_eq_some_iff.1 hba).1
    replace hgk := Lib.hid hgk
    replace hba := Lib.hid hba
    replace hbs := Lib.hid hbs
    replace hR := Lib.hid hR
    by_cases hlt : j < s.size
    · have hltI : (j : Int) < (s.size : Int) := by omega
      have hask := hq.out st' s[j] wr hR.out
      have hdr := drop_cons s j hlt
      have hsn := take_snoc s j hlt
      have hyes : (step st' s[j]).1 = true → Hid (runL step st (s.toList.drop k) = ((s.toList.take (j + 1)).drop k ++ (runL step (step st' s[j]).2 (s.toList.drop (j + 1))).1, (runL step (step st' s[j]).2 (s.toList.drop (j + 1))).2)) := fun h => Lib.hid (by
        rw [hrun.out, hdr, hsn, List.drop_append_of_le_length (by rw [List.length_take, size_toList]; omega), runL_yes h, List.append_assoc]
        rfl)
      have hno : (step st' s[j]).1 = false → Hid ((s.extract k j).toList = (runL step st (s.toList.drop k)).1 ∧ (step st' s[j]).2 = (runL step st (s.toList.drop k)).2.2) := fun h => Lib.hid (by
        rw [hrun.out, hdr, runL_no h, toList_extract]
        exact ⟨(List.append_nil _).symm, rfl⟩)
      have hz : (s.extract k j).size = j - k := by rw [ByteArray.size_extract]; omega
      replace hdr := Lib.hid hdr
      replace hsn := Lib.hid hsn
      replace hz := Lib.hid hz
      replace hyes := Lib.hid hyes
      replace hno := Lib.hid hno
      replace hrun := Lib.hid hrun
      obtain ⟨r, hr⟩ : ∃ r, step st' s[j] = r := ⟨_, rfl⟩
      rw [hr] at hask hyes hno
      replace hr := Lib.hid hr
      obtain ⟨b, st2⟩ := r
      cases b
      · have hn := hno.out rfl
        replace hask := Lib.hid hask
        go_wp2_with fail
        refine hask.out.mono ?_
        rintro e w2 ⟨rfl, hR2, hC2⟩
        have hba2 : BoxI w2 ga j := (hC2.block _ la hga).trans hba.out
        have hbs2 : BoxS w2 gs s := (hC2.block _ ls hgs).trans hbs.out
        have xa := cell_of_row _ _ 0 _ _ _ hba2
        have xs := cell_of_row _ _ 0 _ _ _ hbs2
        simp only [List.getElem?_toArray, List.getElem?_cons_zero] at xa xs
        replace hba2 := Lib.hid hba2
        replace hbs2 := Lib.hid hbs2
        have hC3 := hC.trans (hC2.mono (fun i h => Or.inr h))
        clear hC hC2
        replace hR2 := Lib.hid hR2
        have hkjI : (k : Int) ≤ (j : Int) := by omega
        have hjI : (j : Int) ≤ (s.size : Int) := by omega
        go_wp2_with fail
        go_ret
        exact ⟨_, rfl, Lib.hid hn.out.1, by have := hz.out; omega, (by rw [hz.out, show k + (j - k) = j by omega]; exact hba2.out), hbs2.out, (by rw [← hn.out.2]; exact hR2.out), hC3⟩
      · have hn := hyes.out rfl
        replace hask := Lib.hid hask
        go_wp2_with fail
        refine hask.out.mono ?_
        rintro e w2 ⟨rfl, hR2, hC2⟩
        have hba2 : BoxI w2 ga j := (hC2.block _ la hga).trans hba.out
        have hbs2 : BoxS w2 gs s := (hC2.block _ ls hgs).trans hbs.out
        have xa := cell_of_row _ _ 0 _ _ _ hba2
        have xs := cell_of_row _ _ 0 _ _ _ hbs2
        have fa := frozen_of_row _ _ 0 _ _ hba2
        simp only [List.getElem?_toArray, List.getElem?_cons_zero] at xa xs
        have hbn : BoxI (w2.setCell ⟨ga, 0, none⟩ (.int .i64 ((j + 1 : Nat) : Int))) ga (j + 1) := by
          unfold BoxI
          rw [set_blockA hba2]; rfl
        have hsn2 : BoxS (w2.setCell ⟨ga, 0, none⟩ (.int .i64 ((j + 1 : Nat) : Int))) gs s := (Below.heap_setCell _ _ _ _ (fun e => hne e.symm)).trans hbs2
        have hRn := hRs'.out _ w2 (.int .i64 ((j + 1 : Nat) : Int)) hR2
        have hC3 := (hC.trans (hC2.mono (fun i h => Or.inr h))).set (g := ga) (Or.inl rfl) 0 (.int .i64 ((j + 1 : Nat) : Int))
        have ej : ((j + 1 : Nat) : Int) = (j : Int) + 1 := by omega
        rw [ej] at hbn hsn2 hRn hC3
        replace hba2 := Lib.hid hba2
        replace hbs2 := Lib.hid hbs2
        replace hR2 := Lib.hid hR2
        replace ej := Lib.hid ej
        replace hbn := Lib.hid hbn
        replace hsn2 := Lib.hid hsn2
        replace hRn := Lib.hid hRn
        replace hC3 := Lib.hid hC3
        clear hC hC2
        go_wp2_with fail
        go_roundg (s.size - (j + 1))
        case measure => have := hgk.out; omega
        case rel => exact ⟨j + 1, st2, rfl, by omega, by omega, hn, hbn.out, hsn2.out, hRn.out, hC3.out⟩
    · have hgeI : (s.size : Int) ≤ (j : Int) := by omega
      obtain rfl : j = s.size := by omega
      have hz : (s.extract k s.size).size = s.size - k := by rw [ByteArray.size_extract]; omega
      have hn : Hid ((s.extract k s.size).toList = (runL step st (s.toList.drop k)).1 ∧ st' = (runL step st (s.toList.drop k)).2.2) := Lib.hid (by
        rw [hrun.out, drop_end s s.size (Nat.le_refl _), toList_extract]
        exact ⟨(List.append_nil _).symm, rfl⟩)
      replace hz := Lib.hid hz
      replace hrun := Lib.hid hrun
      have hkjI : (k : Int) ≤ (s.size : Int) := by omega
      go_wp2_with fail
      go_ret
      exact ⟨_, rfl, Lib.hid hn.out.1, by have := hz.out; omega, (by rw [hz.out, show k + (s.size - k) = s.size by omega]; exact hba.out), hbs.out, (by rw [← hn.out.2]; exact hR.out), hC⟩
end Go.Proofs.YtbejimncmfeggaaDoor
