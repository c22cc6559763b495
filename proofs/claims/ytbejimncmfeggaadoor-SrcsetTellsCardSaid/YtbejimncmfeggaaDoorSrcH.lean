/- The reference's alike, One and Same, at candidates that are the same. -/
import Derived.Test.YtbejimncmfeggaaDoorSrcG
import Derived.Test.YtbejimncmfeggaaDoorSame
import Derived.Test.YtbejimncmfeggaaDoorNumE
namespace Go.Proofs.YtbejimncmfeggaaDoor
open Go.RowKit
set_option linter.unusedVariables false
set_option linter.unusedSimpArgs false

theorem noNaN_toldC {l : List UInt8} : NoNaN (((floatP l).map floatW).getD 0) := by
  cases h : floatP l with
  | none => exact .inl ⟨_, _, _, (by decide : Ieee.double.read 0 = .number false 0 (-1074))⟩
  | some x =>
    obtain ⟨neg, n, k⟩ := x
    have hb : n < 10 ^ 15 ∧ -22 ≤ k ∧ k ≤ 22 := by
      have key : ∀ r, floatQ r = some (n, k) → n < 10 ^ 15 ∧ -22 ≤ k ∧ k ≤ 22 := by
        intro r hr
        rw [← refQ_eq] at hr
        have fin : ∀ all f q, finR all f q = some (n, k) → n < 10 ^ 15 ∧ -22 ≤ k ∧ k ≤ 22 := by
          intro all f q hf
          unfold finR at hf
          split at hf
          · cases hf
          · rename_i m hm
            split at hf
            · cases hf
            · rename_i e he
              split at hf
              · cases hf
              · rename_i hc
                have h2 := Option.some.inj hf
                have e1 : m = n := congrArg Prod.fst h2
                have e2 : e - f = k := congrArg Prod.snd h2
                subst e1; subst e2
                refine ⟨Nat.lt_of_lt_of_le (digs1_le hm) (Nat.pow_le_pow_right (by decide) ?_), ?_, ?_⟩ <;> omega
        unfold refQ at hr
        split at hr
        · exact fin _ _ _ hr
        · split at hr
          · split at hr
            · cases hr
            · exact fin _ _ _ hr
          · exact fin _ _ _ hr
      unfold floatP at h
      split at h
      all_goals
        rw [Option.map_eq_some_iff] at h
        obtain ⟨y, hy, he⟩ := h
        have : y = (n, k) := congrArg Prod.snd he
        subst this
        exact key _ hy
    exact noNaN_floatW (Nat.lt_trans hb.1 (by decide)) hb.2.1 hb.2.2
set_option maxRecDepth 100000 in
set_option maxHeartbeats 1000000 in
theorem alikeC_same (a : Nat) (w : World) (h : NoNaN a) :
    Calls Tryd.prog 27 #[.float .f64 a, .float .f64 a] w (fun e w' => e = .returned (.bool true) ∧ w = w') := by
  have o1 := order_same h
  obtain ⟨r, hr, hn⟩ := one_by h
  have o2 := order_same hn
  have hq : ∀ w t, (binOp .quo t (.float .f64 4607182418800017408) (.float .f64 a)).run Tryd.prog w = .ok (.float .f64 r) w := fun w t => run_float_arith w .quo t .f64 _ _ _ hr
  replace hr := Lib.hid hr
  replace h := Lib.hid h
  replace hn := Lib.hid hn
  go_enter Tryd.func27, Tryd.ntmps27
  go_wp2_with fail
  all_goals
    go_ret
    exact ⟨rfl, rfl⟩

theorem noNaN_zero : NoNaN 0 := .inl ⟨_, _, _, (by decide : Ieee.double.read 0 = .number false 0 (-1074))⟩
theorem takeS_nan {st st' : DSt} {t : List UInt8} (h : takeS st t = some st') (hn : NoNaN st.d) : NoNaN st'.d := by
  unfold takeS at h
  cases hl : t.getLast? with
  | none => rw [hl] at h; cases h
  | some d =>
    rw [hl] at h
    unfold takeC at h
    dsimp only at h
    split at h
    · split at h
      · cases h; exact hn
      · cases h
    · split at h
      · split at h
        · cases h; exact hn
        · cases h
      · split at h
        · split at h
          · cases h; exact noNaN_toldC
          · cases h
        · cases h
theorem takeAll_nan : ∀ (ws : List (List UInt8)) (st : DSt) {st' : DSt}, takeAll st ws = some st' → NoNaN st.d → NoNaN st'.d := by
  intro ws
  induction ws with
  | nil => intro st st' h hn; cases h; exact hn
  | cons a r ih =>
    intro st st' h hn
    unfold takeAll at h
    cases ha : takeS st a with
    | none => rw [ha] at h; cases h
    | some s2 => rw [ha] at h; exact ih s2 h (takeS_nan ha hn)
theorem descL_nan {ws : List (List UInt8)} {st : DSt} (h : descL ws = some st) : NoNaN st.d := by
  unfold descL at h
  cases ha : takeAll d0 ws with
  | none => rw [ha] at h; cases h
  | some s2 =>
    rw [ha] at h
    dsimp only [Option.bind] at h
    split at h
    · cases h
    · cases h; exact takeAll_nan ws d0 ha noNaN_zero
theorem map_inj {l m : List ByteArray} (h : l.map (·.toList) = m.map (·.toList)) : l = m := by
  induction l generalizing m with
  | nil => cases m with
    | nil => rfl
    | cons a r => cases h
  | cons a r ih => cases m with
    | nil => cases h
    | cons b q =>
      rw [List.map_cons, List.map_cons, List.cons.injEq] at h
      rw [eq_of_toList h.1, ih h.2]
theorem candIs_inj {c d : HCand} (h : candIs c = candIs d) : c.url = d.url ∧ c.ws = d.ws ∧ c.st = d.st := by
  unfold candIs at h
  rw [Cand.mk.injEq] at h
  exact ⟨eq_of_toList h.1, map_inj h.2.1, h.2.2⟩
/-- The value is a row that reads as these candidates. -/
def ReadC (w : World) (v : Value) (l : List HCand) : Prop :=
  ∃ pa c, v = .slice pa l.length c ∧ (0 < l.length → ∃ g o, pa = some ⟨g, o, none⟩ ∧ ∀ i (h : i < l.length), w.rangeAt g (o + i * 8) (cellsH l[i])) ∧ ∀ c ∈ l, ReadS w c.wv c.ws
theorem rangeAt_below {w w' : World} {g o K : Nat} {cs : List Value} (h : w.rangeAt g o cs) (hb : Below K w w') (hK : w.heap.size ≤ K) : w'.rangeAt g o cs := fun j v hv => by
  have := h j v hv
  have hl := World.block_lt_of_cell? w _ this
  exact (hb.cell (by simp at hl ⊢; omega)).trans this
theorem ReadC.below {w w' : World} {K : Nat} {v : Value} {l : List HCand} (h : ReadC w v l) (hb : Below K w w') (hK : w.heap.size ≤ K) : ReadC w' v l := by
  obtain ⟨pa, c, rfl, h1, h2⟩ := h
  refine ⟨pa, c, rfl, fun h0 => ?_, fun c hc => (h2 c hc).below hb hK⟩
  obtain ⟨g, o, rfl, hr⟩ := h1 h0
  exact ⟨g, o, rfl, fun i hi => rangeAt_below (hr i hi) hb hK⟩
theorem cellsH_len (c : HCand) : (cellsH c).length = 8 := rfl
theorem flat8 : ∀ (l : List HCand) (i : Nat) (h : i < l.length) (j : Nat), j < 8 → (l.flatMap cellsH)[i * 8 + j]? = (cellsH l[i])[j]?
  | [], i, h, j, hj => by simp at h
  | a :: r, 0, h, j, hj => by
    rw [List.flatMap_cons, Nat.zero_mul, Nat.zero_add, List.getElem?_append_left (by rw [cellsH_len]; exact hj)]; rfl
  | a :: r, i + 1, h, j, hj => by
    rw [List.flatMap_cons, List.getElem?_append_right (by rw [cellsH_len]; omega), cellsH_len, show (i + 1) * 8 + j - 8 = i * 8 + j by omega]
    exact flat8 r i (by simpa using h) j hj
theorem OwnC.read {w : World} {B : Nat} {v : Value} {l : List HCand} (h : OwnC w B v l) : ReadC w v l := by
  obtain ⟨hr, hw⟩ := h
  have hr2 := hr
  rcases hr.2 with ⟨rfl, hn⟩ | ⟨g, cap, cur, rfl, hg, hh, hcap, hml, hcs, hcur⟩
  · exact ⟨none, 0, by rw [hn], fun h0 => by omega, fun c hc => (hw c hc).read⟩
  · refine ⟨_, cap, rfl, fun _ => ⟨g, 0, rfl, fun i hi j v hv => ?_⟩, fun c hc => (hw c hc).read⟩
    have hj : j < 8 := by
      have := (List.getElem?_eq_some_iff.1 hv).1
      rwa [cellsH_len] at this
    have hlt : i * 8 + j < l.length * 8 := by omega
    rw [Nat.zero_add]
    have := World.ownsRow.cellAt hr2 (i * 8 + j) hlt
    rw [this, ← hv, ← flat8 l i hi j hj]
set_option maxRecDepth 100000 in
set_option maxHeartbeats 4000000 in
theorem one_yes (u : ByteArray) (v1 v2 : Value) (ws : List ByteArray) (st : DSt) (w : World) (h1 : ReadS w v1 ws) (h2 : ReadS w v2 ws) (hl : ws.length ≤ 1000000) (hn : NoNaN st.d) :
    Calls Tryd.prog 13 #[.agg (candC u v1 st), .agg (candC u v2 st)] w (RetB w true) := by
  have hs := fun w' (hb : Below w.heap.size w w') => same_any v1 v2 ws ws w' (h1.below hb (Nat.le_refl _)) (h2.below hb (Nat.le_refl _)) (by unfold maxLen; omega) (by unfold maxLen; omega)
  rw [show sameB ws ws = true from by unfold sameB; simp] at hs
  obtain ⟨p1, c1, rfl, -⟩ := h1
  obtain ⟨p2, c2, rfl, -⟩ := h2
  have hal := Lib.hid (fun w => alikeC_same st.d w hn)
  replace hs := Lib.hid hs
  replace hn := Lib.hid hn
  unfold candC
  obtain ⟨hw, sw, hh, sh, hd, sd⟩ := st
  dsimp only at hal ⊢
  go_enter Tryd.func13, Tryd.ntmps13
  go_wp2_with (go_at_call 14; refine (hs.out _ (((Below.refl _ _).alloc (Nat.le_refl _) _).alloc (by simp) _)).mono ?_; rintro e w' ⟨rfl, hb⟩; have hb2 := Lib.hid ((((Below.refl w.heap.size w).alloc (Nat.le_refl _) _).alloc (by simp) _).next hb); obtain ⟨E, d, rfl⟩ := hb.ext; clear hb)
  refine (hal.out _).mono ?_
  rintro e w3 ⟨rfl, rfl⟩
  go_wp2_with fail
  go_ret
  exact ⟨rfl, hb2.out⟩
end Go.Proofs.YtbejimncmfeggaaDoor
