/- The walk of SrcsetTells. -/
import Derived.Test.YtbejimncmfeggaaDoorSrcU
import Derived.Test.YtbejimncmfeggaaDoorSrcL
import Derived.OpenShut
import Derived.ShutString
import Derived.ChangeOld
namespace Go.Proofs.YtbejimncmfeggaaDoor
open Go.RowKit
set_option linter.unusedVariables false
set_option linter.unusedSimpArgs false

section opener
open Go.ChangeShapes Go.WideShapes
set_option maxRecDepth 100000
theorem cellsSt : Tryd.prog.cellsOf 9 = 1 := by kernel_rfl
theorem listS_of {Q : Nat → ByteArray → Prop} {n : Nat} (h : ∀ i, i < n → ∃ s, Q i s) : ∃ l : List ByteArray, l.length = n ∧ ∀ i (hi : i < l.length), Q i l[i] := by
  refine ⟨(List.range n).map fun i => if hi : i < n then Classical.choose (h i hi) else ByteArray.empty, by simp, fun i hi => ?_⟩
  have hi2 : i < n := by simpa using hi
  simp only [List.getElem_map, List.getElem_range, hi2, dif_pos]
  exact Classical.choose_spec (h i hi2)
theorem cellS1 {w : World} {a : Addr} {v : Value} (h : w.cells? 0 a 1 = some [v]) : w.cell? a = some v := by
  have e := (World.cells?_some h).2.2 0 (by decide)
  have e0 : a.add 0 = a := by simp [Addr.add]
  rw [e0] at e
  simpa using e
theorem cellS_spot {w : World} {x : Addr} {v : Value} (h : w.cell? (x.add 0) = some v) : x = ⟨x.block, x.off, none⟩ := by
  have h : w.cell? x = some v := h
  obtain ⟨b, o, s⟩ := x
  cases s with
  | none => rfl
  | some q => exfalso; simp only [World.cell?] at h; split at h
              · simp at h
              · cases h
section
variable {H : Type} {enc : TypeId × Value → H} {w : World} {base : Nat} {sp : Nat → Bool} {held : Bool}
theorem trodS_path {n : Nat} {c : Value} {x : DataW H × List MemPlace} (h : DataW.trod enc Tryd.prog w 0 sp held n 22 [c] = some x) :
    ∃ (a : Option Addr) (k : Nat) (l : List ByteArray), c = .slice a l.length k ∧ (0 < l.length → ∃ g o, a = some ⟨g, o, none⟩ ∧ ∀ i (hi : i < l.length), w.cell? ⟨g, o + i, none⟩ = some (.string l[i])) ∧ l.length ≤ maxLen ∧ (∀ t ∈ l, t.size ≤ maxLen) ∧ (a = none → k = 0) := by
  rcases DataW.trod_slice Tryd.underlying22 h with ⟨hc, -⟩ | ⟨a, len, cap, elems, rest, m, rfl, hc, -, hb, hl, hm, hel, hx, -⟩
  · obtain rfl : c = .slice none 0 0 := by simpa using hc
    exact ⟨none, 0, [], rfl, fun h => absurd h (by decide), Nat.zero_le _, fun t ht => absurd ht (by simp), fun _ => rfl⟩
  · obtain rfl : c = .slice (some a) len cap := by simpa using hc
    have key : ∀ i, i < len → ∃ s : ByteArray, w.cell? (a.add i) = some (.string s) ∧ s.size ≤ maxLen := by
      intro i hi
      have e := hx i hi
      rw [List.getElem?_eq_getElem (show i < elems.length by omega)] at e
      simp only [cellsSt, Nat.mul_one] at e
      obtain ⟨cs, hcs, ht⟩ := Option.bind_eq_some_iff.1 e
      obtain ⟨s, rfl, -, hs⟩ := DataW.trod_string Tryd.underlying9 ht
      exact ⟨s, cellS1 hcs, hs⟩
    obtain ⟨l, hll, hlc⟩ := listS_of key
    subst hll
    refine ⟨some a, cap, l, rfl, fun h0 => ?_, by omega, fun t ht => ?_, fun h => by cases h⟩
    · have hp := cellS_spot ((hlc 0 h0).1)
      refine ⟨a.block, a.off, by rw [← hp], fun i hi => ?_⟩
      have := (hlc i hi).1
      rw [hp] at this
      have e2 : (⟨a.block, a.off, none⟩ : Addr).add i = ⟨a.block, a.off + i, none⟩ := by cases i <;> simp [Addr.add]
      rwa [e2] at this
    · obtain ⟨i, hi, rfl⟩ := List.getElem_of_mem ht
      exact (hlc i hi).2
end
/-- A slice of strings that came in. -/
structure StrsI (w : World) (pa : Option Addr) (n c : Nat) (l : List ByteArray) : Prop where
  len : l.length = n
  cells : 0 < l.length → ∃ g o, pa = some ⟨g, o, none⟩ ∧ ∀ i (hi : i < l.length), w.cell? ⟨g, o + i, none⟩ = some (.string l[i])
  most : n ≤ maxLen
  each : ∀ t ∈ l, t.size ≤ maxLen
  nilC : pa = none → c = 0
section
variable {H : Type} {enc : TypeId × Value → H} {w : World} {base : Nat} {sp : Nat → Bool} {held : Bool}
theorem open_strs {v : Value} {d : DataW H} {ps : List MemPlace} {r : Reach} {b0 : Nat} (hval : Value.okWide Tryd.prog w r b0 22 v) (h : DataW.Trod enc Tryd.prog w 0 sp held 22 v d ps) :
    ∃ (pa : Option Addr) (n c : Nat) (l : List ByteArray), v = .slice pa n c ∧ StrsI w pa n c l := by
  obtain ⟨pa, n, c, rfl⟩ := okWide_slice Tryd.underlying22 hval
  obtain ⟨fuel, hf⟩ := h
  have hf2 : DataW.trod enc Tryd.prog w 0 sp held fuel 22 [.slice pa n c] = some (d, ps) := by simpa [Value.cells] using hf
  obtain ⟨a, k, l, e, h1, h2, h3, h4⟩ := trodS_path hf2
  obtain ⟨rfl, rfl, rfl⟩ : pa = a ∧ n = l.length ∧ c = k := by simpa using e
  exact ⟨_, _, _, l, rfl, rfl, h1, h2, h3, h4⟩
end
end opener
theorem refsplit_at (s : ByteArray) (w : World) (hz : s.size ≤ 900000) :
    Calls Tryd.prog 17 #[.string s] w fun e w' => ∃ pa n c l, e = .returned (.slice pa n c) ∧ SplitAt w' pa n c l (splL s.toList) ∧ Below w.heap.size w w' := by
  refine (refSplitC_any s w hz).mono ?_
  rintro e w' ⟨v, l, rfl, hl, hlz, hsz, ho, hb⟩
  have hr := ho.read
  obtain ⟨pa, c, rfl, h2⟩ := ho.read
  exact ⟨pa, l.length, c, l, rfl, ⟨hr, rfl, hl.out, rows_nan hl.out, fun c hc => (hsz c hc).2.2, by omega, fun c hc => (hsz c hc).2.1, fun c hc => by have := (hsz c hc).1; omega⟩, hb⟩
/-- What words say, in one form. -/
def DForm (l : List ByteArray) (p : Bool) (st : DSt) (ws : List ByteArray) : Prop :=
  (p = true ∧ descL (l.map (·.toList)) = some st ∧ ws = l) ∨ (p = false ∧ descL (l.map (·.toList)) = none ∧ st = d0 ∧ ws = [])
theorem DForm.one {l : List ByteArray} {p p' : Bool} {st st' : DSt} {ws ws' : List ByteArray} (h : DForm l p st ws) (h' : DForm l p' st' ws') : p' = p ∧ st' = st ∧ ws' = ws := by
  rcases h with ⟨rfl, h1, rfl⟩ | ⟨rfl, h1, rfl, rfl⟩ <;> rcases h' with ⟨rfl, h2, rfl⟩ | ⟨rfl, h2, rfl, rfl⟩
  · rw [h1] at h2; cases h2; exact ⟨rfl, rfl, rfl⟩
  · rw [h1] at h2; cases h2
  · rw [h1] at h2; cases h2
  · exact ⟨rfl, rfl, rfl⟩
theorem DForm.nan {l : List ByteArray} {p : Bool} {st : DSt} {ws : List ByteArray} (h : DForm l p st ws) : NoNaN st.d := by
  rcases h with ⟨-, h1, -⟩ | ⟨-, -, rfl, -⟩
  · exact descL_nan h1
  · exact noNaN_zero
theorem DForm.len {l : List ByteArray} {p : Bool} {st : DSt} {ws : List ByteArray} (h : DForm l p st ws) : ws.length ≤ l.length := by
  rcases h with ⟨-, -, rfl⟩ | ⟨-, -, -, rfl⟩
  · exact Nat.le_refl _
  · exact Nat.zero_le _
theorem descr_form {l : List ByteArray} {w w' : World} {e : Ending} (h : RetDescr l w e w') :
    ∃ p pb cb st ws, e = .returned (.tuple #[.agg (candC e0 (.slice pb ws.length cb) st), .bool p]) ∧ DForm l p st ws ∧ OwnS w' w.heap.size 9 (.slice pb ws.length cb) ws ∧ Below w.heap.size w w' := by
  rcases h with ⟨hn, rfl, hb⟩ | ⟨st, wv, h, rfl, ho, hb⟩
  · exact ⟨false, none, 0, d0, [], rfl, .inr ⟨rfl, hn.out, rfl, rfl⟩, OwnS.nil _ _ _, hb⟩
  · obtain ⟨pb, cb, rfl, -⟩ := ho.read
    exact ⟨true, pb, cb, st, l, rfl, .inl ⟨rfl, h.out, rfl⟩, ho, hb⟩
def RetFew (n : Nat) (l : List ByteArray) (w : World) (e : Ending) (w' : World) : Prop := ∃ b, e = .returned (.bool b) ∧ w = w' ∧ Hid (b = true → n ≤ 20 ∧ ∀ x ∈ l, x.size ≤ 200)
set_option maxRecDepth 100000 in
set_option maxHeartbeats 2000000 in
theorem few19_any (pa : Option Addr) (n c : Nat) (l : List ByteArray) (w : World) (hi : StrsI w pa n c l) :
    Calls Tryd.prog 10 #[.slice pa n c] w (RetFew n l w) := by
  obtain ⟨rfl, hc, hml, heach, -⟩ := hi
  unfold maxLen at hml heach
  replace hc := Lib.hid hc
  replace heach := Lib.hid heach
  go_enter Tryd.func10, Tryd.ntmps10
  go_wp2_with fail
  go_loop [3, 4] (fun nv iv => ∃ k m : Nat, iv = .int .i64 k ∧ nv = .int .i64 m ∧ k ≤ l.length ∧ k ≤ 100 ∧ m ≤ k * 200 ∧ Hid (∀ x ∈ l.take k, x.size ≤ 200)) (fun _ iv => l.length - (intOf iv).toNat)
  case atStart => exact ⟨0, 0, rfl, rfl, Nat.zero_le _, by omega, by omega, Lib.hid (by intro x hx; simp at hx)⟩
  case round =>
    obtain ⟨k, m, rfl, rfl, hk, hk1, hm, hall⟩ := hrel
    by_cases hgo : k < l.length ∧ k < 100
    · obtain ⟨hlt, h100⟩ := hgo
      have z1 : (k : Int) < (l.length : Int) := by omega
      have z2 : (k : Int) < 100 := by omega
      obtain ⟨g1, o1, rfl, hcell1⟩ := hc.out (by omega)
      have x1 := hcell1 k hlt
      have hez := heach.out l[k] (List.getElem_mem ..)
      have hst : Hid (l[k].size ≤ 200 → ∀ x ∈ l.take (k + 1), x.size ≤ 200) := Lib.hid (fun h => by
        rw [List.take_add_one, List.getElem?_eq_getElem hlt, Option.toList_some]
        intro x hx
        rcases List.mem_append.1 hx with hx | hx
        · exact hall.out x hx
        · rw [List.mem_singleton.1 hx]; exact h)
      obtain ⟨t, ht⟩ : ∃ t, l[k] = t := ⟨_, rfl⟩
      rw [ht] at x1 hez hst
      replace ht := Lib.hid ht
      clear hcell1
      by_cases h200 : t.size ≤ 200
      · have hnew := Lib.hid (hst.out h200)
        have z3 : (t.size : Int) ≤ 200 := by omega
        go_wp2_with fail
        go_round
        case rel => exact ⟨k + 1, m + t.size, by go_num, by go_num, by omega, by omega, by omega, hnew⟩
        case measure => simp [intOf]; omega
      · have z3 : (200 : Int) < (t.size : Int) := by omega
        go_wp2_with fail
        go_ret
        exact ⟨false, rfl, rfl, Lib.hid (fun h => by cases h)⟩
    · have hway : ((l.length : Int) ≤ (k : Int)) ∨ ((k : Int) < (l.length : Int) ∧ (100 : Int) ≤ (k : Int)) := by omega
      by_cases h20 : l.length ≤ 20
      · have z4 : (l.length : Int) ≤ 20 := by omega
        have hfin : ∀ x ∈ l, x.size ≤ 200 := by
          have := hall.out
          rwa [List.take_of_length_le (by omega)] at this
        replace hfin := Lib.hid hfin
        have hway2 : (m : Int) ≤ 500 ∨ (500 : Int) < (m : Int) := by omega
        rcases hway with q1 | ⟨q1, q2⟩
        · clear hgo
          rcases hway2 with q3 | q3
          · go_wp2_with fail
            go_ret
            exact ⟨_, rfl, rfl, Lib.hid (fun _ => ⟨h20, hfin.out⟩)⟩
          · go_wp2_with fail
            go_ret
            exact ⟨_, rfl, rfl, Lib.hid (fun _ => ⟨h20, hfin.out⟩)⟩
        · omega
      · have z4 : (20 : Int) < (l.length : Int) := by omega
        clear hgo
        rcases hway with q1 | ⟨q1, q2⟩
        all_goals
          go_wp2_with fail
          go_ret
          exact ⟨false, rfl, rfl, Lib.hid (fun h => by cases h)⟩
set_option maxRecDepth 100000 in
set_option maxHeartbeats 4000000 in
theorem srcsetTells_walk (pa : Option Addr) (n c : Nat) (l : List ByteArray) (s : ByteArray) (w : World) (wi : StrsI w pa n c l) (ws : s.size ≤ maxLen) :
    Calls Tryd.prog 3 #[.slice pa n c, .string s] w (RetB w true) := by
  have hB : Below w.heap.size w w := Below.refl _ _
  unfold maxLen at ws
  have hnl := wi.len
  subst hnl
  have hrd : ReadS w (.slice pa l.length c) l := ⟨pa, c, rfl, wi.cells⟩
  have hnil := Lib.hid wi.nilC
  have hfew : ∀ w', Below w.heap.size w w' → StrsI w' pa l.length c l := fun w' hb => ⟨rfl, by
    obtain ⟨a, c', he, h⟩ := hrd.below hb (Nat.le_refl _)
    obtain ⟨rfl, -, rfl⟩ : pa = a ∧ l.length = l.length ∧ c = c' := by simpa using he
    exact h, wi.most, wi.each, wi.nilC⟩
  replace hfew := Lib.hid hfew
  clear wi
  go_enter Tryd.func3, Tryd.ntmps3
  go_wp2_with fail
  refine (small19_any _).mono ?_
  rintro e w1 ⟨rfl, hb⟩
  replace hB := hB.next hb
  clear hb
  go_wp2_with fail
  refine (few19_any pa l.length c l w1 (hfew.out w1 hB)).mono ?_
  rintro e w' ⟨b, rfl, rfl, hfs⟩
  cases b
  · go_wp2_with fail
    go_ret
    exact ⟨rfl, hB⟩
  by_cases hbig : 500 < s.size
  · have q1 : (500 : Int) < (s.size : Int) := by omega
    go_wp2_with fail
    go_ret
    exact ⟨rfl, hB⟩
  have q1 : (s.size : Int) ≤ 500 := by omega
  obtain ⟨hl20, hl200⟩ := hfs.out rfl
  have hlz : Hid (∀ x ∈ l, x.size ≤ 1000000) := Lib.hid (fun x hx => by have := hl200 x hx; omega)
  clear hbig hfs hl200
  have hemp : OwnS (w1.alloc (.cells #[] 9)) w1.heap.size 9 (.slice (some ⟨w1.heap.size, 0, none⟩) 0 0) [] := OwnS.empty (Nat.le_refl _)
  have hbl : Below w1.heap.size w1 (w1.alloc (.cells #[] 9)) := (Below.refl _ _).alloc (Nat.le_refl _) _
  have hread1 : ReadS (w1.alloc (.cells #[] 9)) (.slice pa l.length c) l := hrd.below (hB.alloc hB.size _) (Nat.le_refl _)
  obtain ⟨pa3, c3, he3, hcell3⟩ := hread1
  obtain ⟨rfl, -, rfl⟩ : pa = pa3 ∧ l.length = l.length ∧ c = c3 := by simpa using he3
  clear he3
  have hnil2 : pa = none → c = 0 ∧ l = [] := fun h => ⟨hnil.out h, by
    cases l with
    | nil => rfl
    | cons a r => obtain ⟨g, o, e, _⟩ := hcell3 (by simp); rw [h] at e; cases e⟩
  replace hcell3 := Lib.hid hcell3
  replace hnil2 := Lib.hid hnil2
  replace hemp := Lib.hid hemp
  replace hrd := Lib.hid hrd
  go_wp2_with (refine wpList_moreS tyStr rfl (.tmp 25) (.tmp 26) rfl l pa c rfl rfl hnil2.out hcell3.out hemp.out hbl hbl.size (by unfold maxLen; simp; omega) (by simp; omega) ?_; intro wv w2 ho hb2; rw [List.nil_append] at ho; obtain ⟨p2, c2, rfl, -⟩ := ho.read)
  have hB2 := hB.next hb2
  have hin := ho.read
  refine (describe_any (.slice p2 l.length c2) l w2 hin hlz.out (by omega)).mono ?_
  rintro e w3 hD
  obtain ⟨p, pb, cb, st, ws1, rfl, hF, ho1, hb3⟩ := descr_form hD
  clear hD ho hemp hbl hcell3 hnil2 hb2
  have hwl := hF.len
  have hnan := Lib.hid hF.nan
  replace hF := Lib.hid hF
  have hB3 := hB2.next hb3
  have hbx : Below w3.heap.size w3 (w3.alloc (.cells (candC e0 (.slice pb ws1.length cb) st) 27)) := (Below.refl _ _).alloc (Nat.le_refl _) _
  have hG8 : (w3.alloc (.cells (candC e0 (.slice pb ws1.length cb) st) 27)).heap[w3.heap.size]? = some (.cells (candC e0 (.slice pb ws1.length cb) st) 27 (0, 0)) := heap_alloc_new _ _
  have hrdx : ReadS (w3.alloc (.cells (candC e0 (.slice pb ws1.length cb) st) 27)) (.slice pa l.length c) l := hrd.out.below (hB3.next hbx) (Nat.le_refl _)
  replace hG8 := Lib.hid hG8
  go_wp2_with (refine wpList_store_newC rfl 27 _ _ rfl rfl (candC e0 (.slice pb ws1.length cb) st) 27 _ _ rfl rfl rfl (candInfo _ _ _) rfl (candCells _ _ _ _ _) ?_)
  refine (refDescribe_any pa l.length c l _ hrdx rfl hnil.out hlz.out (by omega)).mono ?_
  rintro e w4 hD
  obtain ⟨p', pd, cd, st', ws2, rfl, hF2, ho2, hb4⟩ := descr_form hD
  obtain ⟨rfl, rfl, rfl⟩ := hF.out.one hF2
  clear hD hF2 hrdx
  have hb34 : Below w3.heap.size w3 w4 := hbx.next hb4
  have lsz3 : w3.heap.size + 1 ≤ w4.heap.size := by have := hb4.size; simpa using this
  have hG84 : w4.heap[w3.heap.size]? = some (.cells (candC e0 (.slice pb ws2.length cb) st') 27 (0, 0)) := (hb4.block _ (by simp)).trans hG8.out
  have hby : Below w4.heap.size w4 (w4.alloc (.cells (candC e0 (.slice pd ws2.length cd) st') 27)) := (Below.refl _ _).alloc (Nat.le_refl _) _
  have hG85 : Hid ((w4.alloc (.cells (candC e0 (.slice pd ws2.length cd) st') 27)).heap[w3.heap.size]? = some (.cells (candC e0 (.slice pb ws2.length cb) st') 27 (0, 0))) := Lib.hid ((heap_alloc_old _ _ (by omega)).trans hG84)
  have hG10 : Hid ((w4.alloc (.cells (candC e0 (.slice pd ws2.length cd) st') 27)).heap[w4.heap.size]? = some (.cells (candC e0 (.slice pd ws2.length cd) st') 27 (0, 0))) := Lib.hid (heap_alloc_new _ _)
  have hr1 := (ho1.read.below hb34 (Nat.le_refl _)).below hby (Nat.le_refl _)
  have hr2 := ho2.read.below hby (Nat.le_refl _)
  replace hG84 := Lib.hid hG84
  clear hG8
  go_wp2_with (first
    | (refine wpList_store_newC rfl 27 _ _ rfl rfl (candC e0 (.slice pd ws2.length cd) st') 27 _ _ rfl rfl rfl (candInfo _ _ _) rfl (candCells _ _ _ _ _) ?_)
    | (refine wpList_load_row rfl 27 _ rfl w3.heap.size rfl _ _ _ _ hG85.out Tryd.underlying27 rfl (candInfo _ _ _) ?_)
    | (refine wpList_load_row rfl 27 _ rfl w4.heap.size rfl _ _ _ _ hG10.out Tryd.underlying27 rfl (candInfo _ _ _) ?_))
  refine (one_yes e0 (.slice pb ws2.length cb) (.slice pd ws2.length cd) ws2 st' _ hr1 hr2 (by omega) hnan.out).mono ?_
  rintro e w5 ⟨rfl, hb5⟩
  have hb35 : Below w3.heap.size w3 w5 := (hb34.next hby).next hb5
  have hB5 := hB3.next hb35
  have hG5 : w5.heap[w3.heap.size]? = some (.cells (candC e0 (.slice pb ws2.length cb) st') 27 (0, 0)) := (hb5.block _ (by simp; omega)).trans hG85.out
  have hown5 : OwnS w5 w2.heap.size 9 (.slice pb ws2.length cb) ws2 := ho1.chg (fun k _ hk => hb35.block k hk)
  have hb25 : Below w2.heap.size w2 w5 := hb3.next hb35
  have hlt3 : ∀ g, pb = some ⟨g, 0, none⟩ → g < w3.heap.size := fun g hg => (World.ownsRow.lt ho1 g (by rw [hg]; rfl)).2
  replace hlt3 := Lib.hid hlt3
  replace hG5 := Lib.hid hG5
  clear hr1 hr2 hG84 hG85 hG10 ho1 ho2 hb3 hb4 hb34 hbx hby hb5 hrd
  unfold OwnS at hown5
  go_wp2_with fail
  go_loopw [13] (fun iv wr => ∃ (k : Nat) (l' : List ByteArray), iv = .int .i64 k ∧ k ≤ ws2.length ∧ wr.heap[w3.heap.size]? = some (.cells (candC e0 (.slice pb ws2.length cb) st') 27 (0, 0)) ∧
    wr.ownsRow w2.heap.size 9 1 (.slice pb ws2.length cb) ws2.length (l'.map Value.string) ∧ Below w2.heap.size w2 wr) (fun iv _ => ws2.length - (intOf iv).toNat)
  case atStart => exact ⟨0, _, rfl, Nat.zero_le _, hG5.out, hown5, hb25⟩
  case round =>
    obtain ⟨k, l', rfl, hk, hG, hown, hbel⟩ := hrel
    clear hG5 hown5 hb25
    have x1 := cell_of_row _ _ 1 _ _ _ hG
    simp only [candC, List.getElem?_toArray, List.getElem?_cons_zero, List.getElem?_cons_succ] at x1
    by_cases hkl : k < ws2.length
    · have z1 : (k : Int) < (ws2.length : Int) := by omega
      have hown' := hown
      rcases hown'.2 with ⟨_, h0⟩ | ⟨g, cap, cur, hv, hbg, hh, hcap, -⟩
      · omega
      obtain ⟨rfl, -, rfl⟩ : pb = some ⟨g, 0, none⟩ ∧ ws2.length = ws2.length ∧ cb = cap := by simpa using hv
      have hx := World.ownsRow.cellAt hown k (by omega)
      have hf := World.ownsRow.frozenAt hown k
      have hlx : k < l'.length := by have := hown.1; rw [List.length_map] at this; omega
      rw [List.getElem?_map, List.getElem?_eq_getElem hlx] at hx
      obtain ⟨u, hu⟩ : ∃ u, l'[k] = u := ⟨_, rfl⟩
      rw [hu] at hx
      obtain ⟨hs1, hs2⟩ := World.ownsRow.stored hown k (.string ⟨#[122, 122]⟩)
      have hg3 := hlt3.out g rfl
      have hGn : (wr.setCell ⟨g, k, none⟩ (.string ⟨#[122, 122]⟩)).heap[w3.heap.size]? = some (.cells (candC e0 (.slice (some ⟨g, 0, none⟩) ws2.length cb) st') 27 (0, 0)) := (set_off (by omega)).trans hG
      have hbn : Below w2.heap.size w2 (wr.setCell ⟨g, k, none⟩ (.string ⟨#[122, 122]⟩)) := below_set hbel hbg
      rw [← List.map_set] at hs1
      dsimp only [Option.map_some] at hx
      replace hG := Lib.hid hG
      replace hGn := Lib.hid hGn
      replace hu := Lib.hid hu
      clear hv hh hown' hs2
      go_wp2_with fail
      go_roundw
      case rel => exact ⟨k + 1, _, by go_num, by omega, hGn.out, hs1, hbn⟩
      case measure => simp [intOf]; omega
    · have z1 : (ws2.length : Int) ≤ (k : Int) := by omega
      have hBr := hB2.next hbel
      have hi1 := hin.below hbel (Nat.le_refl _)
      have hi2 : ReadS wr (.slice pa l.length c) l := by
        obtain ⟨_, h, _⟩ := hfew.out wr hBr
        exact ⟨pa, c, rfl, h⟩
      have hsm := same_any _ _ l l wr hi1 hi2 (by unfold maxLen; omega) (by unfold maxLen; omega)
      rw [show sameB l l = true from by unfold sameB; simp] at hsm
      replace hsm := Lib.hid hsm
      replace hG := Lib.hid hG
      clear hown hi1 hi2
      go_wp2_with fail
      refine hsm.out.mono ?_
      rintro e w6 ⟨rfl, hb⟩
      replace hBr := hBr.next hb
      clear hb
      go_wp2_with fail
      refine (split_at s _ (by omega)).mono ?_
      rintro e w7 ⟨pe, ne, ce, le, rfl, h1, hb⟩
      replace hBr := hBr.next hb
      clear hb
      go_wp2_with fail
      refine (refsplit_at s _ (by omega)).mono ?_
      rintro e w8 ⟨pf, nf, cf, lf, rfl, h2, hb⟩
      replace h1 := h1.below hb (Nat.le_refl _)
      replace hBr := hBr.next hb
      clear hb
      go_wp2_with fail
      refine (same_at h1 h2).mono ?_
      rintro e w9 ⟨rfl, hb⟩
      replace hBr := hBr.next hb
      clear hb h1 h2
      go_wp2_with fail
      go_ret
      exact ⟨rfl, hBr⟩
end Go.Proofs.YtbejimncmfeggaaDoor
