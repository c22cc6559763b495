/- tamislaw19.write; Describe at a candidate that was read. -/
import Derived.Test.YtbejimncmfeggaaDoorSrcL
import Derived.Test.YtbejimncmfeggaaDoorSrcM
namespace Go.Proofs.YtbejimncmfeggaaDoor
open Go.RowKit
set_option linter.unusedVariables false
set_option linter.unusedSimpArgs false

theorem describe_good (v : Value) (ws : List ByteArray) (st : DSt) (w : World) (hr : ReadS w v ws) (hz : ∀ x ∈ ws, x.size ≤ 1000000) (hl : ws.length ≤ 1000000) (hd : descL (ws.map (·.toList)) = some st) :
    Calls Tryd.prog 11 #[v] w fun e w' => ∃ pb cb, e = .returned (.tuple #[.agg (candC e0 (.slice pb ws.length cb) st), .bool true]) ∧ ReadS w' (.slice pb ws.length cb) ws ∧ Below w.heap.size w w' := by
  refine (describe_any v ws w hr hz hl).mono ?_
  rintro e w' (⟨hn, -, -⟩ | ⟨st', wv, h, rfl, ho, hb⟩)
  · have := hn.out
    rw [hd] at this; cases this
  · have := h.out
    rw [hd] at this
    cases this
    have hr2 := ho.read
    obtain ⟨pb, cb, rfl, -⟩ := ho.read
    exact ⟨pb, cb, rfl, hr2, hb⟩
def wordsT (ws : List ByteArray) : List UInt8 := ws.flatMap (fun t => 32 :: t.toList)
theorem wordsT_snoc {ws : List ByteArray} {k : Nat} (h : k < ws.length) : wordsT (ws.take (k + 1)) = wordsT (ws.take k) ++ 32 :: ws[k].toList := by
  unfold wordsT
  rw [List.take_add_one, List.getElem?_eq_getElem h, Option.toList_some, List.flatMap_append]
  simp only [List.flatMap_cons, List.flatMap_nil, List.append_nil]
theorem textC_is (c : HCand) : textC (candIs c) = c.url.toList ++ wordsT c.ws := by
  unfold textC candIs wordsT
  rw [List.flatMap_map]
theorem wordsT_pre (ws : List ByteArray) (k : Nat) : (wordsT (ws.take k)).length ≤ (wordsT ws).length := by
  have e : wordsT ws = wordsT (ws.take k) ++ wordsT (ws.drop k) := by unfold wordsT; rw [← List.flatMap_append, List.take_append_drop]
  rw [e, List.length_append]; omega
def sepT (k : Nat) : List UInt8 := if k = 0 then [] else [44, 32]
theorem writeL_step {l : List HCand} {k : Nat} (h : k < l.length) : writeL ((l.take (k + 1)).map candIs) = writeL ((l.take k).map candIs) ++ sepT k ++ (l[k].url.toList ++ wordsT l[k].ws) := by
  rw [List.take_add_one, List.getElem?_eq_getElem h, Option.toList_some, List.map_append, List.map_singleton, writeL_snoc, textC_is]
  congr 2
  unfold sepT
  by_cases hk : k = 0
  · subst hk; rfl
  · rw [if_neg hk, if_neg]
    intro e
    have := congrArg List.length e
    rw [List.length_map, List.length_take, List.length_nil] at this; omega
theorem writeL_take {l : List HCand} (k : Nat) : (writeL ((l.take k).map candIs)).length ≤ (writeL (l.map candIs)).length := by
  have e : l.map candIs = (l.take k).map candIs ++ (l.drop k).map candIs := by rw [← List.map_append, List.take_append_drop]
  rw [e]; exact writeL_pre _ _
set_option maxRecDepth 100000 in
set_option maxHeartbeats 4000000 in
theorem writeC_any (pa : Option Addr) (n c : Nat) (l : List HCand) (w : World) (hr : ReadC w (.slice pa n c) l) (hn : l.length = n) (hN : (writeL (l.map candIs)).length ≤ 1000000) (hln : n ≤ 1000000) (hws : ∀ c ∈ l, c.ws.length ≤ 1000000) :
    Calls Tryd.prog 19 #[.slice pa n c] w fun e w' => ∃ t, e = .returned (.string t) ∧ Hid (t.toList = writeL (l.map candIs)) ∧ w' = w := by
  subst hn
  obtain ⟨a1, c1, hv, hc1, hr1⟩ := hr
  obtain ⟨rfl, -, rfl⟩ : pa = a1 ∧ l.length = l.length ∧ c = c1 := by simpa using hv
  clear hv
  replace hc1 := Lib.hid hc1
  replace hr1 := Lib.hid hr1
  replace hws := Lib.hid hws
  go_enter Tryd.func19, Tryd.ntmps19
  go_wp2_with fail
  go_loop [3, 4] (fun sv iv => ∃ (k : Nat) (t : ByteArray), iv = .int .i64 k ∧ sv = .string t ∧ k ≤ l.length ∧ Hid (t.toList = writeL ((l.take k).map candIs))) (fun _ i => l.length - (intOf i).toNat)
  case atStart => exact ⟨0, _, rfl, rfl, Nat.zero_le _, Lib.hid (by rw [show (ByteArray.mk #[]).toList = [] from toList_mk []]; rfl)⟩
  case round =>
    obtain ⟨k, t, rfl, rfl, hk, ht⟩ := hrel
    by_cases hlt : k < l.length
    · obtain ⟨g1, o1, rfl, hcell1⟩ := hc1.out (by omega)
      have y := hcell1 k hlt
      have q1 := hr1.out l[k] (List.getElem_mem ..)
      have q4 := hws.out l[k] (List.getElem_mem ..)
      have hst := writeL_step hlt
      have hst2 := writeL_take (l := l) (k + 1)
      have hst3 := wordsT_pre l[k].ws
      obtain ⟨c, hc⟩ : ∃ c, l[k] = c := ⟨_, rfl⟩
      rw [hc] at y q1 q4 hst hst3
      obtain ⟨cu, cv, cw, cs⟩ := c
      dsimp only at q1 q4 hst hst3
      obtain ⟨ga, gc, rfl, hcell2⟩ := q1
      have y0 := y 0 _ rfl
      have y1 := y 1 _ rfl
      simp only [Nat.add_zero] at y0 y1
      rw [hst, List.length_append, List.length_append, List.length_append] at hst2
      have htz : t.size = (writeL ((l.take k).map candIs)).length := by rw [← size_toList, ht.out]
      have hcz := size_toList cu
      rw [← htz, hcz] at hst2
      have z1 : (k : Int) < (l.length : Int) := by omega
      replace hst := Lib.hid hst
      replace hst3 := Lib.hid hst3
      replace hcell2 := Lib.hid hcell2
      replace hc := Lib.hid hc
      replace htz := Lib.hid htz
      replace hst2 := Lib.hid hst2
      clear y hcell1
      obtain ⟨t2, hgo, ht2⟩ : ∃ t2 : ByteArray, (if k = 0 then t else t ++ ⟨#[44, 32]⟩) = t2 ∧ Hid (t2.toList = writeL ((l.take k).map candIs) ++ sepT k) := ⟨_, rfl, Lib.hid (by
        unfold sepT
        by_cases h0 : k = 0
        · rw [if_pos h0, if_pos h0, ht.out, List.append_nil]
        · rw [if_neg h0, if_neg h0, toList_append, ht.out, show (ByteArray.mk #[44, 32]).toList = [44, 32] from toList_mk _])⟩
      have ht2z : t2.size + cu.size + (wordsT cw).length ≤ 1000000 := by
        rw [← size_toList t2, ht2.out, List.length_append, ← htz.out]
        have := hst2.out
        omega
      have zc : cu.size ≤ 1000000 := by omega
      have zt : t2.size ≤ 1000000 := by omega
      have zs : t.size ≤ 1000000 := by have := hst2.out; omega
      have hway : (k = 0 ∧ t = t2) ∨ ((0 : Int) < (k : Int) ∧ t ++ ⟨#[44, 32]⟩ = t2) := by
        by_cases h0 : k = 0
        · rw [if_pos h0] at hgo; exact .inl ⟨h0, hgo⟩
        · rw [if_neg h0] at hgo; exact .inr ⟨by omega, hgo⟩
      clear hgo
      rcases hway with ⟨h0, rfl⟩ | ⟨h0, hgo⟩
      · subst h0
        simp only [Nat.zero_mul, Nat.add_zero] at y0 y1
        go_wp2_with fail
        go_loop [3, 5] (fun sv iv => ∃ (j : Nat) (u : ByteArray), iv = .int .i64 j ∧ sv = .string u ∧ j ≤ cw.length ∧ Hid (u.toList = t.toList ++ (cu.toList ++ wordsT (cw.take j)))) (fun _ i => cw.length - (intOf i).toNat)
        case atStart => exact ⟨0, _, rfl, rfl, Nat.zero_le _, Lib.hid (by rw [toList_append]; simp [wordsT])⟩
        case round =>
          obtain ⟨j, u, rfl, rfl, hj, hu⟩ := hrel
          have huz : u.size ≤ 1000000 := by
            rw [← size_toList, hu.out, List.length_append, List.length_append, size_toList, size_toList]
            have := hst3.out j
            omega
          by_cases hjl : j < cw.length
          · obtain ⟨g2, o2, rfl, hcell3⟩ := hcell2.out (by omega)
            have y2 := hcell3 j hjl
            have hz3 := hst3.out (j + 1)
            rw [wordsT_snoc hjl] at hz3
            have zw : cw[j].size ≤ 1000000 := by
              rw [List.length_append, List.length_cons, size_toList] at hz3; omega
            have z3 : (j : Int) < (cw.length : Int) := by omega
            have hnew : Hid ((u ++ ⟨#[32]⟩ ++ cw[j]).toList = t.toList ++ (cu.toList ++ wordsT (cw.take (j + 1)))) := Lib.hid (by
              rw [wordsT_snoc hjl, toList_append, toList_append, hu.out, show (ByteArray.mk #[32]).toList = [32] from toList_mk _]; simp)
            clear hz3 hcell3
            generalize cw[j] = wj at *
            go_wp2_with fail
            go_round
            case rel => exact ⟨j + 1, _, by go_num, rfl, by omega, hnew⟩
            case measure => simp [intOf]; omega
          · have hge : (cw.length : Int) ≤ (j : Int) := by omega
            have hnew : Hid (u.toList = writeL ((l.take (0 + 1)).map candIs)) := Lib.hid (by
              rw [hst.out, hu.out, ht2.out, show cw.take j = cw from List.take_of_length_le (by omega)])
            go_wp2_with fail
            go_round
            case rel => exact ⟨0 + 1, u, by go_num, rfl, by omega, hnew⟩
            case measure => simp [intOf]; omega
      · replace hgo := Lib.hid hgo
        go_upto_region 7 with fail
        rw [hgo.out]
        go_wp2_with fail
        go_loop [3, 5] (fun sv iv => ∃ (j : Nat) (u : ByteArray), iv = .int .i64 j ∧ sv = .string u ∧ j ≤ cw.length ∧ Hid (u.toList = t2.toList ++ (cu.toList ++ wordsT (cw.take j)))) (fun _ i => cw.length - (intOf i).toNat)
        case atStart => exact ⟨0, _, rfl, rfl, Nat.zero_le _, Lib.hid (by rw [toList_append]; simp [wordsT])⟩
        case round =>
          obtain ⟨j, u, rfl, rfl, hj, hu⟩ := hrel
          have huz : u.size ≤ 1000000 := by
            rw [← size_toList, hu.out, List.length_append, List.length_append, size_toList, size_toList]
            have := hst3.out j
            omega
          by_cases hjl : j < cw.length
          · obtain ⟨g2, o2, rfl, hcell3⟩ := hcell2.out (by omega)
            have y2 := hcell3 j hjl
            have hz3 := hst3.out (j + 1)
            rw [wordsT_snoc hjl] at hz3
            have zw : cw[j].size ≤ 1000000 := by
              rw [List.length_append, List.length_cons, size_toList] at hz3; omega
            have z3 : (j : Int) < (cw.length : Int) := by omega
            have hnew : Hid ((u ++ ⟨#[32]⟩ ++ cw[j]).toList = t2.toList ++ (cu.toList ++ wordsT (cw.take (j + 1)))) := Lib.hid (by
              rw [wordsT_snoc hjl, toList_append, toList_append, hu.out, show (ByteArray.mk #[32]).toList = [32] from toList_mk _]; simp)
            clear hz3 hcell3
            generalize cw[j] = wj at *
            go_wp2_with fail
            go_round
            case rel => exact ⟨j + 1, _, by go_num, rfl, by omega, hnew⟩
            case measure => simp [intOf]; omega
          · have hge : (cw.length : Int) ≤ (j : Int) := by omega
            have hnew : Hid (u.toList = writeL ((l.take (k + 1)).map candIs)) := Lib.hid (by
              rw [hst.out, hu.out, ht2.out, show cw.take j = cw from List.take_of_length_le (by omega)])
            go_wp2_with fail
            go_round
            case rel => exact ⟨k + 1, u, by go_num, rfl, by omega, hnew⟩
            case measure => simp [intOf]; omega
    · have hge : (l.length : Int) ≤ (k : Int) := by omega
      have he : t.toList = writeL (l.map candIs) := by rw [ht.out, List.take_of_length_le (by omega)]
      replace he := Lib.hid he
      go_wp2_with fail
      go_ret
      exact ⟨_, rfl, he, rfl⟩
end Go.Proofs.YtbejimncmfeggaaDoor
