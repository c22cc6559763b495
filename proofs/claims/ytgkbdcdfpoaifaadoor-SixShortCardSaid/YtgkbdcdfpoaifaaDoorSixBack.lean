/- The walk of SixBack. -/
import Derived.Test.YtgkbdcdfpoaifaaDoorSixLarge
import Derived.Test.YtgkbdcdfpoaifaaDoorSixOpen
namespace Go.Proofs.YtgkbdcdfpoaifaaDoor
open Go.RowKit
set_option linter.unusedVariables false
set_option linter.unusedSimpArgs false

/-- Small letters of digits, and colons. -/
def Plain10 (c : UInt8) : Prop := c = 58 ∨ ∃ d, d < 16 ∧ c = hexC d
theorem join_plain : ∀ {l : List Nat}, ∀ c ∈ joinC (l.map hexL), Plain10 c
  | [], c, h => by cases h
  | n :: r, c, h => by
    rw [List.map_cons, joinC_cons] at h
    rcases List.mem_append.1 h with h | h
    · exact .inr (hexF_mem 4 n c h)
    · split at h
      · cases h
      · rcases List.mem_cons.1 h with h | h
        · exact .inl h
        · exact join_plain c h
theorem sixL_plain {l : List Nat} (h : Six l) : ∀ c ∈ sixL l, Plain10 c := by
  intro c hc
  by_cases hlt : (runL l).1 < (runL l).2
  · rw [sixL_two h hlt] at hc
    rcases List.mem_append.1 hc with hc | hc
    · exact join_plain c hc
    · rcases List.mem_cons.1 hc with hc | hc
      · exact .inl hc
      · rcases List.mem_cons.1 hc with hc | hc
        · exact .inl hc
        · exact join_plain c hc
  · rw [sixL_one h hlt] at hc
    exact join_plain c hc
theorem plain_lower : ∀ d : Fin 16, lowerC (hexC d.val) = hexC d.val := by decide +kernel
theorem sixL_lower {l : List Nat} (h : Six l) : lowerL (sixL l) = sixL l := by
  unfold lowerL
  conv => rhs; rw [← List.map_id (sixL l)]
  apply List.map_congr_left
  intro c hc
  rcases sixL_plain h c hc with rfl | ⟨d, hd, rfl⟩
  · rfl
  · exact plain_lower ⟨d, hd⟩
theorem join_len : ∀ l : List Nat, (joinC (l.map hexL)).length ≤ 5 * l.length - 1
  | [] => Nat.le_refl _
  | [n] => by have := hexL_len n; show (hexL n).length ≤ _; simpa using this
  | n :: m :: r => by
    have ih := join_len (m :: r)
    have := hexL_len n
    rw [List.map_cons, List.map_cons, joinC, List.length_append, List.length_cons, ← List.map_cons]
    simp only [List.length_cons] at ih ⊢
    omega
theorem sixL_len {l : List Nat} (h : Six l) : (sixL l).length ≤ 39 := by
  by_cases hlt : (runL l).1 < (runL l).2
  · obtain ⟨h1, h2, h3, h4⟩ := run_facts h
    obtain ⟨h5, h6⟩ := h3 hlt
    rw [sixL_two h hlt, List.length_append, List.length_cons, List.length_cons]
    have a := join_len (l.take (runL l).1)
    have b := join_len (l.drop (runL l).2)
    rw [List.length_take, h.len] at a
    rw [List.length_drop, h.len] at b
    omega
  · rw [sixL_one h hlt]
    have := join_len l
    rw [h.len] at this; exact this
set_option maxRecDepth 100000 in
set_option maxHeartbeats 4000000 in
theorem sixBack_walk (a : List Nat) (w : World) (ha : Six a) (ht : Tabs w) (hm : ML w) : Calls Tryd.prog 6 #[.agg (sixCells a)] w (RetB w true) := by
  have hgd := eqGuard_six
  have hcb := fun (w : World) (s : ByteArray) => Lib.run_convert_string_bytes (P := Tryd.prog) w 9 30 5 s Tryd.underlying9 Tryd.underlying30 Tryd.underlying5
  have hB : Below w.heap.size w (w.alloc (.cells (sixCells a) 23)) := (Below.refl _ _).alloc (Nat.le_refl _) _
  have k0 := Lib.hid (heap_alloc_new w (.cells (sixCells a) 23))
  have ha8 := Lib.hid ha.len
  go_enter Tryd.func6, Tryd.ntmps6
  go_wp2_with fail
  refine (small10_any _ (hm.next hB) (ht.next hB)).mono ?_
  rintro e w1 ⟨rfl, hb⟩
  replace hB := hB.next hb
  replace k0 := Lib.hid (row_keep k0.out hb)
  clear hb
  go_wp2_with (refine wpList_load_six rfl _ rfl (l := a) ha8.out k0.out rfl ?_)
  refine (sixWrite_any a ha _ (ht.next hB)).mono ?_
  rintro e w2 ⟨s, rfl, hs, hb⟩
  replace hB := hB.next hb
  replace k0 := Lib.hid (row_keep k0.out hb)
  clear hb
  have hz : s.size ≤ 39 := by rw [← size_toList, hs.out]; exact sixL_len ha
  have hzI : (s.size : Int) ≤ 39 := by omega
  have hp : Hid (sixP s.toList = some a) := Lib.hid (by rw [hs.out]; exact sixP_sixL ha)
  go_wp2_with fail
  refine (parse10_yes (s := s) _ (hm.next hB) (by omega) hp.out).mono ?_
  rintro e w3 ⟨rfl, hb⟩
  replace hB : Below w.heap.size w (w3.alloc (.cells (sixCells a) 23)) := (hB.next hb).alloc ((hB.next hb).size) _
  replace k0 := Lib.hid (row_old (p := .cells (sixCells a) 23) (row_keep k0.out hb))
  have k1 := Lib.hid (heap_alloc_new w3 (.cells (sixCells a) 23))
  clear hb
  have hr0 := RowB.made (w3.alloc (.cells (sixCells a) 23)) 5 s
  have hb1 := Below.bytesWorld (Below.refl _ (w3.alloc (.cells (sixCells a) 23))) (Nat.le_refl _) 5 s
  have e3 : (w3.alloc (.cells (sixCells a) 23)).heap.size = w3.heap.size + 1 := by simp
  rw [e3] at hr0
  rw [e3] at hb1
  replace e3 := Lib.hid e3
  go_wp2_with (refine wpList_store_six rfl _ _ rfl rfl a ha8.out _ rfl rfl rfl ?_)
  clear hcb
  go_loopw [8] (fun i wr => ∃ (k : Nat) (l : List UInt8), k ≤ s.size ∧ i = .int .i64 k ∧ Hid (l = (s.toList.take k).map (upTo 102) ++ s.toList.drop k) ∧ RowB wr (w3.heap.size + 1) 5 l ∧ Below (w3.heap.size + 1) (w3.alloc (.cells (sixCells a) 23)) wr) (fun i _ => s.size - (intOf i).toNat)
  case atStart => exact ⟨0, _, Nat.zero_le _, rfl, Lib.hid (by simp), hr0, hb1⟩
  case round =>
    obtain ⟨k, l, hk, rfl, hl, hrow, hbel⟩ := hrel
    clear hr0 hb1
    by_cases hlt : k < s.size
    · have h0 := byte_nn s[k]
      have h1 := byte_le s[k]
      obtain ⟨hkl, hat⟩ := map_at hlt hl.out
      have hcell := hrow.cell k hkl
      have hfree := hrow.free k hkl
      rw [hat, byteV] at hcell
      clear hat
      have hltI : (k : Int) < (s.size : Int) := by omega
      by_cases hup : 97 ≤ (s[k].toNat : Int) ∧ (s[k].toNat : Int) ≤ ((102 : Nat) : Int)
      · obtain ⟨hu1, hu2⟩ := hup
        have hset := hrow.set k hkl (upTo 102 s[k])
        have hup := Lib.hid (upTo_yes hu1 hu2)
        have hu3 : (s[k].toNat : Int) ≤ 102 := hu2
        clear hu2
        go_wp2_with fail
        go_roundw
        case rel => exact ⟨k + 1, _, by omega, by go_num, Lib.hid (map_step hlt hl.out), by rw [hup.out]; exact hset, hbel.setCell (Nat.le_refl _) _⟩
        case measure => simp [intOf]; omega
      · have hnc := Lib.hid (upTo_no hup)
        have hcase : (s[k].toNat : Int) < 97 ∨ (97 : Int) ≤ (s[k].toNat : Int) ∧ (102 : Int) < (s[k].toNat : Int) := by
          have : ((102 : Nat) : Int) = 102 := rfl
          omega
        clear hup
        rcases hcase with hup | ⟨hup, hup2⟩
        all_goals
          go_wp2_with fail
          go_roundw
          case rel => exact ⟨k + 1, _, by omega, by go_num, Lib.hid (map_same hlt hl.out hnc.out), hrow, hbel⟩
          case measure => simp [intOf]; omega
    · have hgeI : (s.size : Int) ≤ (k : Int) := by omega
      have hfin : Hid (l = s.toList.map (upTo 102)) := Lib.hid (by rw [hl.out, take_all _ _ (by omega), drop_end _ _ (by omega), List.append_nil])
      have hll : l.length = s.size := by rw [hfin.out, List.length_map, size_toList]
      have hbel2 : Below (w3.alloc (.cells (sixCells a) 23)).heap.size (w3.alloc (.cells (sixCells a) 23)) wr := by rw [e3.out]; exact hbel
      have hB2 : Below w.heap.size w wr := hB.next hbel2
      have k0b := Lib.hid (row_keep k0.out hbel2)
      have k1b := Lib.hid (row_keep k1.out hbel2)
      have hcv := conv_row (P := Tryd.prog) (S := 9) Tryd.underlying30 Tryd.underlying5 Tryd.underlying9 hrow s.size (grownCap (w3.alloc (.cells (sixCells a) 23)) s.size 0 5) hll.symm
      have hP2 : Hid (sixP (⟨l.toArray⟩ : ByteArray).toList = some a) := Lib.hid (by rw [toList_mk, hfin.out, sixP_case case_upTo102]; exact hp.out)
      have hz2 : Hid ((⟨l.toArray⟩ : ByteArray).size ≤ 1000000) := Lib.hid (by rw [← size_toList, toList_mk, hll]; omega)
      clear hl hlt hbel hbel2 hB k0 k1 hrow e3
      replace hll := Lib.hid hll
      go_wp2_with fail
      refine (parse10_yes (s := ⟨l.toArray⟩) _ (hm.next hB2) hz2.out hP2.out).mono ?_
      rintro e w5 ⟨rfl, hb⟩
      have hB3 : Below w.heap.size w (w5.alloc (.cells (sixCells a) 23)) := (hB2.next hb).alloc ((hB2.next hb).size) _
      have k0 := Lib.hid (row_old (p := .cells (sixCells a) 23) (row_keep k0b.out hb))
      have k1 := Lib.hid (row_old (p := .cells (sixCells a) 23) (row_keep k1b.out hb))
      have k2 := Lib.hid (heap_alloc_new w5 (.cells (sixCells a) 23))
      have hq : ∀ w, (Op.equalIn 10000 23 (.agg (sixCells a)) (.agg (sixCells a))).run Tryd.prog w = .ok true w := fun w => by
        rw [run_equalIn_six w a a ha8.out ha8.out, decide_eq_true rfl]
      clear hb hB2 hcv k0b k1b
      go_wp2_with (first
        | (refine wpList_store_six rfl _ _ rfl rfl a ha8.out _ rfl rfl rfl ?_)
        | (refine wpList_unguard (by rfl) ?_; refine wpList_load_six rfl _ rfl (l := a) ha8.out k0.out rfl ?_)
        | (refine wpList_unguard (by rfl) ?_; refine wpList_load_six rfl _ rfl (l := a) ha8.out k1.out rfl ?_)
        | (refine wpList_unguard (by rfl) ?_; refine wpList_load_six rfl _ rfl (l := a) ha8.out k2.out rfl ?_))
      refine (lower_any s _ (by omega)).mono ?_
      rintro e w6 ⟨t, rfl, ht6, hb⟩
      replace hB3 := hB3.next hb
      obtain rfl : t = s := eq_of_toList (by rw [ht6.out, hs.out]; exact sixL_lower ha)
      clear hb
      go_wp2_with fail
      go_ret
      exact ⟨rfl, hB3⟩
end Go.Proofs.YtgkbdcdfpoaifaaDoor
