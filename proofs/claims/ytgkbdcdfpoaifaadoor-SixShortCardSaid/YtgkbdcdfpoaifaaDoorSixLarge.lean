/- The walk of SixLarge. -/
import Derived.Test.YtgkbdcdfpoaifaaDoorSixF
import Derived.Test.YtgkbdcdfpoaifaaDoorSixT
namespace Go.Proofs.YtgkbdcdfpoaifaaDoor
open Go.RowKit
set_option linter.unusedVariables false
set_option linter.unusedSimpArgs false

theorem RowB.kept {w w' : World} {g : Nat} {E : TypeId} {l : List UInt8} (h : RowB w g E l) (hb : Below w.heap.size w w') : RowB w' g E l := by
  obtain ⟨cur, m, hh, rest⟩ := h
  exact ⟨cur, m, row_keep hh hb, rest⟩
theorem map_step {f : UInt8 → UInt8} {l : List UInt8} {k : Nat} {s : ByteArray} (hk : k < s.size) (hl : l = (s.toList.take k).map f ++ s.toList.drop k) : l.set k (f s[k]) = (s.toList.take (k + 1)).map f ++ s.toList.drop (k + 1) := by
  have hlen : ((s.toList.take k).map f).length = k := by simp [size_toList]; omega
  rw [hl, List.set_append_right _ _ (by omega), hlen, Nat.sub_self, drop_cons _ _ hk, take_snoc _ _ hk]
  simp
theorem map_same {f : UInt8 → UInt8} {l : List UInt8} {k : Nat} {s : ByteArray} (hk : k < s.size) (hl : l = (s.toList.take k).map f ++ s.toList.drop k) (hc : f s[k] = s[k]) : l = (s.toList.take (k + 1)).map f ++ s.toList.drop (k + 1) := by
  rw [hl, drop_cons _ _ hk, take_snoc _ _ hk]
  simp [hc]
theorem map_at {f : UInt8 → UInt8} {l : List UInt8} {k : Nat} {s : ByteArray} (hk : k < s.size) (hl : l = (s.toList.take k).map f ++ s.toList.drop k) : ∃ h : k < l.length, l[k] = s[k] := by
  have hlen : ((s.toList.take k).map f).length = k := by simp [size_toList]; omega
  subst hl
  refine ⟨by simp [size_toList]; omega, ?_⟩
  rw [List.getElem_append_right (by omega)]
  simp only [hlen, Nat.sub_self, drop_cons _ _ hk, List.getElem_cons_zero]
theorem upTo_yes {m : Nat} {c : UInt8} (h1 : 97 ≤ (c.toNat : Int)) (h2 : (c.toNat : Int) ≤ (m : Int)) : (c.toNat : Int) - 32 = ((upTo m c).toNat : Int) := by
  have := c.toNat_lt
  unfold upTo; rw [if_pos ⟨by omega, by omega⟩]; simp; omega
theorem upTo_no {m : Nat} {c : UInt8} (h : ¬ (97 ≤ (c.toNat : Int) ∧ (c.toNat : Int) ≤ (m : Int))) : upTo m c = c := by
  unfold upTo; rw [if_neg (by omega)]
theorem lower_map (l : List UInt8) : lowerL l = l.map lowerC := rfl
set_option maxRecDepth 100000 in
set_option maxHeartbeats 4000000 in
theorem sixLarge_walk (s : ByteArray) (w : World) (ws : s.size ≤ 9223372036854775807) (ht : Tabs w) (hm : ML w) : Calls Tryd.prog 7 #[.string s] w (RetB w true) := by
  have hB : Below w.heap.size w w := Below.refl _ _
  have hgd := eqGuard_six
  have hcb := fun (w : World) (s : ByteArray) => Lib.run_convert_string_bytes (P := Tryd.prog) w 9 30 5 s Tryd.underlying9 Tryd.underlying30 Tryd.underlying5
  go_enter Tryd.func7, Tryd.ntmps7
  go_wp2_with fail
  refine (small10_any _ hm ht).mono ?_
  rintro e w1 ⟨rfl, hb⟩
  replace hB := hB.next hb
  clear hb
  by_cases h200 : 200 < s.size
  · have h200I : (200 : Int) < (s.size : Int) := by omega
    go_wp2_with fail
    go_ret
    exact ⟨rfl, hB⟩
  have h200I : (s.size : Int) ≤ 200 := by omega
  have hr0 := RowB.made w1 5 s
  have hb0 := Below.bytesWorld hB hB.size 5 s
  have hb1 := Below.bytesWorld (Below.refl w1.heap.size w1) (Nat.le_refl _) 5 s
  go_wp2_with fail
  clear hcb
  go_loopw [5] (fun i wr => ∃ (k : Nat) (l : List UInt8), k ≤ s.size ∧ i = .int .i64 k ∧ Hid (l = (s.toList.take k).map (upTo 122) ++ s.toList.drop k) ∧ RowB wr w1.heap.size 5 l ∧ Below w1.heap.size w1 wr) (fun i _ => s.size - (intOf i).toNat)
  case atStart => exact ⟨0, _, Nat.zero_le _, rfl, Lib.hid (by simp), hr0, hb1⟩
  case round =>
    obtain ⟨k, l, hk, rfl, hl, hrow, hbel⟩ := hrel
    clear hr0 hb0 hb1
    by_cases hlt : k < s.size
    · have h0 := byte_nn s[k]
      have h1 := byte_le s[k]
      obtain ⟨hkl, hat⟩ := map_at hlt hl.out
      have hcell := hrow.cell k hkl
      have hfree := hrow.free k hkl
      rw [hat, byteV] at hcell
      clear hat
      have hltI : (k : Int) < (s.size : Int) := by omega
      by_cases hup : 97 ≤ (s[k].toNat : Int) ∧ (s[k].toNat : Int) ≤ ((122 : Nat) : Int)
      · obtain ⟨hu1, hu2⟩ := hup
        have hset := hrow.set k hkl (upTo 122 s[k])
        have hup := Lib.hid (upTo_yes hu1 hu2)
        have hu3 : (s[k].toNat : Int) ≤ 122 := hu2
        clear hu2
        go_wp2_with fail
        go_roundw
        case rel => exact ⟨k + 1, _, by omega, by go_num, Lib.hid (map_step hlt hl.out), by rw [hup.out]; exact hset, hbel.setCell (Nat.le_refl _) _⟩
        case measure => simp [intOf]; omega
      · have hnc := Lib.hid (upTo_no hup)
        have hcase : (s[k].toNat : Int) < 97 ∨ (97 : Int) ≤ (s[k].toNat : Int) ∧ (122 : Int) < (s[k].toNat : Int) := by
          have : ((122 : Nat) : Int) = 122 := rfl
          omega
        clear hup
        rcases hcase with hup | ⟨hup, hup2⟩
        all_goals
          go_wp2_with fail
          go_roundw
          case rel => exact ⟨k + 1, _, by omega, by go_num, Lib.hid (map_same hlt hl.out hnc.out), hrow, hbel⟩
          case measure => simp [intOf]; omega
    · have hgeI : (s.size : Int) ≤ (k : Int) := by omega
      have hfin : Hid (l = s.toList.map (upTo 122)) := Lib.hid (by rw [hl.out, take_all _ _ (by omega), drop_end _ _ (by omega), List.append_nil])
      have hll : l.length = s.size := by rw [hfin.out, List.length_map, size_toList]
      have hB2 : Below w.heap.size w wr := hB.next hbel
      obtain ⟨x, bx, hx⟩ : ∃ x bx, Hid ((sixP s.toList).getD six0 = x ∧ (sixP s.toList).isSome = bx) := ⟨_, _, Lib.hid ⟨rfl, rfl⟩⟩
      have hx8 : x.length = 8 := by
        rw [← hx.out.1]
        cases h : sixP s.toList with
        | none => rfl
        | some y => exact sixP_len h
      clear hl hlt
      go_wp2_with fail
      refine (parse10 (s := s) _ (hm.next hB2) (by omega) rfl hx.out.1 hx.out.2).mono ?_
      rintro e w2 ⟨rfl, hb⟩
      have hrow2 := (hrow.kept hb).kept ((Below.refl _ _).alloc (Nat.le_refl _) (.cells (sixCells x) 23))
      have hB3 : Below w.heap.size w (w2.alloc (.cells (sixCells x) 23)) := (hB2.next hb).alloc ((hB2.next hb).size) _
      have k1 := Lib.hid (heap_alloc_new w2 (.cells (sixCells x) 23))
      have hcv := conv_row (P := Tryd.prog) (S := 9) Tryd.underlying30 Tryd.underlying5 Tryd.underlying9 hrow2 s.size (grownCap w1 s.size 0 5) hll.symm
      clear hrow2 hB2 hb hrow
      replace hll := Lib.hid hll
      replace hx8 := Lib.hid hx8
      go_wp2_with (refine wpList_store_six rfl _ _ rfl rfl x hx8.out _ rfl rfl rfl ?_)
      have hP2 : Hid (sixP (⟨l.toArray⟩ : ByteArray).toList = sixP s.toList) := Lib.hid (by rw [toList_mk, hfin.out]; exact sixP_case case_upTo122 _)
      have hz2 : Hid ((⟨l.toArray⟩ : ByteArray).size ≤ 1000000) := Lib.hid (by rw [← size_toList, toList_mk, hll.out]; omega)
      refine (parse10 (s := ⟨l.toArray⟩) _ (hm.next hB3) hz2.out hP2.out hx.out.1 hx.out.2).mono ?_
      rintro e w3 ⟨rfl, hb⟩
      have hB4 : Below w.heap.size w (w3.alloc (.cells (sixCells x) 23)) := (hB3.next hb).alloc ((hB3.next hb).size) _
      replace k1 := Lib.hid (row_old (p := .cells (sixCells x) 23) (row_keep k1.out hb))
      have k2 := Lib.hid (heap_alloc_new w3 (.cells (sixCells x) 23))
      clear hb hB3 hcv
      go_wp2_with (refine wpList_store_six rfl _ _ rfl rfl x hx8.out _ rfl rfl rfl ?_)
      refine (lower_any s _ (by omega)).mono ?_
      rintro e w4 ⟨t, rfl, ht4, hb⟩
      have hB5 := hB4.next hb
      replace k1 := Lib.hid (row_keep k1.out hb)
      replace k2 := Lib.hid (row_keep k2.out hb)
      have hP3 : Hid (sixP t.toList = sixP s.toList) := Lib.hid (by rw [ht4.out, lower_map]; exact sixP_case case_lower _)
      have hz3 : Hid (t.size ≤ 1000000) := Lib.hid (by rw [← size_toList, ht4.out, lower_map, List.length_map, size_toList]; omega)
      clear hb hB4
      go_wp2_with fail
      refine (parse10 (s := t) _ (hm.next hB5) hz3.out hP3.out hx.out.1 hx.out.2).mono ?_
      rintro e w5 ⟨rfl, hb⟩
      have hB6 : Below w.heap.size w (w5.alloc (.cells (sixCells x) 23)) := (hB5.next hb).alloc ((hB5.next hb).size) _
      replace k1 := Lib.hid (row_old (p := .cells (sixCells x) 23) (row_keep k1.out hb))
      replace k2 := Lib.hid (row_old (p := .cells (sixCells x) 23) (row_keep k2.out hb))
      have k3 := Lib.hid (heap_alloc_new w5 (.cells (sixCells x) 23))
      have hq : ∀ w, (Op.equalIn 10000 23 (.agg (sixCells x)) (.agg (sixCells x))).run Tryd.prog w = .ok true w := fun w => by
        rw [run_equalIn_six w x x hx8.out hx8.out, decide_eq_true rfl]
      clear hb hB5
      go_wp2_with (first
        | (refine wpList_store_six rfl _ _ rfl rfl x hx8.out _ rfl rfl rfl ?_)
        | (refine wpList_unguard (by rfl) ?_; refine wpList_load_six rfl _ rfl (l := x) hx8.out k1.out rfl ?_)
        | (refine wpList_unguard (by rfl) ?_; refine wpList_load_six rfl _ rfl (l := x) hx8.out k2.out rfl ?_)
        | (refine wpList_unguard (by rfl) ?_; refine wpList_load_six rfl _ rfl (l := x) hx8.out k3.out rfl ?_))
      go_ret
      exact ⟨rfl, hB6⟩
end Go.Proofs.YtgkbdcdfpoaifaaDoor
