/- The walk of SixForms. -/
import Derived.Test.YtgkbdcdfpoaifaaDoorSixFormsP
import Derived.Test.YtgkbdcdfpoaifaaDoorSixOpen
namespace Go.Proofs.YtgkbdcdfpoaifaaDoor
open Go.RowKit
set_option linter.unusedVariables false
set_option linter.unusedSimpArgs false

set_option maxRecDepth 100000 in
set_option maxHeartbeats 8000000 in
theorem sixForms_walk (a : List Nat) (fz tz : Int) (w : World) (ha : Six a) (wf : (Lit.int .i64 fz).wf = true) (wt : (Lit.int .i64 tz).wf = true) (ht : Tabs w) (hm : ML w) :
    Calls Tryd.prog 8 #[.agg (sixCells a), .int .i64 fz, .int .i64 tz] w (RetB w true) := by
  have hgd := eqGuard_six
  have hB : Below w.heap.size w (w.alloc (.cells (sixCells a) 23)) := (Below.refl _ _).alloc (Nat.le_refl _) _
  have k0 := Lib.hid (heap_alloc_new w (.cells (sixCells a) 23))
  have ha8 := Lib.hid ha.len
  have h6 := (ha.at 6 (by decide)).1
  have h7 := (ha.at 7 (by decide)).1
  have c6 := Lib.hid (ha.at 6 (by decide)).2
  have c7 := Lib.hid (ha.at 7 (by decide)).2
  have hP : ∀ s : ByteArray, Hid (s.toList = wholeL a) → ∀ b : ByteArray, Hid (b.toList = fourL (pc a 6 * 65536 + pc a 7)) → s.size = 39 ∧ b.size ≤ 15 ∧ Hid (sixP s.toList = some a) ∧ Hid (sixP (s.extract 0 30 ++ b : ByteArray).toList = some a) ∧ Hid ((s.extract 0 30 ++ b : ByteArray).size ≤ 1000000) ∧ (s.extract 0 30).size ≤ 39 := fun s hs b hb => by
    have hz : s.size = 39 := by
      have := whole_len a (six_ne ha)
      rw [ha.len] at this
      rw [← size_toList, hs.out]; omega
    have hbz : b.size ≤ 15 := by rw [← size_toList, hb.out]; exact (fourL_size _).2
    have hx : (s.extract 0 30).size ≤ 39 := by rw [← size_toList, toList_extract, List.drop_zero, List.length_take, size_toList]; omega
    exact ⟨hz, hbz, Lib.hid (by rw [hs.out]; exact whole_back ha), Lib.hid (by rw [toList_append, toList_extract, List.drop_zero, hs.out, hb.out]; exact forms_b ha), Lib.hid (by rw [ByteArray.size_append]; omega), hx⟩
  replace hP := Lib.hid hP
  obtain ⟨x6, hx6⟩ : ∃ x, pc a 6 = x := ⟨_, rfl⟩
  obtain ⟨x7, hx7⟩ : ∃ x, pc a 7 = x := ⟨_, rfl⟩
  rw [hx6] at h6 c6 hP
  rw [hx7] at h7 c7 hP
  have e1 : IntKind.u32.wrap (x6 : Int) = (x6 : Int) := IntWalk.u32_in _ (by omega)
  have e2 : IntKind.u32.wrap (x7 : Int) = (x7 : Int) := IntWalk.u32_in _ (by omega)
  have e3 : IntKind.u32.wrap ((x6 : Int) * 65536) = (x6 : Int) * 65536 := IntWalk.u32_in _ (by omega)
  have e4 : IntKind.u32.wrap ((x6 : Int) * 65536 + (x7 : Int)) = (x6 : Int) * 65536 + (x7 : Int) := IntWalk.u32_in _ (by omega)
  have hfw := Lib.hid (fun w ht => show Calls Tryd.prog 16 #[.int .u32 ((x6 : Int) * 65536 + (x7 : Int))] w (RetS w (fourL (x6 * 65536 + x7))) from by
    have := fourWrite_any (x6 * 65536 + x7) (by omega) w ht
    rw [show (((x6 * 65536 + x7 : Nat)) : Int) = (x6 : Int) * 65536 + (x7 : Int) by omega] at this
    exact this)
  replace hx6 := Lib.hid hx6
  replace hx7 := Lib.hid hx7
  have hq : ∀ w, (Op.equalIn 10000 23 (.agg (sixCells a)) (.agg (sixCells a))).run Tryd.prog w = .ok true w := fun w => by
    rw [run_equalIn_six w a a ha8.out ha8.out, decide_eq_true rfl]
  go_enter Tryd.func8, Tryd.ntmps8
  go_wp2_with fail
  refine (small10_any _ (hm.next hB) (ht.next hB)).mono ?_
  rintro e w1 ⟨rfl, hb⟩
  replace hB := hB.next hb
  replace k0 := Lib.hid (row_keep k0.out hb)
  clear hb
  go_wp2_with (refine wpList_load_six rfl _ rfl (l := a) ha8.out k0.out rfl ?_)
  refine (whole_any a _ ha).mono ?_
  rintro e w2 ⟨s, rfl, hs, hb⟩
  replace hB := hB.next hb
  replace k0 := Lib.hid (row_keep k0.out hb)
  clear hb
  have hs39 : s.size = 39 := by
    have := whole_len a (six_ne ha)
    rw [ha8.out] at this
    rw [← size_toList, hs.out]; omega
  have hsP : Hid (sixP s.toList = some a) := Lib.hid (by rw [hs.out]; exact whole_back ha)
  have hz1 : (s.size : Int) ≤ 39 := by omega
  have hz2 : (30 : Int) ≤ (s.size : Int) := by omega
  have hz3 : s.size ≤ 1000000 := by omega
  replace hs39 := Lib.hid hs39
  go_wp2_with fail
  refine (parse10_yes (s := s) _ (hm.next hB) hz3 hsP.out).mono ?_
  rintro e w3 ⟨rfl, hb⟩
  replace hB : Below w.heap.size w (w3.alloc (.cells (sixCells a) 23)) := (hB.next hb).alloc ((hB.next hb).size) _
  replace k0 := Lib.hid (row_old (p := .cells (sixCells a) 23) (row_keep k0.out hb))
  have k1 := Lib.hid (heap_alloc_new w3 (.cells (sixCells a) 23))
  clear hb
  have y6 : (w3.alloc (.cells (sixCells a) 23)).cell? ⟨w.heap.size, 6, none⟩ = some (.int .u16 (x6 : Int)) := (cell_of_row _ _ 6 _ _ _ k0.out).trans c6.out
  have y7 : (w3.alloc (.cells (sixCells a) 23)).cell? ⟨w.heap.size, 7, none⟩ = some (.int .u16 (x7 : Int)) := (cell_of_row _ _ 7 _ _ _ k0.out).trans c7.out
  go_wp2_with (refine wpList_store_six rfl _ _ rfl rfl a ha8.out _ rfl rfl rfl ?_)
  refine (hfw.out _ (ht.next hB)).mono ?_
  rintro e w4 ⟨b, rfl, hbt, hb⟩
  replace hB := hB.next hb
  replace k0 := Lib.hid (row_keep k0.out hb)
  replace k1 := Lib.hid (row_keep k1.out hb)
  clear hb y6 y7
  obtain ⟨-, hbz, -, hP2, hPz, hx30⟩ := hP.out s hs b hbt
  clear hP hfw e1 e2 e3 e4
  go_wp2_with fail
  refine (parse10_yes _ (hm.next hB) hPz.out hP2.out).mono ?_
  rintro e w5 ⟨rfl, hb⟩
  replace hB : Below w.heap.size w (w5.alloc (.cells (sixCells a) 23)) := (hB.next hb).alloc ((hB.next hb).size) _
  replace k0 := Lib.hid (row_old (p := .cells (sixCells a) 23) (row_keep k0.out hb))
  replace k1 := Lib.hid (row_old (p := .cells (sixCells a) 23) (row_keep k1.out hb))
  have k2 := Lib.hid (heap_alloc_new w5 (.cells (sixCells a) 23))
  clear hb
  by_cases hout : fz < 0 ∨ tz ≤ fz ∨ 8 < tz
  · have hway : fz < 0 ∨ (0 ≤ fz ∧ tz ≤ fz) ∨ (0 ≤ fz ∧ fz < tz ∧ 8 < tz) := by omega
    clear hout
    rcases hway with g1 | ⟨g1, g2⟩ | ⟨g1, g2, g3⟩
    all_goals
      go_wp2_with (first
        | (refine wpList_store_six rfl _ _ rfl rfl a ha8.out _ rfl rfl rfl ?_)
        | (refine wpList_unguard (by rfl) ?_; refine wpList_load_six rfl _ rfl (l := a) ha8.out k0.out rfl ?_)
        | (refine wpList_unguard (by rfl) ?_; refine wpList_load_six rfl _ rfl (l := a) ha8.out k1.out rfl ?_)
        | (refine wpList_unguard (by rfl) ?_; refine wpList_load_six rfl _ rfl (l := a) ha8.out k2.out rfl ?_))
      go_ret
      exact ⟨rfl, hB⟩
  have g1 : 0 ≤ fz := by omega
  have g2 : fz < tz := by omega
  have g3 : tz ≤ 8 := by omega
  obtain ⟨f, rfl⟩ : ∃ f : Nat, fz = (f : Int) := ⟨fz.toNat, by omega⟩
  obtain ⟨t, rfl⟩ : ∃ t : Nat, tz = (t : Int) := ⟨tz.toNat, by omega⟩
  have gN2 : f < t := by omega
  have gN3 : t ≤ 8 := by omega
  clear hout
  go_wp2_with (first
    | (refine wpList_store_six rfl _ _ rfl rfl a ha8.out _ rfl rfl rfl ?_)
    | (refine wpList_unguard (by rfl) ?_; refine wpList_load_six rfl _ rfl (l := a) ha8.out k0.out rfl ?_)
    | (refine wpList_unguard (by rfl) ?_; refine wpList_load_six rfl _ rfl (l := a) ha8.out k1.out rfl ?_)
    | (refine wpList_unguard (by rfl) ?_; refine wpList_load_six rfl _ rfl (l := a) ha8.out k2.out rfl ?_))
  generalize w5.alloc (.cells (sixCells a) 23) = w6 at hB k0 k1 k2 ⊢
  go_loopw [14] (fun iv wr => ∃ i : Nat, iv = .int .i64 i ∧ f ≤ i ∧ i ≤ t ∧ Below w.heap.size w wr ∧ Hid (wr.heap[w.heap.size]? = some (.cells (sixCells (midZ a f i)) 23))) (fun iv _ => t - (intOf iv).toNat)
  case atStart => exact ⟨f, rfl, Nat.le_refl _, by omega, hB, Lib.hid (by rw [midZ_at (by rw [ha8.out]; omega)]; exact k0.out)⟩
  case round =>
    clear hB k0 k1 k2
    obtain ⟨i, rfl, hfi, hit, hB, k0⟩ := hrel
    by_cases hlt : i < t
    · have hltI : (i : Int) < (t : Int) := by omega
      have hi8 : (i : Int) < 8 := by omega
      have hcl : ∃ v, wr.cell? ⟨w.heap.size, i, none⟩ = some v := by
        rw [cell_of_row _ _ i _ _ _ k0.out]
        have : i < (sixCells (midZ a f i)).size := by simp [sixCells, midZ_len hfi (show i ≤ a.length by rw [ha8.out]; omega), ha8.out]; omega
        exact ⟨_, Array.getElem?_eq_getElem this⟩
      obtain ⟨v, hcv⟩ := hcl
      have hfr : wr.frozen? ⟨w.heap.size, i, none⟩ = false := by simp [World.frozen?, k0.out]
      have hnew := Lib.hid (set_at k0.out i (.int .u16 0))
      go_wp2_with fail
      go_roundw
      case rel => exact ⟨i + 1, by go_num, by omega, by omega, hB.setCell (Nat.le_refl _) _, Lib.hid (by rw [hnew.out, sixCells_set, midZ_set hfi (by rw [ha8.out]; omega)])⟩
      case measure => simp [intOf]; omega
    · obtain rfl : i = t := by omega
      clear hlt
      have hm8 : Hid ((midZ a f i).length = 8) := Lib.hid (by rw [midZ_len hfi (by rw [ha8.out]; omega), ha8.out])
      have hq2 : ∀ w, (Op.equalIn 10000 23 (.agg (sixCells (midZ a f i))) (.agg (sixCells (midZ a f i)))).run Tryd.prog w = .ok true w := fun w => by
        rw [run_equalIn_six w _ _ hm8.out hm8.out, decide_eq_true rfl]
      have hz := forms_z ha gN2 gN3
      have hnil : (ByteArray.mk #[]).toList = [] := toList_mk []
      obtain ⟨fr, hfr, hfz, hfw⟩ : ∃ fr : ByteArray, Hid (fr.toList = wholeL (a.take f)) ∧ fr.size ≤ 39 ∧ ((f = 0 ∧ fr = ⟨#[]⟩) ∨ (0 < f ∧ ∃ p : Nat, (5 : Int) * (f : Int) - 1 = (p : Int) ∧ p ≤ 39 ∧ fr = s.extract 0 p)) := by
        by_cases h0 : f = 0
        · exact ⟨⟨#[]⟩, Lib.hid (by rw [hnil, h0]; rfl), by decide, .inl ⟨h0, rfl⟩⟩
        · have hle : (s.extract 0 (5 * f - 1)).toList = wholeL (a.take f) := by rw [toList_extract, List.drop_zero, hs.out]; exact (whole_take ha f (by omega) (by omega)).1
          refine ⟨s.extract 0 (5 * f - 1), Lib.hid hle, ?_, .inr ⟨by omega, 5 * f - 1, by omega, by omega, rfl⟩⟩
          have h := congrArg List.length hle
          rw [← size_toList, toList_extract, List.drop_zero, List.length_take, size_toList]
          have := hs39.out; omega
      obtain ⟨bk, hbk, hbkz, hbw⟩ : ∃ bk : ByteArray, Hid (bk.toList = wholeL (a.drop i)) ∧ bk.size ≤ 39 ∧ ((i = 8 ∧ bk = ⟨#[]⟩) ∨ (i < 8 ∧ ∃ q : Nat, (5 : Int) * (i : Int) = (q : Int) ∧ q ≤ 39 ∧ bk = s.extract q s.size)) := by
        by_cases h0 : i = 8
        · exact ⟨⟨#[]⟩, Lib.hid (by rw [hnil, h0, List.drop_of_length_le (by rw [ha8.out]; decide)]; rfl), by decide, .inl ⟨h0, rfl⟩⟩
        · have hle : (s.extract (5 * i) s.size).toList = wholeL (a.drop i) := by
            rw [toList_extract, List.take_of_length_le (by rw [size_toList]; exact Nat.le_refl _), hs.out]
            exact (whole_take ha i (by omega) (by omega)).2
          refine ⟨s.extract (5 * i) s.size, Lib.hid hle, ?_, .inr ⟨by omega, 5 * i, by omega, by omega, rfl⟩⟩
          rw [← size_toList, toList_extract, List.length_drop, List.length_take, size_toList]
          have := hs39.out; omega
      have hall : Hid (sixP (fr ++ ⟨#[58, 58]⟩ ++ bk : ByteArray).toList = some (midZ a f i)) := Lib.hid (by
        rw [toList_append, toList_append, hfr.out, hbk.out, show (ByteArray.mk #[58, 58]).toList = [58, 58] from toList_mk _, List.append_assoc]
        exact hz)
      have hallz : Hid ((fr ++ ⟨#[58, 58]⟩ ++ bk : ByteArray).size ≤ 1000000) := Lib.hid (by
        rw [ByteArray.size_append, ByteArray.size_append]
        have : (ByteArray.mk #[58, 58]).size = 2 := rfl
        omega)
      have hs39I : (s.size : Int) = 39 := by have := hs39.out; omega
      replace hs39I := Lib.hid hs39I
      replace hnil := Lib.hid hnil
      clear hz hq
      have hfw2 : ((f : Int) ≤ 0 ∧ fr = ⟨#[]⟩) ∨ ((0 : Int) < (f : Int) ∧ ∃ p : Nat, (5 : Int) * (f : Int) - 1 = (p : Int) ∧ p ≤ 39 ∧ fr = s.extract 0 p) := by
        rcases hfw with ⟨h, h2⟩ | ⟨h, h2⟩
        · exact .inl ⟨by omega, h2⟩
        · exact .inr ⟨by omega, h2⟩
      have hbw2 : ((8 : Int) ≤ (i : Int) ∧ bk = ⟨#[]⟩) ∨ ((i : Int) < 8 ∧ ∃ q : Nat, (5 : Int) * (i : Int) = (q : Int) ∧ q ≤ 39 ∧ bk = s.extract q s.size) := by
        rcases hbw with ⟨h, h2⟩ | ⟨h, h2⟩
        · exact .inl ⟨by omega, h2⟩
        · exact .inr ⟨by omega, h2⟩
      clear hfw hbw
      rcases hfw2 with ⟨hf0, rfl⟩ | ⟨hf0, p, hp, hp39, rfl⟩ <;> rcases hbw2 with ⟨hi8, rfl⟩ | ⟨hi8, q, hqq, hq39, rfl⟩
      case neg.inl.inl =>
        go_wp2_with fail
        refine (parse10_yes _ (hm.next hB) hallz.out hall.out).mono ?_
        rintro e w7 ⟨rfl, hb⟩
        replace hB : Below w.heap.size w (w7.alloc (.cells (sixCells (midZ a f i)) 23)) := (hB.next hb).alloc ((hB.next hb).size) _
        replace k0 := Lib.hid (row_old (p := .cells (sixCells (midZ a f i)) 23) (row_keep k0.out hb))
        have k1 := Lib.hid (heap_alloc_new w7 (.cells (sixCells (midZ a f i)) 23))
        clear hb
        go_wp2_with (first
          | (refine wpList_store_six rfl _ _ rfl rfl (midZ a f i) hm8.out _ rfl rfl rfl ?_)
          | (refine wpList_unguard (by rfl) ?_; refine wpList_load_six rfl _ rfl (l := midZ a f i) hm8.out k0.out rfl ?_)
          | (refine wpList_unguard (by rfl) ?_; refine wpList_load_six rfl _ rfl (l := midZ a f i) hm8.out k1.out rfl ?_))
        go_ret
        exact ⟨rfl, hB⟩
      case neg.inl.inr =>
        have hqs : (q : Int) ≤ (s.size : Int) := by have := hs39I.out; omega
        go_wp2_with fail
        refine (parse10_yes _ (hm.next hB) hallz.out hall.out).mono ?_
        rintro e w7 ⟨rfl, hb⟩
        replace hB : Below w.heap.size w (w7.alloc (.cells (sixCells (midZ a f i)) 23)) := (hB.next hb).alloc ((hB.next hb).size) _
        replace k0 := Lib.hid (row_old (p := .cells (sixCells (midZ a f i)) 23) (row_keep k0.out hb))
        have k1 := Lib.hid (heap_alloc_new w7 (.cells (sixCells (midZ a f i)) 23))
        clear hb
        go_wp2_with (first
          | (refine wpList_store_six rfl _ _ rfl rfl (midZ a f i) hm8.out _ rfl rfl rfl ?_)
          | (refine wpList_unguard (by rfl) ?_; refine wpList_load_six rfl _ rfl (l := midZ a f i) hm8.out k0.out rfl ?_)
          | (refine wpList_unguard (by rfl) ?_; refine wpList_load_six rfl _ rfl (l := midZ a f i) hm8.out k1.out rfl ?_))
        go_ret
        exact ⟨rfl, hB⟩
      case neg.inr.inl =>
        have hps : (p : Int) ≤ (s.size : Int) := by have := hs39I.out; omega
        go_wp2_with fail
        refine (parse10_yes _ (hm.next hB) hallz.out hall.out).mono ?_
        rintro e w7 ⟨rfl, hb⟩
        replace hB : Below w.heap.size w (w7.alloc (.cells (sixCells (midZ a f i)) 23)) := (hB.next hb).alloc ((hB.next hb).size) _
        replace k0 := Lib.hid (row_old (p := .cells (sixCells (midZ a f i)) 23) (row_keep k0.out hb))
        have k1 := Lib.hid (heap_alloc_new w7 (.cells (sixCells (midZ a f i)) 23))
        clear hb
        go_wp2_with (first
          | (refine wpList_store_six rfl _ _ rfl rfl (midZ a f i) hm8.out _ rfl rfl rfl ?_)
          | (refine wpList_unguard (by rfl) ?_; refine wpList_load_six rfl _ rfl (l := midZ a f i) hm8.out k0.out rfl ?_)
          | (refine wpList_unguard (by rfl) ?_; refine wpList_load_six rfl _ rfl (l := midZ a f i) hm8.out k1.out rfl ?_))
        go_ret
        exact ⟨rfl, hB⟩
      case neg.inr.inr =>
        have hps : (p : Int) ≤ (s.size : Int) := by have := hs39I.out; omega
        have hqs : (q : Int) ≤ (s.size : Int) := by have := hs39I.out; omega
        go_wp2_with fail
        refine (parse10_yes _ (hm.next hB) hallz.out hall.out).mono ?_
        rintro e w7 ⟨rfl, hb⟩
        replace hB : Below w.heap.size w (w7.alloc (.cells (sixCells (midZ a f i)) 23)) := (hB.next hb).alloc ((hB.next hb).size) _
        replace k0 := Lib.hid (row_old (p := .cells (sixCells (midZ a f i)) 23) (row_keep k0.out hb))
        have k1 := Lib.hid (heap_alloc_new w7 (.cells (sixCells (midZ a f i)) 23))
        clear hb
        go_wp2_with (first
          | (refine wpList_store_six rfl _ _ rfl rfl (midZ a f i) hm8.out _ rfl rfl rfl ?_)
          | (refine wpList_unguard (by rfl) ?_; refine wpList_load_six rfl _ rfl (l := midZ a f i) hm8.out k0.out rfl ?_)
          | (refine wpList_unguard (by rfl) ?_; refine wpList_load_six rfl _ rfl (l := midZ a f i) hm8.out k1.out rfl ?_))
        go_ret
        exact ⟨rfl, hB⟩
end Go.Proofs.YtgkbdcdfpoaifaaDoor
