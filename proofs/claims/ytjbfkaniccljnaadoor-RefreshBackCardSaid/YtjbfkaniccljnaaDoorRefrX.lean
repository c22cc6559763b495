/- The contract of refresh.Parse. -/
import Derived.Test.YtjbfkaniccljnaaDoorRefrW
import Derived.Deep.CutBlock
import Derived.IntWalk
import Derived.Laws.Rows
import Derived.Laws.ResultCell
namespace Go.Proofs.YtjbfkaniccljnaaDoor
open Go.RowKit
set_option linter.unusedVariables false
set_option linter.unusedSimpArgs false

/-- What a refresh's text tells, as Parse hands it back. -/
def RetP (w : World) (o : Option (List UInt8 × Bool × List UInt8)) (e : Ending) (w' : World) : Prop :=
  ∃ (d u : ByteArray) (h b : Bool), e = .returned (.tuple #[.agg #[.string d, .bool h, .string u], .bool b]) ∧ Below w.heap.size w w' ∧ d.size ≤ 1000000 ∧ u.size ≤ 1000000 ∧
    Hid ((o = none ∧ b = false ∧ d.toList = [] ∧ h = false ∧ u.toList = []) ∨ (o = some (d.toList, h, u.toList) ∧ b = true))
theorem take_drop_while {p : UInt8 → Bool} (l : List UInt8) : l.take (l.takeWhile p).length = l.takeWhile p ∧ l.drop (l.takeWhile p).length = l.dropWhile p := by
  induction l with
  | nil => exact ⟨rfl, rfl⟩
  | cons c r ih =>
    cases h : p c
    · rw [List.takeWhile_cons, List.dropWhile_cons, h]; exact ⟨rfl, rfl⟩
    · rw [List.takeWhile_cons, List.dropWhile_cons, h]
      exact ⟨by show c :: List.take _ r = c :: _; rw [ih.1], by show List.drop _ r = List.dropWhile p r; rw [ih.2]⟩
theorem while_len {p : UInt8 → Bool} (l : List UInt8) : (l.takeWhile p).length ≤ l.length := by
  have := congrArg List.length (List.takeWhile_append_dropWhile (p := p) (l := l))
  rw [List.length_append] at this; omega
theorem set_new (w : World) (t : TypeId) (a b c v : Value) : (w.alloc (.cells #[a, b, c] t)).setCell ⟨w.heap.size, 0, none⟩ v = w.alloc (.cells #[v, b, c] t) := by
  simp only [World.setCell, World.alloc]
  congr 1
  apply Array.ext_getElem?
  intro k
  simp only [Array.getElem?_modify, Array.getElem?_push]
  by_cases hk : w.heap.size = k
  · subst hk; simp
  · simp [hk, Ne.symm hk]
theorem two_first (w : World) (A B : Obj) : ((w.alloc A).alloc B).heap[w.heap.size]? = some A := by
  rw [heap_alloc_old _ _ (by simp), heap_alloc_new]
theorem two_below (w : World) (A B : Obj) : Below w.heap.size w ((w.alloc A).alloc B) := ((Below.refl _ _).alloc (Nat.le_refl _) _).alloc (by simp) _
theorem parse_ret {R : Ending → World → Prop} {a : Act} {w : World} {g : Nat} {d u : ByteArray} {h b : Bool} (h2 : a.tmps.getD 2 undef = .pointer (some ⟨g, 0, none⟩)) (h3 : a.tmps.getD 3 undef = .bool b) (hd : a.defers = [])
    (hg : w.heap[g]? = some (.cells #[.string d, .bool h, .string u] 25)) (hR : R (.returned (.tuple #[.agg #[.string d, .bool h, .string u], .bool b])) w) :
    bodyPost Tryd.prog Tryd.f7 R .ret a w := by
  refine bodyPost_ret (v := .tuple #[.agg #[.string d, .bool h, .string u], .bool b]) ?_ hd hR
  rw [results_cell_tmp rfl, h2, h3]
  simp [asAddr, Result.andThen, run_loadVar_row (P := Tryd.prog) w g _ 25 _ _ _ hg Tryd.underlying25 rfl (by kernel_rfl)]
set_option maxRecDepth 100000 in
set_option maxHeartbeats 4000000 in
theorem parseR_any (s : ByteArray) (w : World) (hs : s.size ≤ 1000000) (hm : ML w) :
    Calls Tryd.prog 7 #[.string s] w (RetP w (parseL s.toList)) := by
  have hbl := Lib.hid (fun w => blanksR_any s w (by omega))
  have e00 : (ByteArray.mk #[]).toList = [] := toList_mk []
  go_enter Tryd.func7, Tryd.ntmps7
  go_wp2_with fail
  refine (hbl.out _).mono ?_
  rintro e wx ⟨x, rfl, hx, hxz, rfl⟩
  obtain ⟨d, hd⟩ : ∃ d, x.toList.takeWhile dgt = d := ⟨_, rfl⟩
  obtain ⟨n, hn⟩ : ∃ n, d.length = n := ⟨_, rfl⟩
  obtain ⟨R, hR⟩ : ∃ R, x.toList.dropWhile dgt = R := ⟨_, rfl⟩
  have hxlen := size_toList x
  have hnx : n ≤ x.size := by rw [← hn, ← hd, ← hxlen]; exact while_len _
  have hdt : x.toList.take n = d := by rw [← hn, ← hd]; exact (take_drop_while _).1
  have hdR : x.toList.drop n = R := by rw [← hn, ← hd, ← hR]; exact (take_drop_while _).2
  have hP : Hid (parseL s.toList = if d = [] ∧ x.toList.head? ≠ some 46 then none else tailP d (R.dropWhile dotD)) := Lib.hid (by
    unfold parseL parseQ; rw [← hx.out, hd, hR])
  have hnI : (n : Int) ≤ (x.size : Int) := by omega
  have hd2 := Lib.hid hd
  replace hxlen := Lib.hid hxlen
  clear hd
  go_upto_block 0 with (fail)
  go_cut [4] (fun s4 wx => s4 = .int .i64 (n : Int) ∧ wx = w.alloc (.cells #[.string ⟨#[]⟩, .bool false, .string ⟨#[]⟩] 25))
  case first => as_aux_lemma =>
    go_wp2_with fail
    go_loop [4] (fun iv => ∃ k : Nat, iv = .int .i64 k ∧ k ≤ x.size ∧ Hid (n = k + ((x.toList.drop k).takeWhile dgt).length)) (fun iv => x.size - (intOf iv).toNat)
    case atStart => exact ⟨0, rfl, Nat.zero_le _, Lib.hid (by rw [List.drop_zero, hd2.out, hn, Nat.zero_add])⟩
    case round =>
      obtain ⟨k, rfl, hk, hg⟩ := hrel
      by_cases hlt : k < x.size
      · have hdr := drop_cons x k hlt
        have hltI : (k : Int) < (x.size : Int) := by omega
        rw [hdr, List.takeWhile_cons] at hg
        clear hdr
        by_cases hdg : digitZ (x[k].toNat : Int) 10 < 0
        · have hdf := (digitZ_dgt _).1 hdg
          rw [hdf] at hg
          have hfin : Hid (n = k) := Lib.hid hg.out
          clear hg
          replace hdf := Lib.hid hdf
          go_wp2_with (go_at_call 9; refine (digit_any _ _ _ (byte_nn _) (byte_le _)).mono ?_; rintro e w' ⟨rfl, rfl⟩)
          go_meet
          exact ⟨by rw [hfin.out], rfl⟩
        · have hdt2 : dgt x[k] = true := by
            cases h : dgt x[k]
            · exact absurd ((digitZ_dgt _).2 h) hdg
            · rfl
          rw [hdt2] at hg
          have hnew : Hid (n = (k + 1) + ((x.toList.drop (k + 1)).takeWhile dgt).length) := Lib.hid (by have := hg.out; simp only [if_true, List.length_cons] at this; omega)
          clear hg
          replace hdt2 := Lib.hid hdt2
          have hd0 : 0 ≤ digitZ (x[k].toNat : Int) 10 := by omega
          go_wp2_with (go_at_call 9; refine (digit_any _ _ _ (byte_nn _) (byte_le _)).mono ?_; rintro e w' ⟨rfl, rfl⟩)
          go_round
          case rel => exact ⟨k + 1, by go_num, by omega, hnew⟩
          case measure => simp [intOf]; omega
      · have hge : (x.size : Int) ≤ (k : Int) := by omega
        have hfin : Hid (n = k) := Lib.hid (by have := hg.out; rw [drop_end x k (by omega)] at this; exact this)
        clear hg
        go_wp2_with fail
        go_meet
        exact ⟨by rw [hfin.out], rfl⟩
  case rest =>
    obtain ⟨rfl, rfl⟩ := hcut
    have hhp := Lib.hid (fun w => Tryd.strings_HasPrefix x ⟨#[46]⟩ w)
    have hpe : Lib.hasPrefix x.data.toList [46] = decide (x.toList.head? = some 46) := by
      rw [← ByteArray.toList_eq, hasPre1]
      cases x.toList with
      | nil => rfl
      | cons c r =>
        show (46 == c) = decide ((some c : Option UInt8) = some 46)
        by_cases h : c = 46
        · subst h; rfl
        · rw [decide_eq_false (fun h2 => h (Option.some.inj h2))]; simpa using Ne.symm h
    by_cases hN : d = [] ∧ x.toList.head? ≠ some 46
    · have hno : Hid (parseL s.toList = none) := Lib.hid (by rw [hP.out, if_pos hN])
      have hn0 : n = 0 := by rw [← hn, hN.1]; rfl
      rw [decide_eq_false hN.2] at hpe
      have hhp2 : Hid (∀ w, Calls Tryd.prog 14 #[.string x, .string ⟨#[46]⟩] w fun e w' => e = .returned (.bool false) ∧ w' = w) := Lib.hid (fun w => by have := hhp.out w; rw [hpe] at this; exact this)
      clear hhp hpe hN hP
      subst hn0
      replace hn := Lib.hid hn
      replace hdt := Lib.hid hdt
      replace hdR := Lib.hid hdR
      go_wp2_with (go_at_call 14; refine (hhp2.out _).mono ?_; rintro e w' ⟨rfl, rfl⟩)
      refine parse_ret rfl rfl rfl (heap_alloc_new _ _) ⟨⟨#[]⟩, ⟨#[]⟩, false, false, rfl, (Below.refl _ _).alloc (Nat.le_refl _) _, Nat.zero_le _, Nat.zero_le _, Lib.hid (.inl ⟨hno.out, rfl, e00, rfl, e00⟩)⟩
    have hyes : Hid (parseL s.toList = tailP d (R.dropWhile dotD)) := Lib.hid (by rw [hP.out, if_neg hN])
    have hway : ((n : Int) == 0) = false ∨ (((n : Int) == 0) = true ∧ Hid (∀ w, Calls Tryd.prog 14 #[.string x, .string ⟨#[46]⟩] w fun e w' => e = .returned (.bool true) ∧ w' = w)) := by
      by_cases h0 : n = 0
      · refine .inr ⟨by rw [h0]; rfl, Lib.hid (fun w => ?_)⟩
        have hd0 : d = [] := List.length_eq_zero_iff.1 (by omega)
        have hh : x.toList.head? = some 46 := by
          by_cases h : x.toList.head? = some 46
          · exact h
          · exact absurd ⟨hd0, h⟩ hN
        rw [decide_eq_true hh] at hpe
        have := hhp.out w
        rw [hpe] at this; exact this
      · exact .inl (by simp only [beq_eq_false_iff_ne, ne_eq]; omega)
    clear hhp hpe hN hP
    -- the time
    obtain ⟨dt, hdt2⟩ : ∃ q, x.extract 0 n = q := ⟨_, rfl⟩
    have hdtl : dt.toList = d := by rw [← hdt2, toList_extract, List.drop_zero]; exact hdt
    have hdtz : dt.size ≤ x.size := by rw [← hdt2]; exact size_ext _ _ _
    obtain ⟨tl, htl⟩ : ∃ q : ByteArray, (⟨(Lib.trimLeftB dt.data.toList 48).toArray⟩ : ByteArray) = q := ⟨_, rfl⟩
    have htll : tl.toList = d.dropWhile (· == 48) := by
      rw [← htl, toList_mk, ← ByteArray.toList_eq, hdtl]; rfl
    have htlz : tl.size ≤ dt.size := by
      rw [← size_toList, htll, ← size_toList, hdtl]
      have := congrArg List.length (List.takeWhile_append_dropWhile (p := (· == 48)) (l := d))
      rw [List.length_append] at this; omega
    have htrim : Hid (∀ w, Calls Tryd.prog 15 #[.string dt, .string ⟨#[48]⟩] w fun e w' => e = .returned (.string tl) ∧ w' = w) := Lib.hid (fun w => by
      have := Tryd.strings_TrimLeft_one dt 48 (by decide) w
      rw [htl] at this; exact this)
    obtain ⟨td, htd, htdz⟩ : ∃ td : ByteArray, ((tl.toList.isEmpty = true ∧ td = ⟨#[48]⟩) ∨ (tl.toList.isEmpty = false ∧ td = tl)) ∧ td.size ≤ 1000000 := by
      cases h : tl.toList.isEmpty
      · exact ⟨tl, .inr ⟨rfl, rfl⟩, by omega⟩
      · exact ⟨⟨#[48]⟩, .inl ⟨rfl, rfl⟩, by decide⟩
    have htdl : Hid (td.toList = delayL d) := Lib.hid (by
      unfold delayL
      rw [← htll]
      rcases htd with ⟨h, rfl⟩ | ⟨h, rfl⟩
      · rw [if_pos (List.isEmpty_iff.1 h)]; exact toList_mk [48]
      · rw [if_neg (fun h2 => by rw [h2] at h; cases h)])
    replace hn := Lib.hid hn
    replace hdt := Lib.hid hdt
    replace hdR := Lib.hid hdR
    replace hR := Lib.hid hR
    replace hdtl := Lib.hid hdtl
    replace htll := Lib.hid htll
    replace htl := Lib.hid htl
    go_upto_region 5 with (fail)
    go_cut [27] (fun s27 wx => s27 = .bool false ∧ wx = w.alloc (.cells #[.string ⟨#[]⟩, .bool false, .string ⟨#[]⟩] 25))
    case first => as_aux_lemma =>
      rcases hway with h | ⟨h, hh⟩
      · go_wp2_with fail
        go_meet
        exact ⟨rfl, rfl⟩
      · go_wp2_with (go_at_call 14; refine (hh.out _).mono ?_; rintro e w' ⟨rfl, rfl⟩)
        go_meet
        exact ⟨rfl, rfl⟩
    case rest =>
      obtain ⟨rfl, rfl⟩ := hcut
      clear hway
      go_upto_if 36 with (go_at_call 15; refine (htrim.out _).mono ?_; rintro e w' ⟨rfl, rfl⟩)
      go_cut [4] (fun s4 wx => s4 = .int .i64 (n : Int) ∧ wx = (w.alloc (.cells #[.string ⟨#[]⟩, .bool false, .string ⟨#[]⟩] 25)).alloc (.cells #[.string td, .bool false, .string ⟨#[]⟩] 25))
      case first => as_aux_lemma =>
        have hsn := set_new (w.alloc (.cells #[.string ⟨#[]⟩, .bool false, .string ⟨#[]⟩] 25)) 25 (.string tl) (.bool false) (.string ⟨#[]⟩) (.string ⟨#[48]⟩)
        rw [show (w.alloc (.cells #[.string ⟨#[]⟩, .bool false, .string ⟨#[]⟩] 25)).heap.size = w.heap.size + 1 by simp] at hsn
        replace hsn := Lib.hid hsn
        rcases htd with ⟨h, rfl⟩ | ⟨h, rfl⟩
        all_goals
          rw [h]
          go_wp2_with fail
          go_meet
          exact ⟨rfl, by first | rfl | exact hsn.out⟩
      case rest =>
        obtain ⟨rfl, rfl⟩ := hcut
        obtain ⟨n2, hn2⟩ : ∃ n2, n + (R.takeWhile dotD).length = n2 := ⟨_, rfl⟩
        have hRlen : n + R.length = x.size := by
          have := congrArg List.length hdR.out
          rw [List.length_drop, hxlen.out] at this; omega
        have hn2x : n2 ≤ x.size := by have := while_len (p := dotD) R; omega
        have hn2I : (n2 : Int) ≤ (x.size : Int) := by omega
        obtain ⟨z, hz⟩ : ∃ q, x.extract n2 x.size = q := ⟨_, rfl⟩
        have hzl : z.toList = R.dropWhile dotD := by
          rw [← hz, toList_fromR, ← hn2, ← List.drop_drop, hdR.out]; exact (take_drop_while R).2
        have hzz : z.size ≤ x.size := by rw [← hz]; exact size_ext _ _ _
        rw [← hzl] at hyes
        replace hzl := Lib.hid hzl
        replace hRlen := Lib.hid hRlen
        replace hn2 := Lib.hid hn2
        go_upto_block 2 with (fail)
        go_cut [4] (fun s4 wx => s4 = .int .i64 (n2 : Int) ∧ wx = (w.alloc (.cells #[.string ⟨#[]⟩, .bool false, .string ⟨#[]⟩] 25)).alloc (.cells #[.string td, .bool false, .string ⟨#[]⟩] 25))
        case first => as_aux_lemma =>
          go_wp2_with fail
          go_loop [4] (fun iv => ∃ k : Nat, iv = .int .i64 k ∧ k ≤ x.size ∧ Hid (n2 = k + ((x.toList.drop k).takeWhile dotD).length)) (fun iv => x.size - (intOf iv).toNat)
          case atStart => exact ⟨n, rfl, hnx, Lib.hid (by rw [hdR.out, hn2.out])⟩
          case round =>
            obtain ⟨k, rfl, hk, hg⟩ := hrel
            by_cases hlt : k < x.size
            · have hdr := drop_cons x k hlt
              have hltI : (k : Int) < (x.size : Int) := by omega
              rw [hdr, List.takeWhile_cons] at hg
              clear hdr
              by_cases h46 : x[k] = 46
              · have hdo : dotD x[k] = true := by unfold dotD; rw [h46]; rfl
                rw [hdo] at hg
                have hnew : Hid (n2 = (k + 1) + ((x.toList.drop (k + 1)).takeWhile dotD).length) := Lib.hid (by have := hg.out; simp only [if_true, List.length_cons] at this; omega)
                have hb := u8_yes (d := 46) h46
                replace hb : ((x[k].toNat : Int) == 46) = true ∧ ((x[k].toNat : Int) != 46) = false := hb
                obtain ⟨hb1, hb2⟩ := hb
                clear hg
                replace hdo := Lib.hid hdo
                replace h46 := Lib.hid h46
                go_wp2_with fail
                go_round
                case rel => exact ⟨k + 1, by go_num, by omega, hnew⟩
                case measure => simp [intOf]; omega
              · have hb := u8_no (d := 46) h46
                replace hb : ((x[k].toNat : Int) == 46) = false ∧ ((x[k].toNat : Int) != 46) = true := hb
                obtain ⟨hb1, hb2⟩ := hb
                have hdoe : dotD x[k] = dgt x[k] := by unfold dotD; simp [h46]
                rw [hdoe] at hg
                replace hdoe := Lib.hid hdoe
                replace h46 := Lib.hid h46
                by_cases hdg : digitZ (x[k].toNat : Int) 10 < 0
                · have hdf := (digitZ_dgt _).1 hdg
                  rw [hdf] at hg
                  have hfin : Hid (n2 = k) := Lib.hid hg.out
                  clear hg
                  replace hdf := Lib.hid hdf
                  go_wp2_with (go_at_call 9; refine (digit_any _ _ _ (byte_nn _) (byte_le _)).mono ?_; rintro e w' ⟨rfl, rfl⟩)
                  go_meet
                  exact ⟨by rw [hfin.out], rfl⟩
                · have hdt2 : dgt x[k] = true := by
                    cases h : dgt x[k]
                    · exact absurd ((digitZ_dgt _).2 h) hdg
                    · rfl
                  rw [hdt2] at hg
                  have hnew : Hid (n2 = (k + 1) + ((x.toList.drop (k + 1)).takeWhile dotD).length) := Lib.hid (by have := hg.out; simp only [if_true, List.length_cons] at this; omega)
                  clear hg
                  replace hdt2 := Lib.hid hdt2
                  have hd0 : 0 ≤ digitZ (x[k].toNat : Int) 10 := by omega
                  go_wp2_with (go_at_call 9; refine (digit_any _ _ _ (byte_nn _) (byte_le _)).mono ?_; rintro e w' ⟨rfl, rfl⟩)
                  go_round
                  case rel => exact ⟨k + 1, by go_num, by omega, hnew⟩
                  case measure => simp [intOf]; omega
            · have hge : (x.size : Int) ≤ (k : Int) := by omega
              have hfin : Hid (n2 = k) := Lib.hid (by have := hg.out; rw [drop_end x k (by omega)] at this; exact this)
              clear hg
              go_wp2_with fail
              go_meet
              exact ⟨by rw [hfin.out], rfl⟩
        case rest =>
          obtain ⟨rfl, rfl⟩ := hcut
          have hB0 : Below w.heap.size w ((w.alloc (.cells #[.string ⟨#[]⟩, .bool false, .string ⟨#[]⟩] 25)).alloc (.cells #[.string td, .bool false, .string ⟨#[]⟩] 25)) := ((Below.refl _ _).alloc (Nat.le_refl _) _).alloc (by simp) _
          match hL : z.toList with
          | [] =>
            have hfin : Hid (parseL s.toList = some (td.toList, false, [])) := Lib.hid (by rw [hyes.out, hL, htdl.out]; rfl)
            have hem := isEmpty0 hL
            replace hL := Lib.hid hL
            go_wp2_with fail
            exact parse_ret rfl rfl rfl (two_first _ _ _) ⟨td, ⟨#[]⟩, false, true, rfl, two_below _ _ _, htdz, Nat.zero_le _, Lib.hid (.inr ⟨by rw [hfin.out, e00], rfl⟩)⟩
          | c :: r =>
            have hem := isEmpty1 hL
            obtain ⟨hp, hc⟩ := get1 hL
            have hpI : (1 : Int) ≤ (z.size : Int) := by omega
            have hpI2 : (0 : Int) < (z.size : Int) := by omega
            have n59 : ((c.toNat : Int) == 59) = decide (c = 59) := by
              by_cases h : c = 59
              · rw [decide_eq_true h]; exact (u8_yes (d := 59) h).1
              · rw [decide_eq_false h]; exact (u8_no (d := 59) h).1
            have n44 : ((c.toNat : Int) == 44) = decide (c = 44) := by
              by_cases h : c = 44
              · rw [decide_eq_true h]; exact (u8_yes (d := 44) h).1
              · rw [decide_eq_false h]; exact (u8_no (d := 44) h).1
            by_cases hg : gapC c = false
            · have hno : Hid (parseL s.toList = none) := Lib.hid (by rw [hyes.out, hL]; exact if_pos hg)
              have hbz : blankZ (c.toNat : Int) = false ∧ ¬ c = 59 ∧ ¬ c = 44 := by
                unfold gapC isB at hg
                simp only [Bool.or_eq_false_iff, beq_eq_false_iff_ne, ne_eq] at hg
                exact ⟨hg.1.1, hg.1.2, hg.2⟩
              obtain ⟨b1, b2, b3⟩ := hbz
              rw [decide_eq_false b2] at n59
              rw [decide_eq_false b3] at n44
              have m59 : ((c.toNat : Int) != 59) = true := by rw [bne, n59]; rfl
              have m44 : ((c.toNat : Int) != 44) = true := by rw [bne, n44]; rfl
              replace hL := Lib.hid hL
              replace hg := Lib.hid hg
              clear b2 b3
              go_wp2_with (go_at_call 10; refine (blank_any _ _).mono ?_; rintro e w' ⟨rfl, rfl⟩)
              exact parse_ret rfl rfl rfl (two_first _ _ _) ⟨⟨#[]⟩, ⟨#[]⟩, false, false, rfl, two_below _ _ _, Nat.zero_le _, Nat.zero_le _, Lib.hid (.inl ⟨hno.out, rfl, e00, rfl, e00⟩)⟩
            have hgt : gapC c = true := by simpa using hg
            have hT : Hid (parseL s.toList = if sepL z.toList = [] then some (td.toList, false, []) else some (td.toList, true, unquotedL (unnamedL (sepL z.toList)))) := Lib.hid (by
              rw [hyes.out, hL, htdl.out]; exact if_neg hg)
            have hway : blankZ (c.toNat : Int) = true ∨ (blankZ (c.toNat : Int) = false ∧ ((c.toNat : Int) == 59) = true ∧ ((c.toNat : Int) != 59) = false) ∨ (blankZ (c.toNat : Int) = false ∧ (((c.toNat : Int) == 59) = false ∧ ((c.toNat : Int) != 59) = true) ∧ (((c.toNat : Int) == 44) = true ∧ ((c.toNat : Int) != 44) = false)) := by
              cases hb : blankZ (c.toNat : Int)
              · refine .inr ?_
                by_cases h : c = 59
                · exact .inl ⟨rfl, (u8_yes (d := 59) h).1, (u8_yes (d := 59) h).2⟩
                · refine .inr ⟨rfl, u8_no (d := 59) h, u8_yes (d := 44) ?_⟩
                  unfold gapC isB at hgt
                  rw [hb] at hgt
                  simp only [Bool.false_or, Bool.or_eq_true, beq_iff_eq] at hgt
                  exact hgt.resolve_left h
              · exact .inl rfl
            have hbz := Lib.hid (fun w => blanksR_any z w (by omega))
            replace hL := Lib.hid hL
            clear n59 n44 hg hgt hyes
            go_upto_region 15 with (fail)
            go_cut [76] (fun s76 wx => s76 = .bool false ∧ wx = (w.alloc (.cells #[.string ⟨#[]⟩, .bool false, .string ⟨#[]⟩] 25)).alloc (.cells #[.string td, .bool false, .string ⟨#[]⟩] 25))
            case first => as_aux_lemma =>
              rcases hway with h1 | ⟨h1, h2, h3⟩ | ⟨h1, ⟨h2, h3⟩, h4, h5⟩
              all_goals
                go_wp2_with (go_at_call 10; refine (blank_any _ _).mono ?_; rintro e w' ⟨rfl, rfl⟩)
                go_meet
                exact ⟨rfl, rfl⟩
            case rest =>
              obtain ⟨rfl, rfl⟩ := hcut
              clear hway
              go_upto_region 18 with (go_at_call 13; refine (hbz.out _).mono ?_; rintro e wy ⟨y, rfl, hy, hyz, rfl⟩)
              have hsep : (∃ B : Bool, ((y.toList.isEmpty = true ∧ B = false ∧ Hid (y.toList = sepL z.toList)) ∨
                  (y.toList.isEmpty = false ∧ B = false ∧ (1 : Int) ≤ (y.size : Int) ∧ (∃ h : 0 < y.size, ((y[0].toNat : Int) == 59) = false ∧ ((y[0].toNat : Int) == 44) = false) ∧ Hid (y.toList = sepL z.toList)) ∨
                  (y.toList.isEmpty = false ∧ B = true ∧ (1 : Int) ≤ (y.size : Int) ∧ (∃ h : 0 < y.size, ((y[0].toNat : Int) == 59) = true ∨ (((y[0].toNat : Int) == 59) = false ∧ ((y[0].toNat : Int) == 44) = true)) ∧ Hid (blanksL (y.extract 1 y.size).toList = sepL z.toList)))) := by
                match hY : y.toList with
                | [] => exact ⟨false, .inl ⟨rfl, rfl, Lib.hid (by unfold sepL; rw [← hy.out, hY])⟩⟩
                | c1 :: r1 =>
                  obtain ⟨g0, g1⟩ := get1 hY
                  by_cases h59 : c1 = 59 ∨ c1 = 44
                  · refine ⟨true, .inr (.inr ⟨rfl, rfl, by omega, ⟨g0, ?_⟩, Lib.hid ?_⟩)⟩
                    · rw [g1]
                      by_cases h : c1 = 59
                      · exact .inl (u8_yes (d := 59) h).1
                      · exact .inr ⟨(u8_no (d := 59) h).1, (u8_yes (d := 44) (h59.resolve_left h)).1⟩
                    · rw [toList_fromR, hY]
                      unfold sepL
                      rw [← hy.out, hY]
                      exact (if_pos h59).symm
                  · refine ⟨false, .inr (.inl ⟨rfl, rfl, by omega, ⟨g0, ?_⟩, Lib.hid ?_⟩)⟩
                    · rw [g1]; exact ⟨(u8_no (d := 59) (fun h => h59 (.inl h))).1, (u8_no (d := 44) (fun h => h59 (.inr h))).1⟩
                    · unfold sepL
                      rw [← hy.out, hY]
                      exact (if_neg h59).symm
              obtain ⟨B, hsep⟩ := hsep
              replace hsep := Lib.hid hsep
              have hy1z : (y.extract 1 y.size).size ≤ y.size := size_ext _ _ _
              have hb1 := Lib.hid (fun w => blanksR_any (y.extract 1 y.size) w (by omega))
              go_cut [91] (fun s91 wx => s91 = .bool B ∧ wx = (w.alloc (.cells #[.string ⟨#[]⟩, .bool false, .string ⟨#[]⟩] 25)).alloc (.cells #[.string td, .bool false, .string ⟨#[]⟩] 25))
              case first => as_aux_lemma =>
                rcases hsep.out with ⟨h1, rfl, _⟩ | ⟨h1, rfl, h2, ⟨h3, h4, h5⟩, _⟩ | ⟨h1, rfl, h2, ⟨h3, h4 | ⟨h4, h5⟩⟩, _⟩
                all_goals
                  go_wp2_with fail
                  go_meet
                  exact ⟨rfl, rfl⟩
              case rest =>
                obtain ⟨rfl, rfl⟩ := hcut
                go_upto_if 91 with (fail)
                go_cut [0] (fun s0 wx => (∃ q : ByteArray, s0 = .string q ∧ Hid (q.toList = sepL z.toList) ∧ q.size ≤ z.size) ∧ wx = (w.alloc (.cells #[.string ⟨#[]⟩, .bool false, .string ⟨#[]⟩] 25)).alloc (.cells #[.string td, .bool false, .string ⟨#[]⟩] 25))
                case first => as_aux_lemma =>
                  rcases hsep.out with ⟨h1, rfl, h5⟩ | ⟨h1, rfl, h2, h3, h5⟩ | ⟨h1, rfl, h2, h3, h5⟩
                  · go_wp2_with fail
                    go_meet
                    exact ⟨⟨y, rfl, h5, hyz⟩, rfl⟩
                  · go_wp2_with fail
                    go_meet
                    exact ⟨⟨y, rfl, h5, hyz⟩, rfl⟩
                  · go_wp2_with (go_at_call 13; refine (hb1.out _).mono ?_; rintro e wq ⟨q, rfl, hq, hqz, rfl⟩)
                    go_meet
                    exact ⟨⟨q, rfl, Lib.hid (by rw [hq.out, h5.out]), by omega⟩, rfl⟩
                case rest =>
                  obtain ⟨⟨q, rfl, hq, hqz⟩, rfl⟩ := hcut
                  clear hsep hb1 hbz
                  match hQ : q.toList with
                  | [] =>
                    have hfin : Hid (parseL s.toList = some (td.toList, false, [])) := Lib.hid (by rw [hT.out, ← hq.out, hQ]; rfl)
                    have heq := isEmpty0 hQ
                    replace hQ := Lib.hid hQ
                    go_wp2_with fail
                    exact parse_ret rfl rfl rfl (two_first _ _ _) ⟨td, ⟨#[]⟩, false, true, rfl, two_below _ _ _, htdz, Nat.zero_le _, Lib.hid (.inr ⟨by rw [hfin.out, e00], rfl⟩)⟩
                  | cq :: rq =>
                    have hfin : Hid (parseL s.toList = some (td.toList, true, unquotedL (unnamedL q.toList))) := Lib.hid (by
                      rw [hT.out, ← hq.out]; exact if_neg (by rw [hQ]; simp))
                    have heq := isEmpty1 hQ
                    have hun := Lib.hid (fun w => unnamedR_any q w (by omega))
                    replace hQ := Lib.hid hQ
                    go_wp2_with fail
                    refine (hun.out _).mono ?_
                    rintro e w3 ⟨t1, rfl, ht1, ht1z, hb3⟩
                    obtain ⟨E1, k1, rfl⟩ := hb3.ext
                    have hB3 := (two_below w (.cells #[.string ⟨#[]⟩, .bool false, .string ⟨#[]⟩] 25) (.cells #[.string td, .bool true, .string ⟨#[]⟩] 25)).toExt (by simp; omega) E1 k1
                    go_wp2_with fail
                    refine (unquotedR_any t1 _ (by omega) (hm.next hB3)).mono ?_
                    rintro e w4 ⟨t2, rfl, ht2, ht2z, hb4⟩
                    obtain ⟨E2, k2, rfl⟩ := hb4.ext
                    go_wp2_with fail
                    refine parse_ret rfl rfl rfl (g := w.heap.size) (d := td) (h := true) (u := t2) ?_ ⟨td, t2, true, true, rfl, ?_, htdz, by omega, Lib.hid (.inr ⟨by rw [hfin.out, ht2.out, ht1.out], rfl⟩)⟩
                    · rw [ext_block _ _ _ _ (by simp; omega), ext_block _ _ _ _ (by simp; omega), two_first]
                    · exact ((two_below w _ _).toExt (by simp; omega) E1 k1).toExt (by simp; omega) E2 k2
end Go.Proofs.YtjbfkaniccljnaaDoor
