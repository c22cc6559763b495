/- The law RefreshBack, walked. -/
import Derived.Test.YtjbfkaniccljnaaDoorRefrB
namespace Go.Proofs.YtjbfkaniccljnaaDoor
open Go.RowKit
set_option linter.unusedVariables false
set_option linter.unusedSimpArgs false

theorem drop_twice {p : UInt8 → Bool} (l : List UInt8) : (l.dropWhile p).dropWhile p = l.dropWhile p := by
  induction l with
  | nil => rfl
  | cons c r ih =>
    rw [List.dropWhile_cons]
    split
    · exact ih
    · rename_i h; rw [List.dropWhile_cons, if_neg h]
theorem drop_mem {p : UInt8 → Bool} {l : List UInt8} {c : UInt8} (h : c ∈ l.dropWhile p) : c ∈ l := (List.dropWhile_sublist p).subset h
theorem delay_prop {D : List UInt8} (hd : ∀ c ∈ D, dgt c = true) : delayL D ≠ [] ∧ (∀ c ∈ delayL D, dgt c = true) ∧ delayL (delayL D) = delayL D ∧ (delayL D).length ≤ D.length + 1 := by
  unfold delayL
  by_cases h : D.dropWhile (· == 48) = []
  · rw [if_pos h]
    refine ⟨by simp, ?_, rfl, by simp⟩
    intro c hc
    obtain rfl := List.mem_singleton.1 hc
    decide
  · rw [if_neg h]
    refine ⟨h, fun c hc => hd c (drop_mem hc), ?_, ?_⟩
    · rw [drop_twice, if_neg h]
    · have := (List.dropWhile_sublist (p := (· == 48)) (l := D)).length_le; omega
theorem tailP_inv {D r d u : List UInt8} {h : Bool} (he : tailP D r = some (d, h, u)) : d = delayL D ∧ (h = false → u = []) := by
  unfold tailP at he
  split at he
  · have := Option.some.inj he
    have e1 := congrArg Prod.fst this
    have e3 := congrArg (fun x => x.2.2) this
    exact ⟨e1.symm, fun _ => e3.symm⟩
  · split at he
    · cases he
    · split at he
      · have := Option.some.inj he
        exact ⟨(congrArg Prod.fst this).symm, fun _ => (congrArg (fun x => x.2.2) this).symm⟩
      · have := Option.some.inj he
        have e2 : true = h := congrArg (fun x => x.2.1) this
        exact ⟨(congrArg Prod.fst this).symm, fun h2 => by rw [h2] at e2; cases e2⟩
theorem parse_inv {l d u : List UInt8} {h : Bool} (hp : parseL l = some (d, h, u)) : d ≠ [] ∧ (∀ c ∈ d, dgt c = true) ∧ delayL d = d ∧ d.length ≤ l.length + 1 ∧ (h = false → u = []) := by
  unfold parseL parseQ at hp
  split at hp
  · cases hp
  · obtain ⟨e, hu⟩ := tailP_inv hp
    have hall : ∀ c ∈ (blanksL l).takeWhile dgt, dgt c = true := fun c hc => List.all_eq_true.1 (List.all_takeWhile (p := dgt) (l := blanksL l)) c hc
    obtain ⟨h1, h2, h3, h4⟩ := delay_prop hall
    rw [← e] at h1 h2 h3 h4
    refine ⟨h1, h2, h3, ?_, hu⟩
    have a := (List.takeWhile_sublist (p := dgt) (l := blanksL l)).length_le
    have b := (List.dropWhile_sublist (p := isB) (l := l)).length_le
    unfold blanksL at a
    unfold blanksL at h4
    omega
theorem parse_back {d : List UInt8} (h1 : d ≠ []) (h2 : ∀ c ∈ d, dgt c = true) (h3 : delayL d = d) : parseL d = some (d, false, []) := by
  have := parse_digits (r := []) h1 h2 rfl
  rw [List.append_nil] at this
  rw [this]
  show some (delayL d, false, []) = _
  rw [h3]
theorem letter_plain {c : UInt8} (h : letterZ (c.toNat : Int) = true) : isB c = false ∧ c ≠ 34 ∧ c ≠ 39 := by
  unfold letterZ at h
  rw [Bool.or_eq_true, decide_eq_true_eq, decide_eq_true_eq] at h
  refine ⟨?_, ?_, ?_⟩
  · unfold isB blankZ
    simp only [Bool.or_eq_false_iff, beq_eq_false_iff_ne, ne_eq]
    omega
  all_goals (rintro rfl; revert h; decide)
theorem parse_url {d r : List UInt8} {c : UInt8} (h1 : d ≠ []) (h2 : ∀ c ∈ d, dgt c = true) (h3 : delayL d = d) (hc : letterZ (c.toNat : Int) = true) :
    parseL (d ++ [59, 32, 117, 114, 108, 61] ++ c :: r) = some (d, true, c :: r) := by
  obtain ⟨b1, b2, b3⟩ := letter_plain hc
  have hb : blanksL (c :: r) = c :: r := by unfold blanksL; rw [List.dropWhile_cons, if_neg (by rw [b1]; decide)]
  have hs : sepL (59 :: 32 :: 117 :: 114 :: 108 :: 61 :: c :: r) = 117 :: 114 :: 108 :: 61 :: c :: r := by rfl
  have hn : unnamedL (117 :: 114 :: 108 :: 61 :: c :: r) = c :: r := by
    unfold unnamedL
    rw [if_neg (by
      rintro (h | h)
      · simp only [List.length_cons] at h; omega
      · exact h (by show lowerL [117, 114, 108] = _; decide))]
    show blanksL (c :: r) = _
    exact hb
  have hq : unquotedL (c :: r) = c :: r := if_neg (by rintro (h | h); exact b2 h; exact b3 h)
  rw [List.append_assoc]
  rw [parse_digits h1 h2 rfl]
  show tailP d (59 :: 32 :: 117 :: 114 :: 108 :: 61 :: c :: r) = _
  unfold tailP
  dsimp only
  rw [if_neg (by decide), hs, if_neg (by simp), hn, hq, h3]
theorem no_nought {d : List UInt8} (h : delayL d = d) (h48 : d.head? = some 48) : d.length ≤ 1 := by
  cases d with
  | nil => simp
  | cons c t =>
    obtain rfl : c = 48 := Option.some.inj h48
    have e : (48 :: t).dropWhile (· == 48) = t.dropWhile (· == 48) := rfl
    unfold delayL at h
    rw [e] at h
    split at h
    · rw [← h]; simp
    · have a := (List.dropWhile_sublist (p := (· == 48)) (l := t)).length_le
      have b := congrArg List.length h
      rw [List.length_cons] at b
      omega
set_option maxRecDepth 100000 in
set_option maxHeartbeats 4000000 in
theorem refreshBack_in (s url : ByteArray) (w : World) (hm : ML w) (hs : s.size ≤ 500) (hu : url.size ≤ 500) :
    Calls Tryd.prog 5 #[.string s, .string url] w (RetB w true) := by
  have hB : Below w.heap.size w w := Below.refl _ _
  have hsI : (s.size : Int) ≤ 500 := by omega
  have huI : (url.size : Int) ≤ 500 := by omega
  have e00 : (ByteArray.mk #[]).toList = [] := toList_mk []
  cases ho : parseL s.toList with
  | none =>
    have p0 := Lib.hid (fun w hm => parse_not s w (by omega) hm ho)
    replace ho := Lib.hid ho
    replace e00 := Lib.hid e00
    go_enter Tryd.func5, Tryd.ntmps5
    go_wp2_with fail
    refine (small21_any _ hm).mono ?_
    rintro e w1 ⟨rfl, hb⟩
    replace hB := hB.next hb
    clear hb
    go_wp2_with fail
    refine (p0.out _ (hm.next hB)).mono ?_
    rintro e w2 ⟨rfl, hb⟩
    replace hB := hB.next hb
    clear hb
    go_wp2_with fail
    go_ret
    exact ⟨rfl, hB.alloc hB.size _⟩
  | some x =>
    obtain ⟨dl, h, ul⟩ := x
    obtain ⟨i1, i2, i3, i4, i5⟩ := parse_inv ho
    obtain ⟨d, hd⟩ : ∃ d : ByteArray, d.toList = dl := ⟨⟨dl.toArray⟩, toList_mk dl⟩
    obtain ⟨u, hul⟩ : ∃ u : ByteArray, u.toList = ul := ⟨⟨ul.toArray⟩, toList_mk ul⟩
    subst hd; subst hul
    have p0 := Lib.hid (fun w hm => parse_is s d u h w (by omega) hm ho)
    have hdz : d.size ≤ 501 := by have := size_toList s; have := size_toList d; omega
    have hne : d.toList.isEmpty = false := by cases hx : d.toList with | nil => exact absurd hx i1 | cons a b => rfl
    have hd0 : 0 < d.size := by
      rcases Nat.eq_zero_or_pos d.size with hz | hz
      · exact absurd ((toList_empty_iff d).2 hz) i1
      · exact hz
    have hdig : Hid (∀ k (hk : k < d.size), 0 ≤ digitZ (d[k].toNat : Int) 10) := Lib.hid (fun k hk => by
      have hm : d[k] ∈ d.toList := by rw [← toList_get d k hk]; exact List.getElem_mem _
      by_cases hq : digitZ (d[k].toNat : Int) 10 < 0
      · have := (digitZ_dgt _).1 hq
        rw [i2 _ hm] at this; cases this
      · omega)
    have hfirst : ((d[0].toNat : Int) == 48) = false ∨ (((d[0].toNat : Int) == 48) = true ∧ (d.size : Int) ≤ 1) := by
      by_cases h48 : d[0] = 48
      · refine .inr ⟨(u8_yes (d := 48) h48).1, ?_⟩
        have := no_nought i3 (by
          have := drop_cons d 0 hd0
          rw [List.drop_zero] at this
          rw [this, h48]; rfl)
        rw [size_toList] at this; omega
      · exact .inl (u8_no (d := 48) h48).1
    have pw := Lib.hid (fun w => write_is d ⟨#[]⟩ d false w (by omega) (by decide) rfl)
    have pp := Lib.hid (fun w hm => parse_is d d ⟨#[]⟩ false w (by omega) hm (by rw [e00]; exact parse_back i1 i2 i3))
    obtain ⟨f, hf⟩ : ∃ f : ByteArray, f.toList = writeL (d.toList, true, url.toList) := ⟨⟨(writeL (d.toList, true, url.toList)).toArray⟩, toList_mk _⟩
    have hfz : f.size ≤ 2000 := by
      rw [← size_toList, hf]
      show (d.toList ++ [59, 32, 117, 114, 108, 61] ++ url.toList).length ≤ _
      rw [List.length_append, List.length_append, size_toList, size_toList]
      show d.size + 6 + url.size ≤ _; omega
    have pw2 := Lib.hid (fun w => write_is d url f true w (by omega) (by omega) hf.symm)
    have pp2 : Hid (∀ c r, url.toList = c :: r → letterZ (c.toNat : Int) = true → ∀ w (hm : ML w), Calls Tryd.prog 7 #[.string f] w fun e w' => e = .returned (.tuple #[.agg #[.string d, .bool true, .string url], .bool true]) ∧ Below w.heap.size w w') :=
      Lib.hid (fun c r h1 h2 w hm => parse_is f d url true w (by omega) hm (by rw [hf]; show parseL (d.toList ++ [59, 32, 117, 114, 108, 61] ++ url.toList) = _; rw [h1]; exact parse_url i1 i2 i3 h2))
    have hhu : (h = true) ∨ (h = false ∧ u.toList.isEmpty = true) := by
      cases h
      · exact .inr ⟨rfl, by rw [i5 rfl]; rfl⟩
      · exact .inl rfl
    replace ho := Lib.hid ho
    replace i1 := Lib.hid i1
    replace i2 := Lib.hid i2
    replace i3 := Lib.hid i3
    replace i4 := Lib.hid i4
    replace i5 := Lib.hid i5
    replace hf := Lib.hid hf
    replace e00 := Lib.hid e00
    go_enter Tryd.func5, Tryd.ntmps5
    go_wp2_with fail
    refine (small21_any _ hm).mono ?_
    rintro e w1 ⟨rfl, hb⟩
    replace hB := hB.next hb
    clear hb
    go_wp2_with fail
    refine (p0.out _ (hm.next hB)).mono ?_
    rintro e w2 ⟨rfl, hb⟩
    replace hB := hB.next hb
    clear hb
    go_wp2_with fail
    have c6 := heap_alloc_new w2 (.cells #[.string d, .bool h, .string u] 25)
    replace hB := hB.alloc hB.size (.cells #[.string d, .bool h, .string u] 25)
    generalize w2.alloc (.cells #[.string d, .bool h, .string u] 25) = W at hB c6 ⊢
    generalize w2.heap.size = q6 at c6 ⊢
    have y0 := cell_of_row _ q6 0 _ _ _ c6
    have y1 := cell_of_row _ q6 1 _ _ _ c6
    have y2 := cell_of_row _ q6 2 _ _ _ c6
    simp only [List.getElem?_toArray, List.getElem?_cons_zero, List.getElem?_cons_succ] at y0 y1 y2
    clear c6
    go_loop [8] (fun iv => ∃ k : Nat, iv = .int .i64 k ∧ k ≤ d.size) (fun iv => d.size - (intOf iv).toNat)
    case atStart => exact ⟨0, rfl, Nat.zero_le _⟩
    case round =>
      obtain ⟨k, rfl, hk⟩ := hrel
      by_cases hlt : k < d.size
      · have hltI : (k : Int) < (d.size : Int) := by omega
        have hdk := hdig.out k hlt
        have hk0 : ((k : Int) == 0) = false ∨ (k = 0 ∧ True) := by
          by_cases h0 : k = 0
          · exact .inr ⟨h0, trivial⟩
          · exact .inl (by simp only [beq_eq_false_iff_ne, ne_eq]; omega)
        rcases hk0 with h0 | ⟨rfl, _⟩
        · go_wp2_with (go_at_call 9; refine (digit_any _ _ _ (byte_nn _) (byte_le _)).mono ?_; rintro e w' ⟨rfl, rfl⟩)
          go_round
          case rel => exact ⟨k + 1, by go_num, by omega⟩
          case measure => simp [intOf]; omega
        · rcases hfirst with h1 | ⟨h1, h2⟩
          all_goals
            go_wp2_with (go_at_call 9; refine (digit_any _ _ _ (byte_nn _) (byte_le _)).mono ?_; rintro e w' ⟨rfl, rfl⟩)
            go_round
            case rel => exact ⟨1, by go_num, by omega⟩
            case measure => simp [intOf]; omega
      · have hge : (d.size : Int) ≤ (k : Int) := by omega
        clear hfirst
        go_upto_region 12 with (fail)
        go_cut [78] (fun s78 wx => s78 = .bool false ∧ wx = W)
        case first => as_aux_lemma =>
          rcases hhu with rfl | ⟨rfl, hue⟩
          all_goals
            go_wp2_with fail
            go_meet
            exact ⟨rfl, rfl⟩
        case rest =>
          obtain ⟨rfl, rfl⟩ := hcut
          go_wp2_with fail
          refine (pw.out _).mono ?_
          rintro e w8 ⟨rfl, hb⟩
          obtain ⟨E1, k1, rfl⟩ := hb.ext
          have hsz := hB.size
          have hB1 := (hB.alloc hB.size (.cells #[.string d, .bool false, .string ⟨#[]⟩] 25)).toExt (by simp; omega) E1 k1
          clear hb
          go_wp2_with fail
          refine (pp.out _ (hm.next hB1)).mono ?_
          rintro e w9 ⟨rfl, hb⟩
          obtain ⟨E2, k2, rfl⟩ := hb.ext
          have hB2 := hB1.toExt (by simp; omega) E2 k2
          clear hb
          go_upto_region 18 with (fail)
          have hbX : Below (wc.alloc (.cells #[.string d, .bool false, .string ⟨#[]⟩] 25)).heap.size (wc.alloc (.cells #[.string d, .bool false, .string ⟨#[]⟩] 25)) ((extW (extW (wc.alloc (.cells #[.string d, .bool false, .string ⟨#[]⟩] 25)) E1 k1) E2 k2).alloc (.cells #[.string d, .bool false, .string ⟨#[]⟩] 25)) := ((below_ext _ E1 k1).toExt (by simp) E2 k2).alloc (by simp; omega) _
          obtain ⟨E3, k3, he⟩ := hbX.ext
          rw [he]
          generalize wc.heap.size + 1 + E1.size + E2.size = q10
          clear he hbX hB1 hB2
          have hB3 := (hB.alloc hB.size (.cells #[.string d, .bool false, .string ⟨#[]⟩] 25)).toExt (by simp; omega) E3 k3
          have hB4 := (hB.alloc hB.size (.cells #[.string d, .bool true, .string url] 25)).toExt (by simp; omega) E3 k3
          match hL : url.toList with
          | [] =>
            have hem := isEmpty0 hL
            replace hL := Lib.hid hL
            go_wp2_with fail
            go_ret
            exact ⟨rfl, hB3⟩
          | c :: r =>
            have hem := isEmpty1 hL
            obtain ⟨hp, hc⟩ := get1 hL
            have hpI : (0 : Int) < (url.size : Int) := by omega
            cases hlt2 : letterZ (c.toNat : Int)
            · replace hL := Lib.hid hL
              go_wp2_with (go_at_call 12; refine (letter_any _ _).mono ?_; rintro e w' ⟨rfl, rfl⟩)
              go_ret
              exact ⟨rfl, hB3⟩
            · have pq := Lib.hid (pp2.out c r hL hlt2)
              replace hL := Lib.hid hL
              go_wp2_with (go_at_call 12; refine (letter_any _ _).mono ?_; rintro e w' ⟨rfl, rfl⟩)
              refine (pw2.out _).mono ?_
              rintro e w10 ⟨rfl, hb⟩
              obtain ⟨E4, k4, rfl⟩ := hb.ext
              have hB5 := hB4.toExt (by simp; omega) E4 k4
              clear hb
              go_wp2_with fail
              refine (pq.out _ (hm.next hB5)).mono ?_
              rintro e w11 ⟨rfl, hb⟩
              obtain ⟨E5, k5, rfl⟩ := hb.ext
              have hB6 := hB5.toExt (by simp; omega) E5 k5
              clear hb
              go_wp2_with fail
              go_ret
              exact ⟨rfl, hB6.alloc hB6.size _⟩
set_option maxRecDepth 100000 in
set_option maxHeartbeats 2000000 in
theorem refreshBack_walk (s url : ByteArray) (w : World) (ws : s.size ≤ maxLen) (wu : url.size ≤ maxLen) (hm : ML w) :
    Calls Tryd.prog 5 #[.string s, .string url] w (RetB w true) := by
  have hB : Below w.heap.size w w := Below.refl _ _
  by_cases h2 : 500 < s.size
  · have h2I : (500 : Int) < (s.size : Int) := by omega
    go_enter Tryd.func5, Tryd.ntmps5
    go_wp2_with fail
    refine (small21_any _ hm).mono ?_
    rintro e w1 ⟨rfl, hb⟩
    replace hB := hB.next hb
    clear hb
    go_wp2_with fail
    go_ret
    exact ⟨rfl, hB⟩
  by_cases h1 : 500 < url.size
  · have h2I : (s.size : Int) ≤ 500 := by omega
    have h1I : (500 : Int) < (url.size : Int) := by omega
    go_enter Tryd.func5, Tryd.ntmps5
    go_wp2_with fail
    refine (small21_any _ hm).mono ?_
    rintro e w1 ⟨rfl, hb⟩
    replace hB := hB.next hb
    clear hb
    go_wp2_with fail
    go_ret
    exact ⟨rfl, hB⟩
  exact refreshBack_in s url w hm (by omega) (by omega)
end Go.Proofs.YtjbfkaniccljnaaDoor
