/- The contracts of four.parts, four.Ends, four.Parse. -/
import Derived.Test.YtceedfhealbdkaaDoorFourC
import Derived.Test.YtceedfhealbdkaaDoorFourW
namespace Go.Proofs.YtceedfhealbdkaaDoor
open Go.RowKit
set_option linter.unusedVariables false

theorem splitC_sum (c : UInt8) (l : List UInt8) : ∀ p ∈ splitC c l, p.length ≤ l.length := by
  induction l with
  | nil => intro p hp; simp [splitC] at hp; subst hp; exact Nat.le_refl _
  | cons d r ih =>
    intro p hp
    rw [splitC_cons] at hp
    by_cases h : d = c
    · rw [if_pos h] at hp
      rcases List.mem_cons.1 hp with rfl | hp
      · simp
      · have := ih p hp; simp; omega
    · rw [if_neg h] at hp
      have hne := splitC_ne c r
      cases hs : splitC c r with
      | nil => exact absurd hs hne
      | cons x y =>
        rw [hs] at hp ih
        rcases List.mem_cons.1 hp with rfl | hp
        · have := ih x (by simp); simp; omega
        · have := ih p (by simp at hp ⊢; exact .inr hp); simp; omega
theorem partsL_sum (s : List UInt8) : ∀ p ∈ partsL s, p.length ≤ s.length := by
  intro p hp
  unfold partsL at hp
  split at hp
  · exact splitC_sum 46 s p (List.dropLast_subset _ hp)
  · exact splitC_sum 46 s p hp
theorem partsL_len (s : List UInt8) : (partsL s).length ≤ s.length + 1 := by
  have := splitC_len 46 s
  unfold partsL
  split
  · rw [List.length_dropLast]; omega
  · exact this
/-- What a slice of strings holds. -/
theorem mem_toList {l : List ByteArray} {ls : List (List UInt8)} (h : l.map (·.toList) = ls) {N : Nat} (hN : ∀ p ∈ ls, p.length ≤ N) (i : Nat) (hi : i < l.length) : (l[i]).size ≤ N := by
  rw [← size_toList]
  apply hN
  rw [← h]
  exact List.mem_map_of_mem (List.getElem_mem hi)
theorem getLast_map {l : List ByteArray} (h : 0 < l.length) : (l.map (·.toList)).getLast? = some (l[l.length - 1].toList) := by
  rw [List.getLast?_eq_getElem?, List.length_map, List.getElem?_map, List.getElem?_eq_getElem (by omega)]; rfl
theorem read_front {w : World} {g : Nat} {l : List ByteArray} {c : Nat} (h : ∀ i (h : i < l.length), w.cell? ⟨g, i, none⟩ = some (.string l[i])) : ReadS w (.slice (some ⟨g, 0, none⟩) l.length c) l :=
  ⟨_, c, rfl, fun _ => ⟨g, 0, rfl, fun i hi => by rw [Nat.zero_add]; exact h i hi⟩⟩

set_option maxHeartbeats 1000000 in
theorem parts_any (s : ByteArray) (w : World) (hm : ML w) (hs : s.size < 4294967281) :
    Calls Tryd.prog 19 #[.string s] w (RetP w (partsL s.toList)) := by
  go_enter Tryd.func19, Tryd.ntmps19
  go_wp2_with fail
  refine (split_any s 46 _ hm hs).mono ?_
  rintro e w1 ⟨l, rfl, hl, hc, hb⟩
  have hll : Hid (l.length = (splitC 46 s.toList).length) := Lib.hid (by have := congrArg List.length hl.out; rwa [List.length_map] at this)
  have hn0 : 0 < l.length := by rw [hll.out]; exact List.length_pos_iff.2 (splitC_ne _ _)
  have hn1 : l.length ≤ 4294967281 := by rw [hll.out]; have := splitC_len 46 s.toList; rw [size_toList] at this; omega
  have hlast : Hid ((splitC 46 s.toList).getLast? = some (l[l.length - 1].toList)) := Lib.hid (by rw [← hl.out]; exact getLast_map hn0)
  have hcl := hc (l.length - 1) (by omega)
  have e1 : IntKind.i64.wrap ((l.length : Int) - 1) = (l.length : Int) - 1 := IntWalk.i64_in _ (by omega)
  replace hc := Lib.hid hc
  by_cases hn : l.length = 1
  · have hq : (l.length : Int) ≤ 1 := by omega
    have hP : Hid (l.map (·.toList) = partsL s.toList) := Lib.hid (by
      unfold partsL; rw [if_neg (by have := hll.out; omega)]; exact hl.out)
    replace hn := Lib.hid hn
    go_wp2_with fail
    go_ret
    exact ⟨_, l, rfl, hP, read_front hc.out, hb⟩
  have hq : (1 : Int) < (l.length : Int) := by omega
  replace hn := Lib.hid hn
  cases hem : (l[l.length - 1].toList.isEmpty)
  · have hP : Hid (l.map (·.toList) = partsL s.toList) := Lib.hid (by
      unfold partsL; rw [if_neg (by rw [hlast.out]; rintro ⟨_, h⟩; rw [Option.some.inj h] at hem; cases hem)]; exact hl.out)
    go_wp2_with fail
    go_ret
    exact ⟨_, l, rfl, hP, read_front hc.out, hb⟩
  · have hP : Hid ((l.dropLast).map (·.toList) = partsL s.toList) := Lib.hid (by
      unfold partsL; rw [if_pos ⟨by have := hll.out; omega, by rw [hlast.out]; congr 1; simpa using hem⟩, ← hl.out, List.map_dropLast])
    have hdl : Hid (l.dropLast.length = l.length - 1) := Lib.hid List.length_dropLast
    have hR : Hid (ReadS w1 (.slice (some ⟨w.heap.size, 0, none⟩) (l.length - 1) l.length) l.dropLast) := Lib.hid (by
      rw [← hdl.out]
      exact read_front (fun i hi => by
        have hi2 : i < l.length := by have := hdl.out; omega
        rw [List.getElem_dropLast]; exact hc.out i hi2))
    go_wp2_with fail
    go_ret
    exact ⟨_, l.dropLast, rfl, hP, hR.out, hb⟩
theorem numLen (s : List UInt8) : ∀ p ∈ partsL s, p.length ≤ s.length := partsL_sum s
/-- The last part, as the code reads it. -/
theorem read_last {w : World} {v : Value} {l : List ByteArray} (h : ReadS w v l) (hn : 0 < l.length) : ∃ g o c, v = .slice (some ⟨g, o, none⟩) l.length c ∧ (∀ i (h : i < l.length), w.cell? ⟨g, o + i, none⟩ = some (.string l[i])) := by
  obtain ⟨a, c, rfl, hc⟩ := h
  obtain ⟨g, o, rfl, hcc⟩ := hc hn
  exact ⟨g, o, c, rfl, hcc⟩
theorem last_of {l : List ByteArray} {ls : List (List UInt8)} (h : l.map (·.toList) = ls) (hn : 0 < l.length) : lastP ls = l[l.length - 1].toList := by
  unfold lastP; rw [← h, getLast_map hn]; rfl
set_option maxHeartbeats 1000000 in
theorem ends_any (s : ByteArray) (w : World) (hm : ML w) (hs : s.size < 4294967281) :
    Calls Tryd.prog 12 #[.string s] w (RetB w (endsL s.toList)) := by
  go_enter Tryd.func12, Tryd.ntmps12
  go_wp2_with fail
  refine (parts_any s _ hm hs).mono ?_
  rintro e w1 ⟨v, l, rfl, hl, hrd, hb⟩
  have hn0 : 0 < l.length := by
    have := congrArg List.length hl.out
    rw [List.length_map] at this
    rw [this]; exact List.length_pos_iff.2 (partsL_ne _)
  have hn1 : l.length ≤ 4294967281 := by
    have := congrArg List.length hl.out
    rw [List.length_map] at this
    rw [this]; have := partsL_len s.toList; rw [size_toList] at this; omega
  obtain ⟨g, o, c, rfl, hcc⟩ := read_last hrd hn0
  have hcl := hcc (l.length - 1) (by omega)
  have hz := mem_toList hl.out (partsL_sum s.toList) (l.length - 1) (by omega)
  rw [size_toList] at hz
  have hlast := Lib.hid (last_of hl.out hn0)
  have e1 : IntKind.i64.wrap ((l.length : Int) - 1) = (l.length : Int) - 1 := IntWalk.i64_in _ (by omega)
  have e2 : (o : Int) + ((l.length : Int) - 1) = ((o + (l.length - 1) : Nat) : Int) := by omega
  clear hrd hcc
  replace e2 := Lib.hid e2
  generalize hT : l[l.length - 1] = t at hcl hz hlast
  replace hT := Lib.hid hT
  have hd := Lib.hid (fun w => digits_any t 10 w (by omega) (by decide))
  have hn := Lib.hid (fun w => number_any t w (by omega))
  have hE : Hid (endsL s.toList = ((digs1 10 t.toList).isSome || (numV t.toList).isSome)) := Lib.hid (by unfold endsL; rw [hlast.out])
  clear hz
  cases hq : (digs1 10 t.toList).isSome
  all_goals
    replace hq := Lib.hid hq
    go_wp2_with fail
    refine (hd.out _).mono ?_
    rintro e w2 ⟨rfl, rfl⟩
    rw [hq.out]
    go_wp2_with (go_at_call 20; refine (hn.out _).mono ?_; rintro e w' ⟨rfl, rfl⟩)
    go_ret
    exact ⟨ret_bool (by rw [hE.out, hq.out]; rfl), hb⟩
/-- The call hands back a number of 32 bits, if there is one. -/
def RetU (w : World) (o : Option Nat) (e : Ending) (w' : World) : Prop := e = .returned (.tuple #[.int .u32 ((o.getD 0 : Nat) : Int), .bool o.isSome]) ∧ Below w.heap.size w w'
theorem retU_none {w w' : World} {o : Option Nat} (h : o = none) (hb : Below w.heap.size w w') : RetU w o (.returned (.tuple #[.int .u32 0, .bool false])) w' := by subst h; exact ⟨rfl, hb⟩
set_option maxRecDepth 100000 in
set_option maxHeartbeats 2000000 in
theorem fourParse_any (s : ByteArray) (w : World) (hm : ML w) (hs : s.size < 4294967281) :
    Calls Tryd.prog 10 #[.string s] w (RetU w (parseL s.toList)) := by
  go_enter Tryd.func10, Tryd.ntmps10
  go_wp2_with fail
  refine (parts_any s _ hm hs).mono ?_
  rintro e w1 ⟨v, l, rfl, hl, hrd, hb⟩
  have hll : Hid ((partsL s.toList).length = l.length) := Lib.hid (by have := congrArg List.length hl.out; rwa [List.length_map, eq_comm] at this)
  have hn0 : 0 < l.length := by rw [← hll.out]; exact List.length_pos_iff.2 (partsL_ne _)
  obtain ⟨g, o, c, rfl, hcc⟩ := read_last hrd hn0
  clear hrd
  by_cases h4 : 4 < l.length
  · have hq : (4 : Int) < (l.length : Int) := by omega
    have hno : Hid (parseL s.toList = none) := Lib.hid (by unfold parseL parseV; rw [hll.out, if_pos h4])
    replace hcc := Lib.hid hcc
    go_wp2_with fail
    go_ret2
    exact retU_none hno.out hb
  have hq : (l.length : Int) ≤ 4 := by omega
  have hP : Hid (parseL s.toList = parseGo 0 (partsL s.toList) 0) := Lib.hid (by unfold parseL parseV; rw [hll.out, if_neg h4])
  have hsz : ∀ i (h : i < l.length), l[i].size ≤ 4294967281 := fun i hi => by
    have := mem_toList hl.out (partsL_sum s.toList) i hi
    rw [size_toList] at this; omega
  have hdr : ∀ i (h : i < l.length), (partsL s.toList).drop i = l[i].toList :: (partsL s.toList).drop (i + 1) := fun i hi => by
    rw [← hl.out, List.drop_eq_getElem_cons (by simpa using hi)]; simp
  replace hcc := Lib.hid hcc
  replace hsz := Lib.hid hsz
  replace hdr := Lib.hid hdr
  go_wp2_with fail
  go_loop [5, 17] (fun nv iv => ∃ k sum : Nat, iv = .int .i64 k ∧ nv = .int .i64 sum ∧ k ≤ l.length ∧ sum ≤ 4294967296 ∧ Hid (sum + 2 ^ (8 * (4 - k)) ≤ 4294967296 ∨ k = l.length ∧ sum < 4294967296) ∧ Hid (parseGo k ((partsL s.toList).drop k) sum = parseL s.toList)) (fun _ i => l.length - (intOf i).toNat)
  case atStart => exact ⟨0, 0, rfl, rfl, Nat.zero_le _, by omega, Lib.hid (.inl (by decide)), Lib.hid (by rw [List.drop_zero, hP.out])⟩
  case round =>
    obtain ⟨k, sum, rfl, rfl, hk, hsum, hsb, hg⟩ := hrel
    by_cases hlt : k < l.length
    · have hltI : (k : Int) < (l.length : Int) := by omega
      have hcell := hcc.out k hlt
      have hz := hsz.out k hlt
      have hn := Lib.hid (fun w => number_any l[k] w (by omega))
      have hd1 := Lib.hid (hdr.out k hlt)
      go_wp2_with fail
      refine (hn.out _).mono ?_
      rintro e w2 ⟨rfl, rfl⟩
      cases hv : numV l[k].toList with
      | none =>
        have hno : Hid (parseL s.toList = none) := Lib.hid (by
          rw [← hg.out, hd1.out]
          cases hr : (partsL s.toList).drop (k + 1) with
          | nil => rw [parseGo, hv]
          | cons y r => rw [parseGo, hv])
        go_wp2_with fail
        go_ret2
        exact retU_none hno.out hb
      | some v =>
        obtain ⟨m, hme⟩ : ∃ m, m = min v 4294967296 := ⟨_, rfl⟩
        have hrm : RetN 4294967296 w1 (some v) = fun e w' => e = .returned (.tuple #[.int .i64 (m : Int), .bool true]) ∧ w1 = w' := by unfold RetN; rw [hme]; rfl
        have hmC : m ≤ 4294967296 := by rw [hme]; exact Nat.min_le_right _ _
        rw [show min ((some v).getD 0) 4294967296 = m from hme.symm, show (some v).isSome = true from rfl]
        replace hme := Lib.hid hme
        clear hrm
        by_cases hla : k + 1 = l.length
        · have hd2 : (partsL s.toList).drop (k + 1) = [] := List.drop_of_length_le (by have := hll.out; omega)
          have hg2 : Hid (parseL s.toList = if v < 2 ^ (8 * (4 - k)) then some (sum + v) else none) := Lib.hid (by rw [← hg.out, hd1.out, hd2, parseGo, hv])
          clear hd2
          replace hv := Lib.hid hv
          rcases (show k = 0 ∨ k = 1 ∨ k = 2 ∨ k = 3 by omega) with rfl | rfl | rfl | rfl
          · have hle : (l.length : Int) - 1 = 0 := by omega
            have hsb2 : sum + 4294967296 ≤ 4294967296 := by have := hsb.out; omega
            by_cases hvP : v < 4294967296
            · have hmv : m = v := by have := hme.out; omega
              subst hmv
              have hvI : decide ((4294967296 : Int) ≤ (m : Int)) = false := decide_eq_false (by omega)
              have hnew : Hid (parseGo 1 ((partsL s.toList).drop 1) (sum + m) = parseL s.toList) := Lib.hid (by
                rw [hg2.out, if_pos hvP, List.drop_of_length_le (by have := hll.out; omega), parseGo])
              have hs3 : sum + m < 4294967296 := by omega
              replace hsb2 := Lib.hid hsb2
              replace hs3 := Lib.hid hs3
              replace hvP := Lib.hid hvP
              go_wp2_with fail
              go_round
              case rel => exact ⟨1, sum + m, by go_num, by go_num, by omega, by have := hs3.out; omega, Lib.hid (.inr ⟨by omega, hs3.out⟩), hnew⟩
              case measure => simp [intOf]; omega
            · have hvI : 4294967296 ≤ (m : Int) := by have := hme.out; omega
              have hno : Hid (parseL s.toList = none) := Lib.hid (by rw [hg2.out, if_neg hvP])
              replace hsb2 := Lib.hid hsb2
              go_wp2_with fail
              go_ret2
              exact retU_none hno.out hb
          · have hle : (l.length : Int) - 1 = 1 := by omega
            have hsb2 : sum + 16777216 ≤ 4294967296 := by have := hsb.out; omega
            by_cases hvP : v < 16777216
            · have hmv : m = v := by have := hme.out; omega
              subst hmv
              have hvI : decide ((16777216 : Int) ≤ (m : Int)) = false := decide_eq_false (by omega)
              have hnew : Hid (parseGo 2 ((partsL s.toList).drop 2) (sum + m) = parseL s.toList) := Lib.hid (by
                rw [hg2.out, if_pos hvP, List.drop_of_length_le (by have := hll.out; omega), parseGo])
              have hs3 : sum + m < 4294967296 := by omega
              replace hsb2 := Lib.hid hsb2
              replace hs3 := Lib.hid hs3
              replace hvP := Lib.hid hvP
              go_wp2_with fail
              go_round
              case rel => exact ⟨2, sum + m, by go_num, by go_num, by omega, by have := hs3.out; omega, Lib.hid (.inr ⟨by omega, hs3.out⟩), hnew⟩
              case measure => simp [intOf]; omega
            · have hvI : 16777216 ≤ (m : Int) := by have := hme.out; omega
              have hno : Hid (parseL s.toList = none) := Lib.hid (by rw [hg2.out, if_neg hvP])
              replace hsb2 := Lib.hid hsb2
              go_wp2_with fail
              go_ret2
              exact retU_none hno.out hb
          · have hle : (l.length : Int) - 1 = 2 := by omega
            have hsb2 : sum + 65536 ≤ 4294967296 := by have := hsb.out; omega
            by_cases hvP : v < 65536
            · have hmv : m = v := by have := hme.out; omega
              subst hmv
              have hvI : decide ((65536 : Int) ≤ (m : Int)) = false := decide_eq_false (by omega)
              have hnew : Hid (parseGo 3 ((partsL s.toList).drop 3) (sum + m) = parseL s.toList) := Lib.hid (by
                rw [hg2.out, if_pos hvP, List.drop_of_length_le (by have := hll.out; omega), parseGo])
              have hs3 : sum + m < 4294967296 := by omega
              replace hsb2 := Lib.hid hsb2
              replace hs3 := Lib.hid hs3
              replace hvP := Lib.hid hvP
              go_wp2_with fail
              go_round
              case rel => exact ⟨3, sum + m, by go_num, by go_num, by omega, by have := hs3.out; omega, Lib.hid (.inr ⟨by omega, hs3.out⟩), hnew⟩
              case measure => simp [intOf]; omega
            · have hvI : 65536 ≤ (m : Int) := by have := hme.out; omega
              have hno : Hid (parseL s.toList = none) := Lib.hid (by rw [hg2.out, if_neg hvP])
              replace hsb2 := Lib.hid hsb2
              go_wp2_with fail
              go_ret2
              exact retU_none hno.out hb
          · have hle : (l.length : Int) - 1 = 3 := by omega
            have hsb2 : sum + 256 ≤ 4294967296 := by have := hsb.out; omega
            by_cases hvP : v < 256
            · have hmv : m = v := by have := hme.out; omega
              subst hmv
              have hvI : decide ((256 : Int) ≤ (m : Int)) = false := decide_eq_false (by omega)
              have hnew : Hid (parseGo 4 ((partsL s.toList).drop 4) (sum + m) = parseL s.toList) := Lib.hid (by
                rw [hg2.out, if_pos hvP, List.drop_of_length_le (by have := hll.out; omega), parseGo])
              have hs3 : sum + m < 4294967296 := by omega
              replace hsb2 := Lib.hid hsb2
              replace hs3 := Lib.hid hs3
              replace hvP := Lib.hid hvP
              go_wp2_with fail
              go_round
              case rel => exact ⟨4, sum + m, by go_num, by go_num, by omega, by have := hs3.out; omega, Lib.hid (.inr ⟨by omega, hs3.out⟩), hnew⟩
              case measure => simp [intOf]; omega
            · have hvI : 256 ≤ (m : Int) := by have := hme.out; omega
              have hno : Hid (parseL s.toList = none) := Lib.hid (by rw [hg2.out, if_neg hvP])
              replace hsb2 := Lib.hid hsb2
              go_wp2_with fail
              go_ret2
              exact retU_none hno.out hb
        · have hd2 : ∃ y r, (partsL s.toList).drop (k + 1) = y :: r := by
            cases hr : (partsL s.toList).drop (k + 1) with
            | nil => have := congrArg List.length hr; rw [List.length_drop, List.length_nil] at this; have := hll.out; omega
            | cons y r => exact ⟨y, r, rfl⟩
          have hg2 : Hid (parseL s.toList = if v ≤ 255 then parseGo (k + 1) ((partsL s.toList).drop (k + 1)) (sum + v * 2 ^ (8 * (3 - k))) else none) := Lib.hid (by
            obtain ⟨y, r, h⟩ := hd2
            rw [← hg.out, hd1.out, h, parseGo, hv])
          clear hd2
          replace hv := Lib.hid hv
          rcases (show k = 0 ∨ k = 1 ∨ k = 2 by omega) with rfl | rfl | rfl
          · have hle : (0 : Int) < (l.length : Int) - 1 := by omega
            have hle2 : ((0 : Int) == (l.length : Int) - 1) = false := beq_eq_false_iff_ne.2 (by omega)
            have hsb2 : sum + 4294967296 ≤ 4294967296 := by have := hsb.out; omega
            by_cases hvP : v ≤ 255
            · have hmv : m = v := by have := hme.out; omega
              subst hmv
              have hvI : (m : Int) ≤ 255 := by omega
              have hnew : Hid (parseGo 1 ((partsL s.toList).drop 1) (sum + m * 16777216) = parseL s.toList) := Lib.hid (by
                rw [hg2.out, if_pos hvP])
              have hs3 : sum + m * 16777216 + 16777216 ≤ 4294967296 := by omega
              replace hsb2 := Lib.hid hsb2
              replace hs3 := Lib.hid hs3
              go_wp2_with fail
              go_round
              case rel => exact ⟨1, sum + m * 16777216, by go_num, by go_num, by omega, by have := hs3.out; omega, Lib.hid (.inl hs3.out), hnew⟩
              case measure => simp [intOf]; omega
            · have hvI : 255 < (m : Int) := by have := hme.out; omega
              have hno : Hid (parseL s.toList = none) := Lib.hid (by rw [hg2.out, if_neg hvP])
              replace hsb2 := Lib.hid hsb2
              go_wp2_with fail
              go_ret2
              exact retU_none hno.out hb
          · have hle : (1 : Int) < (l.length : Int) - 1 := by omega
            have hle2 : ((1 : Int) == (l.length : Int) - 1) = false := beq_eq_false_iff_ne.2 (by omega)
            have hsb2 : sum + 16777216 ≤ 4294967296 := by have := hsb.out; omega
            by_cases hvP : v ≤ 255
            · have hmv : m = v := by have := hme.out; omega
              subst hmv
              have hvI : (m : Int) ≤ 255 := by omega
              have hnew : Hid (parseGo 2 ((partsL s.toList).drop 2) (sum + m * 65536) = parseL s.toList) := Lib.hid (by
                rw [hg2.out, if_pos hvP])
              have hs3 : sum + m * 65536 + 65536 ≤ 4294967296 := by omega
              replace hsb2 := Lib.hid hsb2
              replace hs3 := Lib.hid hs3
              go_wp2_with fail
              go_round
              case rel => exact ⟨2, sum + m * 65536, by go_num, by go_num, by omega, by have := hs3.out; omega, Lib.hid (.inl hs3.out), hnew⟩
              case measure => simp [intOf]; omega
            · have hvI : 255 < (m : Int) := by have := hme.out; omega
              have hno : Hid (parseL s.toList = none) := Lib.hid (by rw [hg2.out, if_neg hvP])
              replace hsb2 := Lib.hid hsb2
              go_wp2_with fail
              go_ret2
              exact retU_none hno.out hb
          · have hle : (2 : Int) < (l.length : Int) - 1 := by omega
            have hle2 : ((2 : Int) == (l.length : Int) - 1) = false := beq_eq_false_iff_ne.2 (by omega)
            have hsb2 : sum + 65536 ≤ 4294967296 := by have := hsb.out; omega
            by_cases hvP : v ≤ 255
            · have hmv : m = v := by have := hme.out; omega
              subst hmv
              have hvI : (m : Int) ≤ 255 := by omega
              have hnew : Hid (parseGo 3 ((partsL s.toList).drop 3) (sum + m * 256) = parseL s.toList) := Lib.hid (by
                rw [hg2.out, if_pos hvP])
              have hs3 : sum + m * 256 + 256 ≤ 4294967296 := by omega
              replace hsb2 := Lib.hid hsb2
              replace hs3 := Lib.hid hs3
              go_wp2_with fail
              go_round
              case rel => exact ⟨3, sum + m * 256, by go_num, by go_num, by omega, by have := hs3.out; omega, Lib.hid (.inl hs3.out), hnew⟩
              case measure => simp [intOf]; omega
            · have hvI : 255 < (m : Int) := by have := hme.out; omega
              have hno : Hid (parseL s.toList = none) := Lib.hid (by rw [hg2.out, if_neg hvP])
              replace hsb2 := Lib.hid hsb2
              go_wp2_with fail
              go_ret2
              exact retU_none hno.out hb
    · have hke : k = l.length := by omega
      have hfin : Hid (parseL s.toList = some sum) := Lib.hid (by
        rw [← hg.out, List.drop_of_length_le (by have := hll.out; omega), parseGo])
      have hsl : sum < 4294967296 := by
        rcases hsb.out with h | h
        · have := Nat.two_pow_pos (8 * (4 - k)); omega
        · exact h.2
      have hgeI : (l.length : Int) ≤ (k : Int) := by omega
      have e1 : IntKind.u32.wrap (sum : Int) = (sum : Int) := u32_wraps _ (by omega) (by omega)
      replace hke := Lib.hid hke
      go_wp2_with fail
      go_ret2
      unfold RetU
      rw [hfin.out]
      exact ⟨rfl, hb⟩
end Go.Proofs.YtceedfhealbdkaaDoor
