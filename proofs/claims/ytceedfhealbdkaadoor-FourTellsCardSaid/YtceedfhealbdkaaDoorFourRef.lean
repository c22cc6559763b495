/- The contracts of the reference of layer 9: Parts, number, Ends, Parse. -/
import Derived.Test.YtceedfhealbdkaaDoorFourL
namespace Go.Proofs.YtceedfhealbdkaaDoor
open Go.RowKit
set_option linter.unusedVariables false

theorem tyS9 : ElemTy Tryd.prog 39 9 (.string ByteArray.empty) 16 := .mk' Tryd.underlying39 (by kernel_rfl) rfl
/-- The pieces that are cut off ahead of place k, the next one from b on. -/
def SplitAt (s : ByteArray) (l : List ByteArray) (b k : Nat) : Prop :=
  (k ≤ s.size ∧ b ≤ k ∧ splitC 46 s.toList = l.map (·.toList) ++ splitC 46 (s.toList.drop b) ∧ ∀ c ∈ (s.toList.take k).drop b, c ≠ 46) ∨ (s.size < k ∧ splitC 46 s.toList = l.map (·.toList))
theorem drop_parts (l : List UInt8) {b k : Nat} (h : b ≤ k) (hk : k ≤ l.length) : l.drop b = (l.take k).drop b ++ l.drop k := by
  have e : l = l.take k ++ l.drop k := (List.take_append_drop k l).symm
  conv => lhs; rw [e]
  rw [List.drop_append_of_le_length (by rw [List.length_take]; omega)]
theorem SplitAt.on {s : ByteArray} {l : List ByteArray} {b k : Nat} (h : SplitAt s l b k) (hk : k < s.size) (hc : s[k] ≠ 46) : SplitAt s l b (k + 1) := by
  rcases h with ⟨_, hb, he, hn⟩ | ⟨h, _⟩
  · refine .inl ⟨by omega, by omega, he, ?_⟩
    rw [take_snoc s k hk, List.drop_append_of_le_length (by rw [List.length_take, size_toList]; omega)]
    intro c hx
    rcases List.mem_append.1 hx with hx | hx
    · exact hn c hx
    · simp at hx; rw [hx]; exact hc
  · omega
theorem SplitAt.new {s : ByteArray} {l : List ByteArray} {b k : Nat} (h : SplitAt s l b k) (hk : k < s.size) (hc : s[k] = 46) : SplitAt s (l ++ [s.extract b k]) (k + 1) (k + 1) := by
  rcases h with ⟨_, hb, he, hn⟩ | ⟨h, _⟩
  · refine .inl ⟨by omega, Nat.le_refl _, ?_, ?_⟩
    · rw [he, drop_parts s.toList hb (by rw [size_toList]; omega), drop_cons s k hk, hc, splitC_append, splitC_no _ hn]
      simp [toList_extract]
    · rw [List.drop_of_length_le (by rw [List.length_take]; omega)]; intro c hc; cases hc
  · omega
theorem SplitAt.fin {s : ByteArray} {l : List ByteArray} {b k : Nat} (h : SplitAt s l b k) (hk : k = s.size) : SplitAt s (l ++ [s.extract b k]) (k + 1) (k + 1) := by
  rcases h with ⟨_, hb, he, hn⟩ | ⟨h, _⟩
  · refine .inr ⟨by omega, ?_⟩
    have e : s.toList.drop b = (s.toList.take k).drop b := by rw [take_all s k (by omega)]
    rw [he, e, splitC_no _ hn]
    simp [toList_extract]
  · omega
theorem _root_.Go.Proofs.YtceedfhealbdkaaDoor.OwnS.front {w : World} {B : Nat} {E : TypeId} {v : Value} {l : List ByteArray} (h : OwnS w B E v l) (hn : 0 < l.length) :
    ∃ g cp, v = .slice (some ⟨g, 0, none⟩) l.length cp ∧ l.length ≤ cp ∧ ∀ i (h : i < l.length), w.cell? ⟨g, i, none⟩ = some (.string l[i]) := by
  rcases h.2 with ⟨hv, h0⟩ | ⟨g, cap, cur, rfl, hg, hh, hcap, hml, hcs, hcur⟩
  · omega
  · refine ⟨g, cap, rfl, hcap, fun i hi => ?_⟩
    have := World.ownsRow.cellAt h i (by omega)
    rw [this]; simp [hi]
set_option maxHeartbeats 1000000 in
theorem partsR_any (s : ByteArray) (w : World) (hs : s.size ≤ 4294967281) :
    Calls Tryd.prog 21 #[.string s] w (RetP w (partsL s.toList)) := by
  go_enter Tryd.func21, Tryd.ntmps21
  go_wp2_with fail
  go_loopw [3, 4, 5] (fun v bg i wr => ∃ (k b : Nat) (l : List ByteArray), i = .int .i64 k ∧ k ≤ s.size + 1 ∧ b ≤ k ∧ bg = .int .i64 b ∧ Hid (SplitAt s l b k) ∧ l.length ≤ k ∧ OwnS wr w.heap.size 9 v l ∧ Below w.heap.size w wr) (fun _ _ i _ => s.size + 1 - (intOf i).toNat)
  case atStart => exact ⟨0, 0, [], rfl, by omega, Nat.zero_le _, rfl, Lib.hid (.inl ⟨Nat.zero_le _, Nat.le_refl _, by simp, by simp⟩), Nat.zero_le _, OwnS.nil _ _ _, Below.refl _ _⟩
  case round =>
    obtain ⟨k, b, l, rfl, hk, hbk, rfl, hw, hll, hown, hbel⟩ := hrel
    have hsz := hbel.size
    by_cases hlt : k < s.size
    · obtain ⟨e1, n1⟩ := bne_of (show ¬ (k : Int) = (s.size : Int) by omega)
      have z1 : (k : Int) < (s.size : Int) := by omega
      have z2 : (k : Int) ≤ (s.size : Int) := by omega
      have hq := u8_eqI (c := s[k]) (n := 46) (by decide)
      by_cases hc : s[k] = 46
      · have hq2 : ((s[k].toNat : Int) == 46) = true := hq.trans (by rw [hc]; decide)
        have hnew := Lib.hid (hw.out.new hlt hc)
        replace hc := Lib.hid hc
        clear hq
        go_wp2_with (at_builtin; refine wpList_pushS tyS9 rfl _ _ rfl rfl rfl hown hbel hsz (by unfold maxLen; omega) (by omega) ?_; intro v' w' ho' hb' _)
        go_roundw
        case rel => exact ⟨k + 1, k + 1, _, by go_num, by omega, by omega, by go_num, hnew, by simp; omega, ho', hb'⟩
        case measure => simp [intOf]; omega
      · have hq2 : ((s[k].toNat : Int) == 46) = false := hq.trans (by simpa using hc)
        have hnew := Lib.hid (hw.out.on hlt hc)
        replace hc := Lib.hid hc
        clear hq
        go_wp2_with fail
        go_roundw
        case rel => exact ⟨k + 1, b, l, by go_num, by omega, by omega, rfl, hnew, by omega, hown, hbel⟩
        case measure => simp [intOf]; omega
    by_cases hEq : k = s.size
    · obtain ⟨e1, n1⟩ := beq_of (show (k : Int) = (s.size : Int) by omega)
      have z2 : (k : Int) ≤ (s.size : Int) := by omega
      have z3 : k ≤ s.size := by omega
      have hnew := Lib.hid (hw.out.fin hEq)
      replace hEq := Lib.hid hEq
      go_wp2_with (at_builtin; refine wpList_pushS tyS9 rfl _ _ rfl rfl rfl hown hbel hsz (by unfold maxLen; omega) (by omega) ?_; intro v' w' ho' hb' _)
      go_roundw
      case rel => exact ⟨k + 1, k + 1, _, by go_num, by omega, by omega, by go_num, hnew, by simp; omega, ho', hb'⟩
      case measure => simp [intOf]; omega
    · have hgt : (s.size : Int) < (k : Int) := by omega
      have hl : Hid (l.map (·.toList) = splitC 46 s.toList) := Lib.hid (by
        rcases hw.out with ⟨h, _⟩ | ⟨_, h⟩
        · omega
        · exact h.symm)
      have hll2 : Hid (l.length = (splitC 46 s.toList).length) := Lib.hid (by have := congrArg List.length hl.out; rwa [List.length_map] at this)
      have hn0 : 0 < l.length := by rw [hll2.out]; exact List.length_pos_iff.2 (splitC_ne _ _)
      have hlast : Hid ((splitC 46 s.toList).getLast? = some (l[l.length - 1].toList)) := Lib.hid (by rw [← hl.out]; exact getLast_map hn0)
      obtain ⟨g, cp, rfl, hle, hcc⟩ := hown.front hn0
      have hle1 : l.length - 1 ≤ cp := by omega
      have hleI : (l.length : Int) - 1 ≤ (cp : Int) := by omega
      have hcl := hcc (l.length - 1) (by omega)
      have e1 : IntKind.i64.wrap ((l.length : Int) - 1) = (l.length : Int) - 1 := IntWalk.i64_in _ (by omega)
      replace hcc := Lib.hid hcc
      replace hown := Lib.hid hown
      by_cases hn : l.length = 1
      · have hq : (l.length : Int) ≤ 1 := by omega
        have hP : Hid (l.map (·.toList) = partsL s.toList) := Lib.hid (by
          unfold partsL; rw [if_neg (by have := hll2.out; omega)]; exact hl.out)
        replace hn := Lib.hid hn
        go_wp2_with fail
        go_ret
        exact ⟨_, l, rfl, hP, read_front hcc.out, hbel⟩
      have hq : (1 : Int) < (l.length : Int) := by omega
      replace hn := Lib.hid hn
      cases hem : (l[l.length - 1].toList.isEmpty)
      · have hP : Hid (l.map (·.toList) = partsL s.toList) := Lib.hid (by
          unfold partsL; rw [if_neg (by rw [hlast.out]; rintro ⟨_, h⟩; rw [Option.some.inj h] at hem; cases hem)]; exact hl.out)
        go_wp2_with fail
        go_ret
        exact ⟨_, l, rfl, hP, read_front hcc.out, hbel⟩
      · have hP : Hid ((l.dropLast).map (·.toList) = partsL s.toList) := Lib.hid (by
          unfold partsL; rw [if_pos ⟨by have := hll2.out; omega, by rw [hlast.out]; congr 1; simpa using hem⟩, ← hl.out, List.map_dropLast])
        have hdl : Hid (l.dropLast.length = l.length - 1) := Lib.hid List.length_dropLast
        have hR : Hid (ReadS wr (.slice (some ⟨g, 0, none⟩) (l.length - 1) cp) l.dropLast) := Lib.hid (by
          rw [← hdl.out]
          exact read_front (fun i hi => by
            have hi2 : i < l.length := by have := hdl.out; omega
            rw [List.getElem_dropLast]; exact hcc.out i hi2))
        go_wp2_with fail
        go_ret
        exact ⟨_, l.dropLast, rfl, hP, hR.out, hbel⟩
set_option maxHeartbeats 1000000 in
set_option maxRecDepth 100000 in
theorem numberR_any (s : ByteArray) (w : World) (hs : s.size ≤ 1099511627776) :
    Calls Tryd.prog 22 #[.string s] w (RetN 8589934592 w (numV s.toList)) := by
  cases hem : s.toList.isEmpty
  · have hN : ∃ (b : Nat) (x : ByteArray) (B : Bool), (b = 8 ∨ b = 10 ∨ b = 16) ∧ x.size ≤ 1099511627776 ∧ numV s.toList = digsGo b 0 x.toList ∧
        ((b = 10 ∧ B = false ∧ x = s ∧ ((s.size : Int) ≤ 1 ∨ (1 : Int) < (s.size : Int) ∧ ∃ h : 0 < s.size, ((s[0].toNat : Int) == 48) = false)) ∨
         (b = 8 ∧ B = true ∧ s.extract 1 s.size = x ∧ (1 : Int) < (s.size : Int) ∧ (∃ h : 0 < s.size, ((s[0].toNat : Int) == 48) = true) ∧ ∃ h : 0 < x.size, ((x[0].toNat : Int) == 120) = false ∧ ((x[0].toNat : Int) == 88) = false) ∨
         (b = 16 ∧ B = true ∧ ∃ t : ByteArray, s.extract 1 s.size = t ∧ t.extract 1 t.size = x ∧ (1 : Int) < (s.size : Int) ∧ (∃ h : 0 < s.size, ((s[0].toNat : Int) == 48) = true) ∧ ∃ h : 0 < t.size, (((t[0].toNat : Int) == 120) = true ∨ (((t[0].toNat : Int) == 120) = false ∧ ((t[0].toNat : Int) == 88) = true)))) := by
      have hl := size_toList s
      match hL : s.toList with
      | [] => rw [hL] at hem; cases hem
      | [c] => rw [hL] at hl; exact ⟨10, s, false, by decide, hs, by rw [hL]; rfl, .inl ⟨rfl, rfl, rfl, .inl (by simp at hl; omega)⟩⟩
      | c :: d :: r =>
        rw [hL] at hl
        simp only [List.length_cons] at hl
        have h0 : 0 < s.size := by omega
        have h1 : (1 : Int) < (s.size : Int) := by omega
        have g0 := get_head hL h0
        have q0 : ((s[0].toNat : Int) == 48) = decide (c = 48) := by rw [g0]; exact u8_eqI (n := 48) (by decide)
        have hL1 : (s.extract 1 s.size).toList = d :: r := by rw [toList_from, hL]; rfl
        have hz1 : (s.extract 1 s.size).size = r.length + 1 := by rw [← size_toList, hL1]; rfl
        have h2 : 0 < (s.extract 1 s.size).size := by omega
        have g1 := get_head hL1 h2
        have q1 : (((s.extract 1 s.size)[0].toNat : Int) == 120) = decide (d = 120) := by rw [g1]; exact u8_eqI (n := 120) (by decide)
        have q2 : (((s.extract 1 s.size)[0].toNat : Int) == 88) = decide (d = 88) := by rw [g1]; exact u8_eqI (n := 88) (by decide)
        by_cases hc : c = 48
        · by_cases hd : d = 120 ∨ d = 88
          · refine ⟨16, _, true, by decide, ?_, ?_, .inr (.inr ⟨rfl, rfl, _, rfl, rfl, h1, ⟨h0, q0.trans (decide_eq_true hc)⟩, h2, ?_⟩)⟩
            · rw [← size_toList, toList_from, hL1]; simp; omega
            · rw [toList_from, hL1]; show numV (c :: d :: r) = _; rw [numV, if_pos hc, if_pos hd]; rfl
            · by_cases hd2 : d = 120
              · exact .inl (q1.trans (decide_eq_true hd2))
              · exact .inr ⟨q1.trans (decide_eq_false hd2), q2.trans (decide_eq_true (hd.resolve_left hd2))⟩
          · refine ⟨8, _, true, by decide, ?_, ?_, .inr (.inl ⟨rfl, rfl, rfl, h1, ⟨h0, q0.trans (decide_eq_true hc)⟩, h2, q1.trans (decide_eq_false (fun h => hd (.inl h))), q2.trans (decide_eq_false (fun h => hd (.inr h)))⟩)⟩
            · rw [hz1]; omega
            · rw [hL1]; show numV (c :: d :: r) = _; rw [numV, if_pos hc, if_neg hd]
        · exact ⟨10, s, false, by decide, hs, by rw [hL]; show numV (c :: d :: r) = _; rw [numV, if_neg hc], .inl ⟨rfl, rfl, rfl, .inr ⟨h1, h0, q0.trans (decide_eq_false hc)⟩⟩⟩
    obtain ⟨b, x, B, hb, hx, hV, hws⟩ := hN
    replace hV := Lib.hid hV
    replace hws := Lib.hid hws
    go_enter Tryd.func22, Tryd.ntmps22
    go_upto_region 4 with (fail)
    go_cut [17] (fun s17 wx => s17 = .bool B ∧ w = wx)
    case first => as_aux_lemma =>
      rcases hws.out with ⟨rfl, rfl, rfl, h | ⟨h, h0, h1⟩⟩ | ⟨rfl, rfl, _, h, ⟨h0, h1⟩, _⟩ | ⟨rfl, rfl, _, _, _, h, ⟨h0, h1⟩, _⟩
      all_goals
        go_wp2_with fail
        go_meet
        exact ⟨rfl, rfl⟩
    case rest =>
      obtain ⟨rfl, rfl⟩ := hcut
      go_upto_if 17 with (fail)
      go_cut [0, 4] (fun s0 s4 wx => s0 = .string x ∧ s4 = .int .i64 (b : Int) ∧ w = wx)
      case first => as_aux_lemma =>
        rcases hws.out with ⟨rfl, rfl, rfl, _⟩ | ⟨rfl, rfl, hx1, h, ⟨h0, _⟩, h2, h3, h4⟩ | ⟨rfl, rfl, t, hx1, hx2, h, ⟨h0, _⟩, h2, h3 | ⟨h3, h4⟩⟩
        all_goals
          go_wp2_with fail
          go_meet
          exact ⟨by first | rfl | rw [hx1] | rw [hx1, hx2], rfl, rfl⟩
      case rest =>
        obtain ⟨rfl, rfl, rfl⟩ := hcut
        have hb1 : 1 ≤ b := by omega
        have hb2 : (b : Int) ≤ 16 := by omega
        have hb0 : (0 : Int) ≤ (b : Int) := by omega
        clear hb hws hem hs
        go_wp2_with fail
        go_loop [5, 6] (fun nv iv => ∃ k m acc : Nat, iv = .int .i64 k ∧ nv = .int .i64 m ∧ k ≤ x.size ∧ m ≤ 8589934592 ∧ Hid (m = min acc 8589934592) ∧ Hid (digsGo b acc (x.toList.drop k) = numV s.toList)) (fun _ i => x.size - (intOf i).toNat)
        case atStart => exact ⟨0, 0, 0, rfl, rfl, Nat.zero_le _, by omega, rfl, Lib.hid (by rw [List.drop_zero, hV.out])⟩
        case round =>
          obtain ⟨k, m, acc, rfl, rfl, hk, hm, hmc, hg⟩ := hrel
          by_cases hlt : k < x.size
          · have hdr := drop_cons x k hlt
            have hltI : (k : Int) < (x.size : Int) := by omega
            rw [hdr] at hg
            clear hdr
            by_cases hd : digitZ (x[k].toNat : Int) (b : Int) < 0
            · have hno : Hid (numV s.toList = none) := Lib.hid (by rw [← hg.out, digsGo, if_pos hd])
              go_wp2_with (go_at_call 24; refine (digitr_any _ _ _ (byte_nn _) (byte_le _)).mono ?_; rintro e w' ⟨rfl, rfl⟩)
              go_ret2
              unfold RetN
              rw [hno.out]
              exact ⟨rfl, rfl⟩
            · have hle := digitZ_le (x[k].toNat : Int) (b : Int)
              have hnew : Hid (digsGo b (acc * b + (digitZ (x[k].toNat : Int) (b : Int)).toNat) (x.toList.drop (k + 1)) = numV s.toList) := Lib.hid (by rw [← hg.out, digsGo, if_neg hd])
              obtain ⟨d, hdd⟩ : ∃ d : Nat, digitZ (x[k].toNat : Int) (b : Int) = (d : Int) := ⟨(digitZ (x[k].toNat : Int) (b : Int)).toNat, by omega⟩
              have hdig := fun w => digitr_any (x[k].toNat : Int) (b : Int) w (byte_nn _) (byte_le _)
              rw [hdd] at hnew hdig hle hd
              replace hdig := Lib.hid hdig
              replace hdd := Lib.hid hdd
              have hmb : m * b ≤ 8589934592 * 16 := Nat.mul_le_mul hm (by omega)
              have hmbI : (m : Int) * (b : Int) = ((m * b : Nat) : Int) := by rw [Int.natCast_mul]
              have e1 : IntKind.i64.wrap ((m : Int) * (b : Int)) = ((m * b : Nat) : Int) := by rw [hmbI]; exact IntWalk.i64_in _ (by omega)
              have e2 : IntKind.i64.wrap (((m * b : Nat) : Int) + (d : Int)) = ((m * b : Nat) : Int) + (d : Int) := IntWalk.i64_in _ (by omega)
              have hms := min_step (C := 8589934592) (acc := acc) (d := d) hb1
              rw [← hmc.out] at hms
              replace hms := Lib.hid hms
              replace hmbI := Lib.hid hmbI
              clear hg
              go_wp2_with (go_at_call 24; refine (hdig.out _).mono ?_; rintro e w' ⟨rfl, rfl⟩)
              go_round
              case rel => exact ⟨k + 1, min (m * b + d) 8589934592, acc * b + d, by go_num, congrArg (Value.int .i64) (by rw [hmbI.out]; omega), by omega, Nat.min_le_right _ _, Lib.hid hms.out, hnew⟩
              case measure => simp [intOf]; omega
          · have hfin : Hid (numV s.toList = some acc) := Lib.hid (by rw [← hg.out, drop_end x k (by omega)]; rfl)
            have hgeI : (x.size : Int) ≤ (k : Int) := by omega
            clear hg
            go_wp2_with fail
            go_ret2
            unfold RetN
            rw [hfin.out, hmc.out]
            exact ⟨rfl, rfl⟩
  · have hno : Hid (numV s.toList = none) := Lib.hid (by rw [show s.toList = [] by simpa using hem]; rfl)
    go_enter Tryd.func22, Tryd.ntmps22
    go_wp2_with fail
    go_ret2
    unfold RetN
    rw [hno.out]
    exact ⟨rfl, rfl⟩
end Go.Proofs.YtceedfhealbdkaaDoor
