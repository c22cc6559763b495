/- The contract of the laws' own text of an address: all digits of all pieces. -/
import Derived.Test.YtgkbdcdfpoaifaaDoorSixF
import Derived.Test.YtgkbdcdfpoaifaaDoorSixT
import Derived.IntWalk
namespace Go.Proofs.YtgkbdcdfpoaifaaDoor
open Go.RowKit
set_option linter.unusedVariables false
set_option linter.unusedSimpArgs false

/-- All four digits. -/
def hex4 (n : Nat) : List UInt8 := [hexC (n / 4096 % 16), hexC (n / 256 % 16), hexC (n / 16 % 16), hexC (n % 16)]
theorem hex4_step (n j : Nat) (h : j < 4) : (hex4 n).take (j + 1) = (hex4 n).take j ++ [hexC (n / 16 ^ (3 - j) % 16)] := by
  match j, h with
  | 0, _ => rfl
  | 1, _ => rfl
  | 2, _ => simp [hex4]
  | 3, _ => simp [hex4]
theorem hex4_digs {n : Nat} (h : n < 65536) : digsGo 16 0 (hex4 n) = some n := by
  have e : ∀ a b c d : Nat, a < 16 → b < 16 → c < 16 → d < 16 → digsGo 16 0 [hexC a, hexC b, hexC c, hexC d] = some (((a * 16 + b) * 16 + c) * 16 + d) := by
    intro a b c d ha hb hc hd
    have s : ∀ acc x r, x < 16 → digsGo 16 acc (hexC x :: r) = digsGo 16 (acc * 16 + x) r := by
      intro acc x r hx
      rw [digsGo, digitZ_hexC (b := 16) hx (by decide), if_neg (by omega)]; simp
    rw [s _ _ _ ha, s _ _ _ hb, s _ _ _ hc, s _ _ _ hd, digsGo]; simp
  unfold hex4
  rw [e _ _ _ _ (Nat.mod_lt _ (by decide)) (Nat.mod_lt _ (by decide)) (Nat.mod_lt _ (by decide)) (Nat.mod_lt _ (by decide))]
  congr 1; omega
theorem hex4_mem {n : Nat} : ∀ c ∈ hex4 n, ∃ d, d < 16 ∧ c = hexC d := by
  intro c hc
  simp only [hex4, List.mem_cons, List.not_mem_nil, or_false] at hc
  rcases hc with rfl | rfl | rfl | rfl
  · exact ⟨_, Nat.mod_lt _ (by decide), rfl⟩
  · exact ⟨_, Nat.mod_lt _ (by decide), rfl⟩
  · exact ⟨_, Nat.mod_lt _ (by decide), rfl⟩
  · exact ⟨_, Nat.mod_lt _ (by decide), rfl⟩
theorem hex4_bet (n : Nat) : Bet (hex4 n) := by
  refine ⟨by simp [hex4], fun c hc => ?_⟩
  obtain ⟨d, hd, rfl⟩ := hex4_mem c hc
  exact (hexC_no ⟨d, hd⟩).1
theorem hex4_no46 (n : Nat) : ∀ c ∈ hex4 n, c ≠ 46 := by
  intro c hc
  obtain ⟨d, hd, rfl⟩ := hex4_mem c hc
  exact (hexC_no ⟨d, hd⟩).2
theorem pieceV_hex4 {n : Nat} (h : n < 65536) : pieceV (hex4 n) = some n := by
  unfold pieceV digs1
  rw [if_neg (by simp [hex4]), if_neg (hex4_bet n).1]
  exact hex4_digs h
theorem told_hex4 {l : List Nat} (h : ∀ x ∈ l, x < 65536) : Told hex4 l := fun n hn => ⟨hex4_bet n, pieceL_plain (pieceV_hex4 (h n hn)) (hex4_no46 n)⟩
/-- The whole text of an address. -/
def wholeL (a : List Nat) : List UInt8 := joinC (a.map hex4)
theorem whole_step {a : List Nat} (i : Nat) (h : i < a.length) : wholeL (a.take (i + 1)) = (if i = 0 then [] else wholeL (a.take i) ++ [58]) ++ hex4 (pc a i) := by
  have e : a.take (i + 1) = a.take i ++ [pc a i] := by
    unfold pc
    rw [List.take_succ_eq_append_getElem h]; simp [List.getD, h]
  unfold wholeL
  rw [e, List.map_append, List.map_cons, List.map_nil, joinC_snoc]
  congr 1
  by_cases h0 : i = 0
  · subst h0; simp
  · rw [if_neg h0, if_neg (by
      intro e
      have := congrArg List.length e
      simp only [List.length_map, List.length_take, List.length_nil] at this
      omega)]
theorem whole_len : ∀ l : List Nat, l ≠ [] → (wholeL l).length + 1 = 5 * l.length
  | [], h => absurd rfl h
  | [n], _ => rfl
  | n :: m :: r, _ => by
    have ih := whole_len (m :: r) (by simp)
    unfold wholeL at ih ⊢
    rw [List.map_cons, List.map_cons, joinC, List.length_append, List.length_cons, ← List.map_cons]
    have : (hex4 n).length = 4 := rfl
    simp only [List.length_cons] at ih ⊢
    omega
theorem lit16_at10 : ∀ d : Fin 16, (([48, 49, 50, 51, 52, 53, 54, 55, 56, 57, 97, 98, 99, 100, 101, 102] : List UInt8).take (d.val + 1)).drop d.val = [hexC d.val] := by decide +kernel
set_option maxRecDepth 100000 in
set_option maxHeartbeats 4000000 in
theorem whole_any (a : List Nat) (w : World) (ha : Six a) : Calls Tryd.prog 14 #[.agg (sixCells a)] w (RetS w (wholeL a)) := by
  have hcell : ∀ i, i < 8 → (w.alloc (.cells (sixCells a) 23)).cell? ⟨w.heap.size, i, none⟩ = some (.int .u16 ((pc a i : Nat) : Int)) := by
    intro i hi
    rw [World.cell?_alloc_at _ _ _ _ rfl]; exact (ha.at i hi).2
  have hB : Below w.heap.size w (w.alloc (.cells (sixCells a) 23)) := (Below.refl _ _).alloc (Nat.le_refl _) _
  replace hcell := Lib.hid hcell
  go_enter Tryd.func14, Tryd.ntmps14
  go_wp2_with fail
  generalize w.alloc (.cells (sixCells a) 23) = wa at hcell hB ⊢
  go_loopw [4, 5] (fun sv iv wr => ∃ (i : Nat) (t : ByteArray), iv = .int .i64 i ∧ sv = .string t ∧ i ≤ 8 ∧ t.size ≤ 5 * i ∧ Hid (t.toList = wholeL (a.take i)) ∧ Below w.heap.size w wr ∧ Hid (∀ i, i < 8 → wr.cell? ⟨w.heap.size, i, none⟩ = some (.int .u16 ((pc a i : Nat) : Int)))) (fun _ iv _ => 8 - (intOf iv).toNat)
  case atStart => exact ⟨0, _, rfl, rfl, Nat.zero_le _, Nat.zero_le _, Lib.hid (toList_mk []), hB, hcell⟩
  case round =>
    clear hB hcell
    obtain ⟨i, t, rfl, rfl, hi, hts, ht, hB, hcell⟩ := hrel
    by_cases hlt : i < 8
    · have hltI : (i : Int) < 8 := by omega
      have hc := hcell.out i hlt
      have hn := (ha.at i hlt).1
      have hst := Lib.hid (whole_step (a := a) i (by rw [ha.len]; exact hlt))
      generalize pc a i = n at hc hn hst
      have hnI : IntKind.i64.wrap (n : Int) = (n : Int) := IntWalk.i64_in _ (by omega)
      obtain ⟨t2, ht2, hz2, hway⟩ : ∃ t2 : ByteArray, Hid (t2.toList ++ hex4 n = wholeL (a.take (i + 1))) ∧ t2.size ≤ 5 * i + 1 ∧ ((i = 0 ∧ t2 = t) ∨ (0 < i ∧ t2 = t ++ ⟨#[58]⟩)) := by
        by_cases h0 : i = 0
        · refine ⟨t, Lib.hid ?_, by omega, .inl ⟨h0, rfl⟩⟩
          rw [hst.out, if_pos h0]
          have : t.toList = [] := by rw [ht.out, h0]; rfl
          rw [this]
        · refine ⟨t ++ ⟨#[58]⟩, Lib.hid ?_, ?_, .inr ⟨by omega, rfl⟩⟩
          · rw [hst.out, if_neg h0, toList_append, ht.out]
            rw [show (ByteArray.mk #[58]).toList = [58] from toList_mk _]
          · rw [ByteArray.size_append]; show t.size + 1 ≤ _; omega
      replace hts : t.size ≤ 40 := by omega
      clear ht hst
      go_upto_if 17 with (fail)
      go_cut [4] (fun s4 wx => s4 = .string t2 ∧ wx = wr)
      case first =>
        rcases hway with ⟨h0, rfl⟩ | ⟨h0, rfl⟩
        · have h0I : (i : Int) ≤ 0 := by omega
          go_wp2_with fail
          go_meet
          exact ⟨rfl, rfl⟩
        · have h0I : (0 : Int) < (i : Int) := by omega
          go_wp2_with fail
          go_meet
          exact ⟨rfl, rfl⟩
      case rest =>
        obtain ⟨rfl, rfl⟩ := hcut
        clear hway
        go_wp2_with fail
        go_loopw [4, 7] (fun sv kv wx => ∃ (j kk : Nat) (x : ByteArray), kv = .int .i64 kk ∧ sv = .string x ∧ j ≤ 4 ∧ kk ≤ 4096 ∧ x.size ≤ 41 + j ∧ x.size ≤ 5 * i + 1 + j ∧ Hid (kk = if j < 4 then 16 ^ (3 - j) else 0) ∧ Hid (x.toList = t2.toList ++ (hex4 n).take j) ∧ Below w.heap.size w wx ∧ Hid (∀ i, i < 8 → wx.cell? ⟨w.heap.size, i, none⟩ = some (.int .u16 ((pc a i : Nat) : Int)))) (fun _ kv _ => (intOf kv).toNat)
        case atStart => exact ⟨0, 4096, t2, rfl, rfl, by decide, by decide, by omega, hz2, Lib.hid rfl, Lib.hid (by simp), hB, hcell⟩
        case round =>
          clear hB hcell
          obtain ⟨j, kk, x, rfl, rfl, hj, hkk, hx41, hxi, hk, hx, hB, hcell⟩ := hrel
          by_cases hj4 : j < 4
          · have hk0 : 0 < kk := by rw [hk.out, if_pos hj4]; exact Nat.pow_pos (by decide)
            have hk2 : Hid (kk / 16 = if j + 1 < 4 then 16 ^ (3 - (j + 1)) else 0) := Lib.hid (by
              rw [hk.out, if_pos hj4]
              by_cases h3 : j + 1 < 4
              · rw [if_pos h3, show 3 - j = (3 - (j + 1)) + 1 by omega, Nat.pow_succ]; omega
              · rw [if_neg h3, show 3 - j = 0 by omega])
            have hstep := Lib.hid (hex4_step n j hj4)
            have hkp : 16 ^ (3 - j) = kk := by rw [hk.out, if_pos hj4]
            rw [hkp] at hstep
            clear hk hkp
            have hkI : (0 : Int) < (kk : Int) := by omega
            have hkne : ((kk : Int) == 0) = false := by simp only [beq_eq_false_iff_ne, ne_eq]; omega
            have hd := Nat.mod_lt (n / kk) (show 0 < 16 by decide)
            have hq : n / kk ≤ n := Nat.div_le_self _ _
            have t1 : (n : Int) / (kk : Int) = ((n / kk : Nat) : Int) := (Int.natCast_ediv n kk).symm
            have t2' : (n : Int).tdiv (kk : Int) = ((n / kk : Nat) : Int) := by rw [Int.tdiv_eq_ediv_of_nonneg (Int.natCast_nonneg _)]; exact t1
            have t3 : ((n / kk : Nat) : Int) % 16 = ((n / kk % 16 : Nat) : Int) := (Int.natCast_emod (n / kk) 16).symm
            have t4 : ((n / kk : Nat) : Int).tmod 16 = ((n / kk % 16 : Nat) : Int) := by rw [Int.tmod_eq_emod_of_nonneg (Int.natCast_nonneg _)]; exact t3
            have t5 : (kk : Int) / 16 = ((kk / 16 : Nat) : Int) := (Int.natCast_ediv kk 16).symm
            have t6 : (kk : Int).tdiv 16 = ((kk / 16 : Nat) : Int) := by rw [Int.tdiv_eq_ediv_of_nonneg (Int.natCast_nonneg _)]; exact t5
            have hk16 : kk / 16 < kk := Nat.div_lt_self hk0 (by decide)
            have hx0 := lit16_at10 ⟨n / kk % 16, hd⟩
            dsimp only at hx0
            generalize n / kk % 16 = d at hd t3 t4 hx0 hstep
            generalize n / kk = q at t1 t2' t3 t4 hq
            generalize kk / 16 = k2 at t5 t6 hk16 hk2
            have e2 : IntKind.i64.wrap (q : Int) = (q : Int) := IntWalk.i64_in _ (by omega)
            have e3 : IntKind.i64.wrap ((d : Int) + 1) = (d : Int) + 1 := IntWalk.i64_in _ (by omega)
            have e4 : IntKind.i64.wrap (d : Int) = (d : Int) := IntWalk.i64_in _ (by omega)
            have e5 : IntKind.i64.wrap (k2 : Int) = (k2 : Int) := IntWalk.i64_in _ (by omega)
            have hxe : ((ByteArray.mk #[48, 49, 50, 51, 52, 53, 54, 55, 56, 57, 97, 98, 99, 100, 101, 102]).extract d (d + 1)).toList = [hexC d] := by rw [toList_extract, toList_mk]; exact hx0
            have hxs : ((ByteArray.mk #[48, 49, 50, 51, 52, 53, 54, 55, 56, 57, 97, 98, 99, 100, 101, 102]).extract d (d + 1)).size = 1 := by rw [← size_toList, hxe]; rfl
            have b1 : (0 : Int) ≤ (d : Int) := by omega
            have b2 : (d : Int) < 16 := by omega
            have b3 : (d : Int) + 1 ≤ 16 := by omega
            have b4 : (d : Int) ≤ (d : Int) + 1 := by omega
            have b5 : (0 : Int) ≤ (d : Int) + 1 := by omega
            have z1 : ¬ (9223372036854775807 < x.size + 1) := by omega
            have hcat : Hid ((x ++ (ByteArray.mk #[48, 49, 50, 51, 52, 53, 54, 55, 56, 57, 97, 98, 99, 100, 101, 102]).extract d (d + 1)).toList = t2.toList ++ (hex4 n).take (j + 1)) := Lib.hid (by rw [toList_append, hxe, hx.out, hstep.out, List.append_assoc])
            have hcs : Hid ((x ++ (ByteArray.mk #[48, 49, 50, 51, 52, 53, 54, 55, 56, 57, 97, 98, 99, 100, 101, 102]).extract d (d + 1)).size = x.size + 1) := Lib.hid (by rw [ByteArray.size_append, hxs])
            have hk2le : k2 ≤ 4096 := by omega
            replace hxe := Lib.hid hxe
            replace hk16 := Lib.hid hk16
            clear hx0 hstep hx
            go_wp2_with fail
            go_quiet (fail)
            go_wp2_with fail
            go_roundw
            case rel => exact ⟨j + 1, k2, _, rfl, rfl, by omega, hk2le, Nat.le_trans (Nat.le_of_eq hcs.out) (by omega), Nat.le_trans (Nat.le_of_eq hcs.out) (by omega), hk2, hcat, below_drewN hB _, hcell⟩
            case measure => have := hk16.out; simp [intOf]; omega
          · obtain rfl : j = 4 := by omega
            have hk0 : kk = 0 := by rw [hk.out, if_neg (by decide)]
            subst hk0
            have hfin : Hid (x.toList = wholeL (a.take (i + 1))) := Lib.hid (by rw [hx.out, ← ht2.out]; rfl)
            clear hk hx
            go_wp2_with fail
            go_roundw
            case rel => exact ⟨i + 1, x, by go_num, rfl, by omega, by omega, hfin, hB, hcell⟩
            case measure => simp [intOf]; omega
    · have hge : (8 : Int) ≤ (i : Int) := by omega
      obtain rfl : i = 8 := by omega
      have hfin : Hid (t.toList = wholeL a) := Lib.hid (by rw [ht.out, List.take_of_length_le (by rw [ha.len]; exact Nat.le_refl _)])
      go_wp2_with fail
      go_ret
      exact retS hfin.out hB
end Go.Proofs.YtgkbdcdfpoaifaaDoor
