/- The walk of FourForms. -/
import Derived.Test.YtceedfhealbdkaaDoorFourBack
import Derived.Test.YtceedfhealbdkaaDoorBytesIn
namespace Go.Proofs.YtceedfhealbdkaaDoor
open Go.RowKit
set_option linter.unusedVariables false
set_option linter.unusedSimpArgs false

theorem IsRow.ints {k : IntKind} {w : World} {a : Option Addr} {len cap : Nat} {zs : List Int} (h : IsRow k w a len cap zs) :
    ∃ l : List Int, l.length = len ∧ (0 < len → ∃ g o, a = some ⟨g, o, none⟩ ∧ ∀ i (h : i < l.length), w.cell? ⟨g, o + i, none⟩ = some (.int k l[i])) ∧ (∀ n ∈ l, (Lit.int k n).wf = true) ∧ len ≤ maxLen := by
  rcases h with ⟨rfl, rfl, rfl, rfl⟩ | ⟨x, rfl, hl, hm, hz, hcell, hwf⟩
  · exact ⟨[], rfl, fun h => absurd h (by decide), fun n hn => by simp at hn, Nat.zero_le _⟩
  · refine ⟨zs.take len, by simp; omega, fun h0 => ?_, fun n hn => hwf n (List.mem_of_mem_take hn), by omega⟩
    have hx := cell_plain (show w.cell? x = _ from hcell 0 (by omega))
    refine ⟨x.block, x.off, by rw [← hx], fun i hi => ?_⟩
    have hi2 : i < zs.length := by simp at hi; omega
    have hc := hcell i hi2
    rw [hx] at hc
    have e : zs.getD i 0 = zs[i] := by simp [List.getD, hi2]
    rw [e] at hc
    rw [add_plain] at hc
    rw [hc]; simp
/-- How a part is told: by its value's base. -/
structure FormOf (x : List UInt8) (v : Nat) : Prop where
  num : numV x = some v
  ne : x ≠ []
  no46 : ∀ c ∈ x, c ≠ 46
  len : x.length ≤ 55
theorem rep_no46 (k : Nat) : ∀ c ∈ List.replicate k (48 : UInt8), c ≠ 46 := by
  intro c hc; rw [List.mem_replicate] at hc; rw [hc.2]; decide
theorem form10 (v : Nat) (hv : v ≤ 4294967296) : FormOf (digL 10 v) v :=
  ⟨numV_ten v, digL_ne _ _, digL_no46 (by decide) (by decide) v, by have := digL_len (b := 10) (by decide) 32 v (by omega); omega⟩
theorem form16 (v k : Nat) (hv : v ≤ 4294967296) (hk : k ≤ 20) : FormOf ([48, 120] ++ (List.replicate k 48 ++ digL 16 v)) v :=
  ⟨numV_sixteen v k, by simp, by
    intro c hc
    rcases List.mem_append.1 hc with hc | hc
    · simp at hc; rcases hc with rfl | rfl <;> decide
    · rcases List.mem_append.1 hc with hc | hc
      · exact rep_no46 k c hc
      · exact digL_no46 (by decide) (by decide) v c hc, by
    have := digL_len (b := 16) (by decide) 32 v (by omega)
    simp only [List.length_append, List.length_replicate, List.length_cons, List.length_nil]; omega⟩
theorem form8 (v k : Nat) (hv : v ≤ 4294967296) (hk : k ≤ 20) : FormOf ([48] ++ (List.replicate k 48 ++ digL 8 v)) v :=
  ⟨numV_eight v k, by simp, by
    intro c hc
    rcases List.mem_append.1 hc with hc | hc
    · simp at hc; rw [hc]; decide
    · rcases List.mem_append.1 hc with hc | hc
      · exact rep_no46 k c hc
      · exact digL_no46 (by decide) (by decide) v c hc, by
    have := digL_len (b := 8) (by decide) 32 v (by omega)
    simp only [List.length_append, List.length_replicate, List.length_cons, List.length_nil]; omega⟩
/-- How the text stands at part i. -/
def FormR (n p i rest room : Nat) (t : List UInt8) : Prop :=
  (i < p ∧ room = 2 ^ (8 * (4 - i)) ∧ rest < room ∧ rest ≤ n ∧ ∃ ps : List (List UInt8), ps.length = i ∧ t = ps.flatMap (fun p => p ++ [46]) ∧ (∀ q ∈ ps, ∀ c ∈ q, c ≠ 46) ∧ ∀ L, L ≠ [] → parseGo 0 (ps ++ L) 0 = parseGo i L (n - rest)) ∨
  (i = p ∧ parseL t = some n)
theorem FormR.last {n p i rest room : Nat} {t x : List UInt8} (h : FormR n p i rest room t) (hp : p ≤ 4) (hi : i + 1 = p) (hx : FormOf x rest) (a b : Nat) : FormR n p (i + 1) a b (t ++ x) := by
  rcases h with ⟨_, hr, hlt, hle, ps, hl, ht, hno, hgo⟩ | ⟨h, _⟩
  · refine .inr ⟨hi, ?_⟩
    have hs : splitC 46 (t ++ x) = ps ++ [x] := by rw [ht]; exact split_pieces ps x hno hx.no46
    unfold parseL
    rw [partsL_of hs hx.ne]
    unfold parseV
    rw [if_neg (by simp; omega), hgo [x] (by simp), parseGo_one hx.num (by rw [← hr]; exact hlt)]
    congr 1; omega
  · omega
theorem FormR.more {n p i rest room v r2 : Nat} {t x : List UInt8} (h : FormR n p i rest room t) (hp : p ≤ 4) (hi : i + 1 < p) (hv : v = rest / (room / 256)) (hr2 : r2 = rest % (room / 256)) (hx : FormOf x v) : FormR n p (i + 1) r2 (room / 256) (t ++ x ++ [46]) := by
  rcases h with ⟨_, hr, hlt, hle, ps, hl, ht, hno, hgo⟩ | ⟨h, _⟩
  · have hpw : room = 256 * 2 ^ (8 * (3 - i)) := by
      rw [hr, show 8 * (4 - i) = 8 + 8 * (3 - i) by omega, Nat.pow_add]
    have hdv : room / 256 = 2 ^ (8 * (3 - i)) := by rw [hpw]; exact Nat.mul_div_cancel_left _ (by decide)
    have hpos : 0 < 2 ^ (8 * (3 - i)) := Nat.two_pow_pos _
    rw [hdv] at hv hr2 ⊢
    have hvl : v ≤ 255 := by
      have : v < 256 := by rw [hv]; exact Nat.div_lt_of_lt_mul (by rw [Nat.mul_comm, ← hpw]; exact hlt)
      omega
    have hsum : v * 2 ^ (8 * (3 - i)) + r2 = rest := by rw [hv, hr2, Nat.mul_comm]; exact Nat.div_add_mod _ _
    refine .inl ⟨hi, by rw [show 4 - (i + 1) = 3 - i by omega], by rw [hr2]; exact Nat.mod_lt _ hpos, by omega, ps ++ [x], by simp [hl], by rw [ht]; simp, ?_, ?_⟩
    · intro q hq
      rcases List.mem_append.1 hq with hq | hq
      · exact hno q hq
      · simp at hq; subst hq; exact hx.no46
    · intro L hL
      have e : ps ++ [x] ++ L = ps ++ x :: L := by simp
      rw [e, hgo (x :: L) (by simp), parseGo_more hL hx.num hvl]
      congr 1; omega
  · omega
theorem FormR.room {n p i rest room : Nat} {t : List UInt8} (h : FormR n p i rest room t) (hi : i < p) (hp : p ≤ 4) : room ≤ 4294967296 ∧ 256 ≤ room ∧ rest < room := by
  rcases h with ⟨_, hr, hlt, _⟩ | ⟨h, _⟩
  · refine ⟨?_, ?_, hlt⟩
    · rw [hr]; exact Nat.le_trans (Nat.pow_le_pow_right (by decide) (by omega : 8 * (4 - i) ≤ 32)) (by decide)
    · rw [hr]; exact Nat.le_trans (by decide : 256 ≤ 2 ^ 8) (Nat.pow_le_pow_right (by decide) (by omega : 8 ≤ 8 * (4 - i)))
  · omega
theorem digits_form {b v k : Nat} {t : ByteArray} (h : t.toList = List.replicate k 48 ++ digL b v) (hb : 2 ≤ b) (hv : v ≤ 4294967296) (hk : k ≤ 20) : t.size ≤ 53 := by
  rw [← size_toList, h, List.length_append, List.length_replicate]
  have := digL_len hb 32 v (by omega)
  omega
set_option maxRecDepth 100000 in
set_option maxHeartbeats 4000000 in
theorem fourForms_walk (n : Int) (parts : Int) (am : Option Addr) (lm cm : Nat) (zm : List Int) (noughts : Int) (w : World) (wn : (Lit.int .u32 n).wf = true) (wp : (Lit.int .i64 parts).wf = true) (wm : IsRow .i64 w am lm cm zm) (wk : (Lit.int .i64 noughts).wf = true) (ht : Tabs w) (hm : ML w) :
    Calls Tryd.prog 5 #[.int .u32 n, .int .i64 parts, .slice am lm cm, .int .i64 noughts] w (RetB w true) := by
  have hB : Below w.heap.size w w := Below.refl _ _
  obtain ⟨n, rfl, hn⟩ : ∃ m : Nat, n = (m : Int) ∧ m < 4294967296 := by
    have := bounds_u32 wn
    exact ⟨n.toNat, by omega, by omega⟩
  obtain ⟨l, hll, hcc, hwf, hml⟩ := wm.ints
  clear wn wm
  subst hll
  unfold maxLen at hml
  have hbad : parts < 1 ∨ (1 ≤ parts ∧ 4 < parts) ∨ (1 ≤ parts ∧ parts ≤ 4 ∧ ((l.length : Int) != 4) = true) ∨ (1 ≤ parts ∧ parts ≤ 4 ∧ ((l.length : Int) != 4) = false ∧ noughts < 0) ∨ (1 ≤ parts ∧ parts ≤ 4 ∧ ((l.length : Int) != 4) = false ∧ 0 ≤ noughts ∧ 20 < noughts) ∨
      (1 ≤ parts ∧ parts ≤ 4 ∧ l.length = 4 ∧ 0 ≤ noughts ∧ noughts ≤ 20) := by
    by_cases h1 : parts < 1
    · exact .inl h1
    by_cases h2 : 4 < parts
    · exact .inr (.inl ⟨by omega, h2⟩)
    by_cases h3 : l.length = 4
    · have : ((l.length : Int) != 4) = false := by rw [h3]; rfl
      by_cases h4 : noughts < 0
      · exact .inr (.inr (.inr (.inl ⟨by omega, by omega, this, h4⟩)))
      by_cases h5 : 20 < noughts
      · exact .inr (.inr (.inr (.inr (.inl ⟨by omega, by omega, this, by omega, h5⟩))))
      exact .inr (.inr (.inr (.inr (.inr ⟨by omega, by omega, h3, by omega, by omega⟩))))
    · exact .inr (.inr (.inl ⟨by omega, by omega, by simp only [bne_iff_ne, ne_eq]; omega⟩))
  replace hcc := Lib.hid hcc
  rcases hbad with q1 | ⟨q1, q2⟩ | ⟨q1, q2, q3⟩ | ⟨q1, q2, q3, q4⟩ | ⟨q1, q2, q3, q4, q5⟩ | ⟨q1, q2, q3, q4, q5⟩
  iterate 5
    · go_enter Tryd.func5, Tryd.ntmps5
      go_wp2_with fail
      refine (small09_any _ hm ht).mono ?_
      rintro e w1 ⟨rfl, hb⟩
      go_wp2_with fail
      go_ret
      exact ⟨rfl, hB.next hb⟩
  obtain ⟨p, rfl⟩ := Int.eq_ofNat_of_zero_le (show 0 ≤ parts by omega)
  obtain ⟨k, rfl⟩ := Int.eq_ofNat_of_zero_le q4
  have hp1 : 1 ≤ p := by omega
  have hp4 : p ≤ 4 := by omega
  have hk20 : k ≤ 20 := by omega
  have q3b : ((l.length : Int) != 4) = false := by rw [q3]; rfl
  obtain ⟨g, o, rfl, hcell⟩ := hcc.out (by omega)
  replace hcell := Lib.hid hcell
  replace q3 := Lib.hid q3
  clear hcc hml
  go_enter Tryd.func5, Tryd.ntmps5
  go_wp2_with fail
  refine (small09_any _ hm ht).mono ?_
  rintro e w1 ⟨rfl, hb⟩
  replace hB := hB.next hb
  clear hb
  go_wp2_with fail
  go_loopw [10, 11, 12, 13] (fun sv rv ov iv wr => ∃ (i rest room : Nat) (t : ByteArray), sv = .string t ∧ rv = .int .i64 rest ∧ ov = .int .i64 room ∧ iv = .int .i64 i ∧ i ≤ p ∧ t.size ≤ 56 * i ∧ Hid (FormR n p i rest room t.toList) ∧ Below w.heap.size w wr) (fun _ _ _ iv _ => p - (intOf iv).toNat)
  case atStart => exact ⟨0, n, 4294967296, _, rfl, rfl, rfl, rfl, Nat.zero_le _, Nat.zero_le _, Lib.hid (.inl ⟨by omega, rfl, hn, Nat.le_refl _, [], rfl, toList_mk [], (fun q hq => absurd hq (by simp)), (fun L _ => by simp)⟩), hB⟩
  case round =>
    obtain ⟨i, rest, room, t, rfl, rfl, rfl, rfl, hi, hts, hg, hbel⟩ := hrel
    clear hB
    by_cases hlt : i < p
    · obtain ⟨hroom, hroom2, hrest⟩ := hg.out.room hlt hp4
      have hltI : (i : Int) < (p : Int) := by omega
      have hil : i < l.length := by have := q3.out; omega
      have hc := hcell.out i hil
      have hcw : wr.cell? ⟨g, o + i, none⟩ = some (.int .i64 l[i]) := (hbel.cell (p := ⟨g, o + i, none⟩) (World.block_lt_of_cell? w _ hc)).trans hc
      have hw64 := bounds_i64 (hwf _ (List.getElem_mem hil))
      have e1 : IntKind.i64.wrap ((p : Int) - 1) = (p : Int) - 1 := IntWalk.i64_in _ (by omega)
      have e2 : (o : Int) + (i : Int) = ((o + i : Nat) : Int) := by omega
      have hsw : (((l[i]).tmod 3 == 0) = true) ∨ (((l[i]).tmod 3 == 0) = false ∧ ((l[i]).tmod 3 == 1) = true) ∨ (((l[i]).tmod 3 == 0) = false ∧ ((l[i]).tmod 3 == 1) = false) := by
        cases (l[i]).tmod 3 == 0 <;> cases (l[i]).tmod 3 == 1 <;> simp
      replace e2 := Lib.hid e2
      generalize l[i] = z at hcw hw64 hsw
      clear hc
      replace hroom2 := Lib.hid hroom2
      replace hrest := Lib.hid hrest
      by_cases hla : i + 1 = p
      · have hlaI : (p : Int) - 1 ≤ (i : Int) := by omega
        have hv : rest ≤ 4294967296 := by have := hrest.out; omega
        rcases hsw with s1 | ⟨s1, s2⟩ | ⟨s1, s2⟩
        · go_wp2_with fail
          refine (lawDigits_any rest 10 0 _ hv (by decide) (by omega)).mono ?_
          rintro e w3 ⟨x, rfl, hx, hb⟩
          replace hbel := hbel.next hb
          clear hb
          have hxz := digits_form hx.out (by decide) hv (by omega)
          have hX : Hid (FormOf x.toList rest) := Lib.hid (by rw [hx.out]; exact form10 rest hv)
          have hT : Hid ((t ++ x).toList = t.toList ++ x.toList) := Lib.hid (toList_append _ _)
          have hZ : Hid ((t ++ x).size = t.size + x.size) := Lib.hid ByteArray.size_append
          have hnew : Hid (FormR n p (i + 1) rest room (t ++ x).toList) := Lib.hid (by rw [hT.out]; exact hg.out.last hp4 hla hX.out _ _)
          go_wp2_with fail
          go_roundw
          case rel => exact ⟨i + 1, rest, room, _, rfl, rfl, rfl, by go_num, by omega, by rw [hZ.out]; omega, hnew, hbel⟩
          case measure => simp [intOf]; omega
        · go_wp2_with fail
          refine (lawDigits_any rest 16 k _ hv (by decide) (by omega)).mono ?_
          rintro e w3 ⟨x, rfl, hx, hb⟩
          replace hbel := hbel.next hb
          clear hb
          have hxz := digits_form hx.out (by decide) hv (by omega)
          have hX : Hid (FormOf ([48, 120] ++ x.toList) rest) := Lib.hid (by rw [hx.out]; exact form16 rest k hv hk20)
          have hT : Hid ((t ++ ⟨#[48, 120]⟩ ++ x).toList = t.toList ++ ([48, 120] ++ x.toList)) := Lib.hid (by rw [toList_append, toList_append, show (ByteArray.mk #[48, 120]).toList = [48, 120] from toList_mk _, List.append_assoc])
          have hZ : Hid ((t ++ ⟨#[48, 120]⟩ ++ x).size = t.size + 2 + x.size) := Lib.hid (by rw [ByteArray.size_append, ByteArray.size_append]; rfl)
          have hnew : Hid (FormR n p (i + 1) rest room (t ++ ⟨#[48, 120]⟩ ++ x).toList) := Lib.hid (by rw [hT.out]; exact hg.out.last hp4 hla hX.out _ _)
          go_wp2_with fail
          go_roundw
          case rel => exact ⟨i + 1, rest, room, _, rfl, rfl, rfl, by go_num, by omega, by rw [hZ.out]; omega, hnew, hbel⟩
          case measure => simp [intOf]; omega
        · go_wp2_with fail
          refine (lawDigits_any rest 8 k _ hv (by decide) (by omega)).mono ?_
          rintro e w3 ⟨x, rfl, hx, hb⟩
          replace hbel := hbel.next hb
          clear hb
          have hxz := digits_form hx.out (by decide) hv (by omega)
          have hX : Hid (FormOf ([48] ++ x.toList) rest) := Lib.hid (by rw [hx.out]; exact form8 rest k hv hk20)
          have hT : Hid ((t ++ ⟨#[48]⟩ ++ x).toList = t.toList ++ ([48] ++ x.toList)) := Lib.hid (by rw [toList_append, toList_append, show (ByteArray.mk #[48]).toList = [48] from toList_mk _, List.append_assoc])
          have hZ : Hid ((t ++ ⟨#[48]⟩ ++ x).size = t.size + 1 + x.size) := Lib.hid (by rw [ByteArray.size_append, ByteArray.size_append]; rfl)
          have hnew : Hid (FormR n p (i + 1) rest room (t ++ ⟨#[48]⟩ ++ x).toList) := Lib.hid (by rw [hT.out]; exact hg.out.last hp4 hla hX.out _ _)
          go_wp2_with fail
          go_roundw
          case rel => exact ⟨i + 1, rest, room, _, rfl, rfl, rfl, by go_num, by omega, by rw [hZ.out]; omega, hnew, hbel⟩
          case measure => simp [intOf]; omega
      · have hlaI : (i : Int) < (p : Int) - 1 := by omega
        replace hla : i + 1 < p := by omega
        obtain ⟨R, hRR⟩ : ∃ R, R = room / 256 := ⟨_, rfl⟩
        obtain ⟨v, hvd⟩ : ∃ v, v = rest / (room / 256) := ⟨_, rfl⟩
        obtain ⟨r2, hr2⟩ : ∃ r2, r2 = rest % (room / 256) := ⟨_, rfl⟩
        have hR1 : 1 ≤ R := by have := hroom2.out; omega
        have hR2 : R ≤ 4294967296 := by omega
        have hrest2 : rest ≤ 4294967296 := by have := hrest.out; omega
        have hv : v ≤ 4294967296 := by rw [hvd]; exact Nat.le_trans (Nat.div_le_self _ _) hrest2
        have hr2b : r2 ≤ 4294967296 := by rw [hr2]; exact Nat.le_trans (Nat.mod_le _ _) hrest2
        have t1 : (room : Int) / 256 = (R : Int) := by omega
        have t2 : (rest : Int) / (R : Int) = (v : Int) := by rw [hvd, ← hRR]; exact (Int.natCast_ediv rest R).symm
        have t3 : (rest : Int) % (R : Int) = (r2 : Int) := by rw [hr2, ← hRR]; exact (Int.natCast_emod rest R).symm
        have t4 : (room : Int).tdiv 256 = (R : Int) := by rw [Int.tdiv_eq_ediv_of_nonneg (by omega)]; exact t1
        have t5 : (rest : Int).tdiv (R : Int) = (v : Int) := by rw [Int.tdiv_eq_ediv_of_nonneg (by omega)]; exact t2
        have t6 : (rest : Int).tmod (R : Int) = (r2 : Int) := by rw [Int.tmod_eq_emod_of_nonneg (by omega)]; exact t3
        have e3 : IntKind.i64.wrap (R : Int) = (R : Int) := IntWalk.i64_in _ (by omega)
        have e4 : IntKind.i64.wrap (v : Int) = (v : Int) := IntWalk.i64_in _ (by omega)
        have e5 : ((R : Int) == 0) = false := by simp only [beq_eq_false_iff_ne, ne_eq]; omega
        have e6 : (1 : Int) ≤ (R : Int) := by omega
        replace hRR := Lib.hid hRR.symm
        replace hvd := Lib.hid hvd
        replace hr2 := Lib.hid hr2
        replace hroom := Lib.hid hroom
        replace hR2 := Lib.hid hR2
        replace hr2b := Lib.hid hr2b
        replace hrest2 := Lib.hid hrest2
        rcases hsw with s1 | ⟨s1, s2⟩ | ⟨s1, s2⟩
        · go_wp2_with fail
          refine (lawDigits_any v 10 0 _ hv (by decide) (by omega)).mono ?_
          rintro e w3 ⟨x, rfl, hx, hb⟩
          replace hbel := hbel.next hb
          clear hb
          have hxz := digits_form hx.out (by decide) hv (by omega)
          have hX : Hid (FormOf x.toList v) := Lib.hid (by rw [hx.out]; exact form10 v hv)
          have hT : Hid ((t ++ x).toList = t.toList ++ x.toList) := Lib.hid (toList_append _ _)
          have hZ : Hid ((t ++ x).size = t.size + x.size) := Lib.hid ByteArray.size_append
          have hnew : Hid (FormR n p (i + 1) r2 R (t ++ x ++ ⟨#[46]⟩).toList) := Lib.hid (by rw [toList_append, to46, hT.out]; have h9 := hg.out.more hp4 hla hvd.out hr2.out hX.out; rw [hRR.out] at h9; exact h9)
          have hZ2 : Hid ((t ++ x ++ ⟨#[46]⟩).size ≤ 56 * (i + 1)) := Lib.hid (by rw [ByteArray.size_append, sz46, hZ.out]; omega)
          go_wp2_with fail
          go_roundw
          case rel => exact ⟨i + 1, r2, R, _, rfl, rfl, rfl, by go_num, by omega, hZ2.out, hnew, hbel⟩
          case measure => simp [intOf]; omega
        · go_wp2_with fail
          refine (lawDigits_any v 16 k _ hv (by decide) (by omega)).mono ?_
          rintro e w3 ⟨x, rfl, hx, hb⟩
          replace hbel := hbel.next hb
          clear hb
          have hxz := digits_form hx.out (by decide) hv (by omega)
          have hX : Hid (FormOf ([48, 120] ++ x.toList) v) := Lib.hid (by rw [hx.out]; exact form16 v k hv hk20)
          have hT : Hid ((t ++ ⟨#[48, 120]⟩ ++ x).toList = t.toList ++ ([48, 120] ++ x.toList)) := Lib.hid (by rw [toList_append, toList_append, show (ByteArray.mk #[48, 120]).toList = [48, 120] from toList_mk _, List.append_assoc])
          have hZ : Hid ((t ++ ⟨#[48, 120]⟩ ++ x).size = t.size + 2 + x.size) := Lib.hid (by rw [ByteArray.size_append, ByteArray.size_append]; rfl)
          have hnew : Hid (FormR n p (i + 1) r2 R (t ++ ⟨#[48, 120]⟩ ++ x ++ ⟨#[46]⟩).toList) := Lib.hid (by rw [toList_append, to46, hT.out]; have h9 := hg.out.more hp4 hla hvd.out hr2.out hX.out; rw [hRR.out] at h9; exact h9)
          have hZ2 : Hid ((t ++ ⟨#[48, 120]⟩ ++ x ++ ⟨#[46]⟩).size ≤ 56 * (i + 1)) := Lib.hid (by rw [ByteArray.size_append, sz46, hZ.out]; omega)
          go_wp2_with fail
          go_roundw
          case rel => exact ⟨i + 1, r2, R, _, rfl, rfl, rfl, by go_num, by omega, hZ2.out, hnew, hbel⟩
          case measure => simp [intOf]; omega
        · go_wp2_with fail
          refine (lawDigits_any v 8 k _ hv (by decide) (by omega)).mono ?_
          rintro e w3 ⟨x, rfl, hx, hb⟩
          replace hbel := hbel.next hb
          clear hb
          have hxz := digits_form hx.out (by decide) hv (by omega)
          have hX : Hid (FormOf ([48] ++ x.toList) v) := Lib.hid (by rw [hx.out]; exact form8 v k hv hk20)
          have hT : Hid ((t ++ ⟨#[48]⟩ ++ x).toList = t.toList ++ ([48] ++ x.toList)) := Lib.hid (by rw [toList_append, toList_append, show (ByteArray.mk #[48]).toList = [48] from toList_mk _, List.append_assoc])
          have hZ : Hid ((t ++ ⟨#[48]⟩ ++ x).size = t.size + 1 + x.size) := Lib.hid (by rw [ByteArray.size_append, ByteArray.size_append]; rfl)
          have hnew : Hid (FormR n p (i + 1) r2 R (t ++ ⟨#[48]⟩ ++ x ++ ⟨#[46]⟩).toList) := Lib.hid (by rw [toList_append, to46, hT.out]; have h9 := hg.out.more hp4 hla hvd.out hr2.out hX.out; rw [hRR.out] at h9; exact h9)
          have hZ2 : Hid ((t ++ ⟨#[48]⟩ ++ x ++ ⟨#[46]⟩).size ≤ 56 * (i + 1)) := Lib.hid (by rw [ByteArray.size_append, sz46, hZ.out]; omega)
          go_wp2_with fail
          go_roundw
          case rel => exact ⟨i + 1, r2, R, _, rfl, rfl, rfl, by go_num, by omega, hZ2.out, hnew, hbel⟩
          case measure => simp [intOf]; omega
    · have hgeI : (p : Int) ≤ (i : Int) := by omega
      have hfin : Hid (parseL t.toList = some n) := Lib.hid (by
        rcases hg.out with ⟨h, _⟩ | ⟨_, h⟩
        · omega
        · exact h)
      have hts2 : t.size < 4294967281 := by omega
      clear hg
      go_wp2_with fail
      refine (parse_yes t n _ (hm.next hbel) hts2 hfin.out).mono ?_
      rintro e w3 ⟨rfl, hb⟩
      replace hbel := hbel.next hb
      clear hb
      go_wp2_with fail
      refine (ends_at t true _ (hm.next hbel) hts2 (parse_ends hfin.out)).mono ?_
      rintro e w4 ⟨rfl, hb⟩
      replace hbel := hbel.next hb
      clear hb
      go_wp2_with fail
      go_ret
      exact ⟨rfl, hbel⟩
end Go.Proofs.YtceedfhealbdkaaDoor
