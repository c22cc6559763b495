/- The walk of FourWrong. -/
import Derived.Test.YtceedfhealbdkaaDoorFourForms
namespace Go.Proofs.YtceedfhealbdkaaDoor
open Go.RowKit
set_option linter.unusedVariables false
set_option linter.unusedSimpArgs false

/-- Pieces with a point between two. -/
def joinD : List (List UInt8) → List UInt8
  | [] => []
  | [x] => x
  | x :: y :: r => x ++ 46 :: joinD (y :: r)
theorem joinD_snoc (x : List UInt8) : ∀ ps : List (List UInt8), joinD (ps ++ [x]) = (if ps = [] then [] else joinD ps ++ [46]) ++ x
  | [] => rfl
  | [y] => by simp [joinD]
  | y :: z :: r => by
    have ih := joinD_snoc x (z :: r)
    show y ++ 46 :: joinD (z :: (r ++ [x])) = _
    rw [show z :: (r ++ [x]) = (z :: r) ++ [x] from rfl, ih]
    simp [joinD]
theorem splitC_joinD : ∀ ps : List (List UInt8), ps ≠ [] → (∀ p ∈ ps, ∀ c ∈ p, c ≠ 46) → splitC 46 (joinD ps) = ps
  | [], h, _ => absurd rfl h
  | [x], _, hn => splitC_no x (hn x (by simp))
  | x :: y :: r, _, hn => by
    show splitC 46 (x ++ 46 :: joinD (y :: r)) = _
    rw [splitC_append, splitC_no x (hn x (by simp)), splitC_joinD (y :: r) (by simp) (fun p hp => hn p (by simp at hp ⊢; exact .inr hp))]
    rfl
theorem parseGo_bad : ∀ (ls : List (List UInt8)) (i sum : Nat), (∃ k x, ls[k]? = some x ∧ (numV x = none ∨ (k + 1 < ls.length ∧ ∀ v, numV x = some v → 255 < v))) → parseGo i ls sum = none
  | [], i, sum, ⟨k, x, h, _⟩ => by simp at h
  | [y], i, sum, ⟨k, x, h, hb⟩ => by
    rcases hb with hb | ⟨hb, _⟩
    · cases k with
      | zero => simp at h; rw [parseGo, h, hb]
      | succ k => simp at h
    · simp at hb
  | y :: z :: r, i, sum, ⟨k, x, h, hb⟩ => by
    rw [parseGo]
    cases hy : numV y with
    | none => rfl
    | some v =>
      dsimp only
      by_cases hv : v ≤ 255
      · rw [if_pos hv]
        cases k with
        | zero =>
          simp at h
          subst h
          rcases hb with hb | ⟨_, hb⟩
          · rw [hb] at hy; cases hy
          · have := hb v hy; omega
        | succ k =>
          refine parseGo_bad (z :: r) _ _ ⟨k, x, by simpa using h, ?_⟩
          rcases hb with hb | ⟨hb, hc⟩
          · exact .inl hb
          · exact .inr ⟨by simpa using hb, hc⟩
      · rw [if_neg hv]
theorem digit_less {c : Int} {a b : Nat} (h : digitZ c (b : Int) < 0) (hab : a ≤ b) : digitZ c (a : Int) < 0 := by unfold digitZ at *; omega
theorem numV_bad (v : Nat) (c : UInt8) (h16 : digitZ (c.toNat : Int) 16 < 0) (h1 : c ≠ 120) (h2 : c ≠ 88) : numV (digL 10 v ++ [c]) = none := by
  have hb : ∀ (b : Nat), b ≤ 16 → ∀ acc l, digsGo b acc (l ++ [c]) = none := by
    intro b hb acc l
    rw [digsGo_append]
    cases digsGo b acc l with
    | none => rfl
    | some x => show digsGo b x [c] = none; rw [digsGo, if_pos (digit_less (b := 16) h16 hb)]
  match hL : digL 10 v with
  | [] => exact absurd hL (digL_ne _ _)
  | [d] =>
    show numV (d :: c :: []) = none
    rw [numV]
    split
    · rw [if_neg (by rintro (h | h); exact h1 h; exact h2 h)]; exact hb 8 (by decide) 0 []
    · exact hb 10 (by decide) 0 [d]
  | d :: e :: r =>
    have h0 : 0 < v := by
      by_cases h0 : v = 0
      · rw [h0, digL_small (by decide)] at hL; simp at hL
      · omega
    obtain ⟨c', r', h3, h4⟩ := digL_head (b := 10) (by decide) (by decide) v h0
    rw [hL] at h3
    obtain ⟨rfl, _⟩ := List.cons.inj h3
    show numV (d :: e :: (r ++ [c])) = none
    rw [numV, if_neg h4]
    exact hb 10 (by decide) 0 (d :: e :: r)
/-- Piece k of the text. -/
def pieceW (ns : List Nat) (a : Nat) (B : Bool) (c : UInt8) (k : Nat) : List UInt8 := digL 10 (ns.getD k 0) ++ (if k = a ∧ B = true then [c] else [])
def piecesW (ns : List Nat) (a : Nat) (B : Bool) (c : UInt8) (i : Nat) : List (List UInt8) := (List.range i).map (pieceW ns a B c)
/-- Is the text none, by what stands ahead of piece i? -/
def greatW (ns : List Nat) (a : Nat) (B : Bool) (i : Nat) : Bool := decide (4 < ns.length) || (B && decide (a < i)) || (List.range i).any fun k => decide (k + 1 < ns.length) && decide (255 < ns.getD k 0)
theorem greatW_step (ns : List Nat) (a : Nat) (B : Bool) (i : Nat) : greatW ns a B (i + 1) = ((greatW ns a B i || (decide (i = a) && B)) || (decide (i + 1 < ns.length) && decide (255 < ns.getD i 0))) := by
  unfold greatW
  have e : decide (a < i + 1) = (decide (a < i) || decide (i = a)) := by
    rw [Bool.eq_iff_iff]; simp; omega
  rw [List.range_succ, List.any_append, e]
  simp only [List.any_cons, List.any_nil, Bool.or_false]
  generalize (List.range i).any _ = X
  generalize decide (4 < ns.length) = Y
  generalize decide (a < i) = Z
  generalize decide (i = a) = U
  generalize (decide (i + 1 < ns.length) && decide (255 < ns.getD i 0)) = V
  revert B X Y Z U V
  decide
theorem piecesW_succ (ns : List Nat) (a : Nat) (B : Bool) (c : UInt8) (i : Nat) : piecesW ns a B c (i + 1) = piecesW ns a B c i ++ [pieceW ns a B c i] := by unfold piecesW; rw [List.range_succ, List.map_append]; rfl
theorem pieceW_no46 {ns : List Nat} {a : Nat} {B : Bool} {c : UInt8} (hc : B = true → c ≠ 46) (k : Nat) : ∀ d ∈ pieceW ns a B c k, d ≠ 46 := by
  intro d hd
  unfold pieceW at hd
  rcases List.mem_append.1 hd with hd | hd
  · exact digL_no46 (by decide) (by decide) _ d hd
  · split at hd
    · rename_i h; simp at hd; rw [hd]; exact hc h.2
    · simp at hd
theorem partsW {ns : List Nat} {a : Nat} {B : Bool} {c : UInt8} (hc : B = true → c ≠ 46) (hn : 0 < ns.length) : partsL (joinD (piecesW ns a B c ns.length)) = piecesW ns a B c ns.length := by
  have hs : splitC 46 (joinD (piecesW ns a B c ns.length)) = piecesW ns a B c ns.length := by
    refine splitC_joinD _ ?_ ?_
    · unfold piecesW; intro h; have := congrArg List.length h; rw [List.length_map, List.length_range, List.length_nil] at this; omega
    · intro p hp
      unfold piecesW at hp
      obtain ⟨k, _, rfl⟩ := List.mem_map.1 hp
      exact pieceW_no46 hc k
  obtain ⟨m, hm⟩ : ∃ m, ns.length = m + 1 := ⟨ns.length - 1, by omega⟩
  rw [hm] at hs ⊢
  rw [piecesW_succ] at hs ⊢
  refine partsL_of hs ?_
  unfold pieceW
  intro h
  exact digL_ne _ _ (List.append_eq_nil_iff.1 h).1
theorem greatW_none {ns : List Nat} {a : Nat} {B : Bool} {c : UInt8} (hc : B = true → c ≠ 46 ∧ digitZ (c.toNat : Int) 16 < 0 ∧ c ≠ 120 ∧ c ≠ 88) (hn : 0 < ns.length) (ha : a < ns.length) (h : greatW ns a B ns.length = true) : parseL (joinD (piecesW ns a B c ns.length)) = none := by
  unfold parseL
  rw [partsW (fun h => (hc h).1) hn]
  have hl : (piecesW ns a B c ns.length).length = ns.length := by simp [piecesW]
  have hat : ∀ k, k < ns.length → (piecesW ns a B c ns.length)[k]? = some (pieceW ns a B c k) := by
    intro k hk; unfold piecesW; rw [List.getElem?_map, List.getElem?_range hk]; rfl
  unfold parseV
  rw [hl]
  split
  · rfl
  · rename_i h4
    have hbad : B = true → numV (pieceW ns a B c a) = none := by
      intro hB
      unfold pieceW
      rw [if_pos ⟨rfl, hB⟩]
      exact numV_bad _ c (hc hB).2.1 (hc hB).2.2.1 (hc hB).2.2.2
    refine parseGo_bad _ 0 0 ?_
    unfold greatW at h
    rw [Bool.or_eq_true, Bool.or_eq_true] at h
    rcases h with (h | h) | h
    · exact absurd (of_decide_eq_true h) h4
    · rw [Bool.and_eq_true] at h
      exact ⟨a, _, hat a ha, .inl (hbad h.1)⟩
    · rw [List.any_eq_true] at h
      obtain ⟨k, hk, hq⟩ := h
      rw [List.mem_range] at hk
      rw [Bool.and_eq_true, decide_eq_true_eq, decide_eq_true_eq] at hq
      refine ⟨k, _, hat k hk, ?_⟩
      by_cases hka : k = a ∧ B = true
      · left; rw [hka.1]; exact hbad hka.2
      · right
        refine ⟨by rw [hl]; exact hq.1, fun v hv => ?_⟩
        unfold pieceW at hv
        rw [if_neg hka, List.append_nil, numV_ten] at hv
        have := Option.some.inj hv
        omega
theorem greatW_one {ns : List Nat} {a : Nat} {B : Bool} {c : UInt8} (h1 : ns.length = 1) (ha : a < ns.length) (hv : ∀ x ∈ ns, x < 4294967296) (h : greatW ns a B ns.length = false) : parseL (joinD (piecesW ns a B c ns.length)) = some (ns.getD 0 0) := by
  have hB : B = false := by
    cases B
    · rfl
    · unfold greatW at h
      rw [show decide (a < ns.length) = true from decide_eq_true ha] at h
      simp at h
  subst hB
  unfold parseL
  rw [partsW (fun h => by cases h) (by omega)]
  rw [h1]
  have e : piecesW ns a false c 1 = [digL 10 (ns.getD 0 0)] := by simp [piecesW, pieceW]
  rw [e]
  unfold parseV
  rw [if_neg (by simp), parseGo_one (numV_ten _) ?_]
  · simp
  · have : ns.getD 0 0 < 4294967296 := by
      match ns, h1 with
      | [x], _ => exact hv x (by simp)
    exact this
theorem IsRow.nats {w : World} {a : Option Addr} {len cap : Nat} {zs : List Int} (h : IsRow .u32 w a len cap zs) :
    ∃ ns : List Nat, ns.length = len ∧ (0 < len → ∃ g o, a = some ⟨g, o, none⟩ ∧ ∀ i (h : i < ns.length), w.cell? ⟨g, o + i, none⟩ = some (.int .u32 ((ns.getD i 0 : Nat) : Int))) ∧ (∀ n ∈ ns, n < 4294967296) ∧ len ≤ maxLen := by
  obtain ⟨l, hl, hc, hw, hm⟩ := h.ints
  refine ⟨l.map Int.toNat, by simpa using hl, fun h0 => ?_, ?_, hm⟩
  · obtain ⟨g, o, e, hcc⟩ := hc h0
    refine ⟨g, o, e, fun i hi => ?_⟩
    have hi2 : i < l.length := by simpa using hi
    rw [hcc i hi2]
    have := bounds_u32 (hw _ (List.getElem_mem hi2))
    have e : (l.map Int.toNat).getD i 0 = l[i].toNat := by simp [List.getD, hi2]
    rw [e]; congr 2; omega
  · intro n hn
    obtain ⟨z, hz, rfl⟩ := List.mem_map.1 hn
    have := bounds_u32 (hw z hz)
    omega
theorem dec_size {t : ByteArray} {n : Nat} (h : t.toList = List.replicate 0 48 ++ digL 10 n) (hn : n < 4294967296) : t.size ≤ 33 := by
  rw [← size_toList, h]
  have := digL_len (b := 10) (by decide) 32 n (by omega)
  simpa using this
set_option maxRecDepth 100000 in
set_option maxHeartbeats 4000000 in
theorem fourWrong_walk (am : Option Addr) (lm cm : Nat) (zm : List Int) (at' : Int) (ci : Int) (w : World) (wm : IsRow .u32 w am lm cm zm) (wa : (Lit.int .i64 at').wf = true) (wc : (Lit.int .u8 ci).wf = true) (ht : Tabs w) (hm : ML w) :
    Calls Tryd.prog 8 #[.slice am lm cm, .int .i64 at', .int .u8 ci] w (RetB w true) := by
  have hB : Below w.heap.size w w := Below.refl _ _
  obtain ⟨c, rfl⟩ : ∃ c : UInt8, ci = (c.toNat : Int) := ⟨UInt8.ofNat ci.toNat, by have := bounds_u8 wc; simp; omega⟩
  obtain ⟨ns, hll, hcc, hwf, hml⟩ := wm.nats
  clear wc wm
  subst hll
  unfold maxLen at hml
  have hbad : (ns.length : Int) < 1 ∨ (1 ≤ (ns.length : Int) ∧ 8 < (ns.length : Int)) ∨ (1 ≤ (ns.length : Int) ∧ (ns.length : Int) ≤ 8 ∧ at' < 0) ∨ (1 ≤ (ns.length : Int) ∧ (ns.length : Int) ≤ 8 ∧ 0 ≤ at' ∧ (ns.length : Int) ≤ at') ∨ (1 ≤ (ns.length : Int) ∧ (ns.length : Int) ≤ 8 ∧ 0 ≤ at' ∧ at' < (ns.length : Int)) := by omega
  replace hcc := Lib.hid hcc
  rcases hbad with q1 | ⟨q1, q2⟩ | ⟨q1, q2, q3⟩ | ⟨q1, q2, q3, q4⟩ | ⟨q1, q2, q3, q4⟩
  iterate 4
    · go_enter Tryd.func8, Tryd.ntmps8
      go_wp2_with fail
      refine (small09_any _ hm ht).mono ?_
      rintro e w1 ⟨rfl, hb⟩
      go_wp2_with fail
      go_ret
      exact ⟨rfl, hB.next hb⟩
  obtain ⟨a, rfl⟩ := Int.eq_ofNat_of_zero_le q3
  have ha : a < ns.length := by omega
  have hn0 : 0 < ns.length := by omega
  have hn8 : ns.length ≤ 8 := by omega
  obtain ⟨g, o, rfl, hcell⟩ := hcc.out hn0
  replace hcell := Lib.hid hcell
  -- the letter
  have hB2 : ∃ B : Bool, Hid ((B = true → c ≠ 46 ∧ digitZ (c.toNat : Int) 16 < 0 ∧ c ≠ 120 ∧ c ≠ 88)) ∧
      ((B = true ∧ letterZ (c.toNat : Int) = true ∧ digitZ (c.toNat : Int) 16 < 0 ∧ ((c.toNat : Int) != 120) = true ∧ ((c.toNat : Int) != 88) = true) ∨ (B = false ∧ letterZ (c.toNat : Int) = false) ∨ (B = false ∧ letterZ (c.toNat : Int) = true ∧ 0 ≤ digitZ (c.toNat : Int) 16) ∨
        (B = false ∧ letterZ (c.toNat : Int) = true ∧ digitZ (c.toNat : Int) 16 < 0 ∧ ((c.toNat : Int) != 120) = false) ∨ (B = false ∧ letterZ (c.toNat : Int) = true ∧ digitZ (c.toNat : Int) 16 < 0 ∧ ((c.toNat : Int) != 120) = true ∧ ((c.toNat : Int) != 88) = false)) := by
    cases h1 : letterZ (c.toNat : Int)
    · exact ⟨false, Lib.hid (fun h => by cases h), .inr (.inl ⟨rfl, rfl⟩)⟩
    by_cases h2 : digitZ (c.toNat : Int) 16 < 0
    · cases h3 : ((c.toNat : Int) != 120)
      · exact ⟨false, Lib.hid (fun h => by cases h), .inr (.inr (.inr (.inl ⟨rfl, rfl, h2, rfl⟩)))⟩
      cases h4 : ((c.toNat : Int) != 88)
      · exact ⟨false, Lib.hid (fun h => by cases h), .inr (.inr (.inr (.inr ⟨rfl, rfl, h2, rfl, rfl⟩)))⟩
      refine ⟨true, Lib.hid (fun _ => ⟨?_, h2, ?_, ?_⟩), .inl ⟨rfl, rfl, h2, rfl, rfl⟩⟩
      · rintro rfl; revert h1; decide
      · rintro rfl; revert h3; decide
      · rintro rfl; revert h4; decide
    · exact ⟨false, Lib.hid (fun h => by cases h), .inr (.inr (.inl ⟨rfl, rfl, by omega⟩))⟩
  obtain ⟨B, hBc, hBs⟩ := hB2
  replace hBs := Lib.hid hBs
  have hg0 : Hid (greatW ns a B 0 = decide (4 < (ns.length : Int))) := Lib.hid (by
    unfold greatW
    rw [show decide (a < 0) = false from decide_eq_false (by omega)]
    simp only [Bool.and_false, Bool.or_false, List.range_zero, List.any_nil]
    exact decide_eq_decide.2 (by omega))
  clear hcc hml q1 q2 q3 q4
  have q1 : 1 ≤ (ns.length : Int) := by omega
  have q2 : (ns.length : Int) ≤ 8 := by omega
  have q4 : (a : Int) < (ns.length : Int) := by omega
  have q5 : decide (ns.length ≤ a) = false := decide_eq_false (by omega)
  go_enter Tryd.func8, Tryd.ntmps8
  go_wp2_with fail
  refine (small09_any _ hm ht).mono ?_
  rintro e w1 ⟨rfl, hb⟩
  replace hB := hB.next hb
  clear hb
  go_wp2_with fail
  go_loopw [8, 9, 10] (fun sv gv iv wr => ∃ (i : Nat) (t : ByteArray), sv = .string t ∧ gv = .bool (greatW ns a B i) ∧ iv = .int .i64 i ∧ i ≤ ns.length ∧ t.size ≤ 36 * i ∧ Hid (t.toList = joinD (piecesW ns a B c i)) ∧ Below w.heap.size w wr) (fun _ _ iv _ => ns.length - (intOf iv).toNat)
  case atStart => exact ⟨0, _, rfl, by rw [hg0.out], rfl, Nat.zero_le _, Nat.zero_le _, Lib.hid (toList_mk []), hB⟩
  case round =>
    obtain ⟨i, t, rfl, rfl, rfl, hi, hts, htl, hbel⟩ := hrel
    clear hB
    by_cases hlt : i < ns.length
    · have hltI : (i : Int) < (ns.length : Int) := by omega
      have hgs := Lib.hid (greatW_step ns a B i)
      generalize greatW ns a B i = G at hgs ⊢
      go_upto_if 43 with (fail)
      go_cut [8] (fun s8 wx => (∃ t2 : ByteArray, s8 = .string t2 ∧ t2.size ≤ 36 * i + 1 ∧ Hid (t2.toList = if piecesW ns a B c i = [] then [] else joinD (piecesW ns a B c i) ++ [46])) ∧ Below w.heap.size w wx)
      case first => as_aux_lemma =>
        by_cases h0 : i = 0
        · subst h0
          go_wp2_with fail
          go_meet
          exact ⟨⟨t, rfl, by omega, Lib.hid (by rw [htl.out, if_pos (by rfl)]; rfl)⟩, hbel⟩
        · have h0I : (0 : Int) < (i : Int) := by omega
          have hne : piecesW ns a B c i ≠ [] := by
            unfold piecesW; intro h; have := congrArg List.length h; rw [List.length_map, List.length_range, List.length_nil] at this; omega
          replace h0 := Lib.hid h0
          have hne := Lib.hid hne
          go_wp2_with fail
          go_meet
          exact ⟨⟨_, rfl, by rw [ByteArray.size_append, sz46]; omega, Lib.hid (by rw [toList_append, to46, if_neg hne.out, htl.out])⟩, hbel⟩
      case rest =>
        clear hbel htl
        obtain ⟨⟨t2, rfl, ht2s, ht2⟩, hbel⟩ := hcut
        have hc := hcell.out i hlt
        have hcw := (hbel.cell (p := ⟨g, o + i, none⟩) (World.block_lt_of_cell? w _ hc)).trans hc
        have hvm : ns.getD i 0 < 4294967296 := by
          have e : ns.getD i 0 = ns[i] := by simp [List.getD, hlt]
          rw [e]; exact hwf _ (List.getElem_mem hlt)
        have e2 : (o : Int) + (i : Int) = ((o + i : Nat) : Int) := by omega
        have e3 : IntKind.i64.wrap ((ns.getD i 0 : Nat) : Int) = ((ns.getD i 0 : Nat) : Int) := IntWalk.i64_in _ (by omega)
        replace e2 := Lib.hid e2
        generalize hve : ns.getD i 0 = v at hcw hvm e3
        replace hve := Lib.hid hve
        have hvm2 : v ≤ 4294967295 := by omega
        replace hvm := Lib.hid hvm
        clear hc
        go_wp2_with fail
        refine (lawDigits_any v 10 0 _ (by omega) (by decide) (by decide)).mono ?_
        rintro e w3 ⟨x, rfl, hx, hb⟩
        replace hbel := hbel.next hb
        clear hb hcw
        have hxs := dec_size hx.out hvm.out
        have hxl : Hid (x.toList = digL 10 v) := Lib.hid (by rw [hx.out]; rfl)
        go_upto_region 12 with (fail)
        have hm3 : Hid ((t2 ++ x).toList = (if piecesW ns a B c i = [] then [] else joinD (piecesW ns a B c i) ++ [46]) ++ digL 10 v) := Lib.hid (by rw [toList_append, ht2.out, hxl.out])
        have hs3 : Hid ((t2 ++ x).size ≤ 36 * i + 34) := Lib.hid (by rw [ByteArray.size_append]; omega)
        generalize t2 ++ x = t3 at hm3 hs3 ⊢
        replace hs3 := hs3.out
        clear ht2s ht2 hx hxs hxl
        go_cut [73] (fun s73 wx => s73 = .bool (decide (i = a) && B) ∧ Below w.heap.size w wx)
        case first => as_aux_lemma =>
          have hia : ((i : Int) == (a : Int)) = decide (i = a) := by
            rw [Bool.eq_iff_iff]; simp; omega
          have c0 := byte_nn c
          have c1 := byte_le c
          by_cases hq : i = a
          · have hia2 : ((i : Int) == (a : Int)) = true := by rw [hia]; exact decide_eq_true hq
            have hd : decide (i = a) = true := decide_eq_true hq
            replace hd := Lib.hid hd
            replace hq := Lib.hid hq
            clear hia
            rcases hBs.out with ⟨rfl, h1, h2, h3, h4⟩ | ⟨rfl, h1⟩ | ⟨rfl, h1, h2⟩ | ⟨rfl, h1, h2, h3⟩ | ⟨rfl, h1, h2, h3, h4⟩
            all_goals
              go_wp2_with (first
                | (go_at_call 17; refine (letter_any _ _).mono ?_; rintro e w' ⟨rfl, rfl⟩)
                | (go_at_call 18; refine (digit_any _ _ _ c0 c1).mono ?_; rintro e w' ⟨rfl, rfl⟩))
              go_meet
              exact ⟨by rw [hd.out]; rfl, hbel⟩
          · have hia2 : ((i : Int) == (a : Int)) = false := by rw [hia]; exact decide_eq_false hq
            have hd : decide (i = a) = false := decide_eq_false hq
            replace hd := Lib.hid hd
            replace hq := Lib.hid hq
            clear hia
            go_wp2_with fail
            go_meet
            exact ⟨by rw [hd.out]; rfl, hbel⟩
        case rest =>
          clear hbel
          obtain ⟨rfl, hbel⟩ := hcut
          go_upto_if 73 with (fail)
          go_cut [8, 9] (fun s8 s9 wx => (∃ t4 : ByteArray, s8 = .string t4 ∧ t4.size ≤ 36 * i + 35 ∧ Hid (t4.toList = joinD (piecesW ns a B c (i + 1)))) ∧ s9 = .bool (G || (decide (i = a) && B)) ∧ Below w.heap.size w wx)
          case first => as_aux_lemma =>
            have hjs : joinD (piecesW ns a B c (i + 1)) = (if piecesW ns a B c i = [] then [] else joinD (piecesW ns a B c i) ++ [46]) ++ digL 10 v ++ (if i = a ∧ B = true then [c] else []) := by
              rw [piecesW_succ, joinD_snoc]
              unfold pieceW
              rw [hve.out, List.append_assoc]
            replace hjs := Lib.hid hjs
            by_cases hq : i = a ∧ B = true
            · have hX : (decide (i = a) && B) = true := by rw [decide_eq_true hq.1, hq.2]; rfl
              rw [hX]
              obtain ⟨sep, hsep, hsep1, hcv⟩ := conv_one (P := Tryd.prog) (S := 9) Tryd.underlying37 Tryd.underlying5 Tryd.underlying9 c
              have hT : Hid ((t3 ++ sep).toList = joinD (piecesW ns a B c (i + 1))) := Lib.hid (by rw [hjs.out, if_pos hq, toList_append, hm3.out, hsep.out])
              have hS : Hid ((t3 ++ sep).size ≤ 36 * i + 35) := Lib.hid (by rw [ByteArray.size_append]; omega)
              replace hq := Lib.hid hq
              replace hX := Lib.hid hX
              go_wp2_with fail
              go_meet
              exact ⟨⟨_, rfl, hS.out, hT⟩, by rw [hX.out, Bool.or_true], hbel.alloc hbel.size _⟩
            · have hX : (decide (i = a) && B) = false := by
                rw [Bool.and_eq_false_iff]
                by_cases h1 : i = a
                · right; cases B
                  · rfl
                  · exact absurd ⟨h1, rfl⟩ hq
                · left; exact decide_eq_false h1
              rw [hX]
              have hT : Hid (t3.toList = joinD (piecesW ns a B c (i + 1))) := Lib.hid (by rw [hjs.out, if_neg hq, hm3.out, List.append_nil])
              replace hq := Lib.hid hq
              replace hX := Lib.hid hX
              go_wp2_with fail
              go_meet
              exact ⟨⟨_, rfl, by omega, hT⟩, by rw [hX.out, Bool.or_false], hbel⟩
          case rest =>
            clear hbel
            obtain ⟨⟨t4, rfl, ht4s, ht4⟩, rfl, hbel⟩ := hcut
            have hc := hcell.out i hlt
            have hcw := (hbel.cell (p := ⟨g, o + i, none⟩) (World.block_lt_of_cell? w _ hc)).trans hc
            rw [hve.out] at hcw
            clear hc hs3 hm3
            generalize (G || (decide (i = a) && B)) = G2 at hgs ⊢
            have e4 : IntKind.i64.wrap ((ns.length : Int) - 1) = (ns.length : Int) - 1 := IntWalk.i64_in _ (by omega)
            have hcs : (G2 = true ∧ Hid (greatW ns a B (i + 1) = true)) ∨ (G2 = false ∧ (ns.length : Int) - 1 ≤ (i : Int) ∧ Hid (greatW ns a B (i + 1) = false)) ∨ (G2 = false ∧ (i : Int) < (ns.length : Int) - 1 ∧ Hid (greatW ns a B (i + 1) = decide (255 < (v : Int)))) := by
              have h0 := hgs.out
              rw [hve.out] at h0
              cases G2
              · by_cases h1 : i + 1 < ns.length
                · exact .inr (.inr ⟨rfl, by omega, Lib.hid (by rw [h0, decide_eq_true h1]; simp only [Bool.false_or, Bool.true_and]; exact decide_eq_decide.2 (by omega))⟩)
                · exact .inr (.inl ⟨rfl, by omega, Lib.hid (by rw [h0, decide_eq_false h1]; rfl)⟩)
              · exact .inl ⟨rfl, Lib.hid (by rw [h0]; simp)⟩
            clear hgs
            rcases hcs with ⟨rfl, hG⟩ | ⟨rfl, h1, hG⟩ | ⟨rfl, h1, hG⟩
            all_goals
              go_wp2_with fail
              go_roundw
              case rel => exact ⟨i + 1, t4, rfl, by rw [hG.out], by go_num, by omega, by omega, ht4, hbel⟩
              case measure => simp [intOf]; omega
    · obtain rfl : i = ns.length := by omega
      have hgeI : (ns.length : Int) ≤ (ns.length : Int) := Int.le_refl _
      have hts2 : t.size < 4294967281 := by omega
      have hfin : (greatW ns a B ns.length = true ∧ Hid (parseL t.toList = none)) ∨ (greatW ns a B ns.length = false ∧ (1 : Int) < (ns.length : Int)) ∨ (greatW ns a B ns.length = false ∧ (ns.length : Int) ≤ 1 ∧ Hid (parseL t.toList = some (ns.getD 0 0))) := by
        cases hG : greatW ns a B ns.length
        · by_cases h1 : ns.length = 1
          · exact .inr (.inr ⟨rfl, by omega, Lib.hid (by rw [htl.out]; exact greatW_one h1 ha hwf hG)⟩)
          · exact .inr (.inl ⟨rfl, by omega⟩)
        · exact .inl ⟨rfl, Lib.hid (by rw [htl.out]; exact greatW_none hBc.out hn0 ha hG)⟩
      clear htl
      generalize greatW ns a B ns.length = G at hfin ⊢
      rcases hfin with ⟨rfl, hp⟩ | ⟨rfl, h1⟩ | ⟨rfl, h1, hp⟩
      · go_wp2_with fail
        refine (parse_no t _ (hm.next hbel) hts2 hp.out).mono ?_
        rintro e w3 ⟨rfl, hb⟩
        go_wp2_with fail
        go_ret
        exact ⟨rfl, hbel.next hb⟩
      · go_wp2_with fail
        refine (fourParse_any t _ (hm.next hbel) hts2).mono ?_
        rintro e w3 ⟨rfl, hb⟩
        generalize parseL t.toList = O
        go_wp2_with fail
        go_ret
        exact ⟨rfl, hbel.next hb⟩
      · go_wp2_with fail
        refine (parse_yes t _ _ (hm.next hbel) hts2 hp.out).mono ?_
        rintro e w3 ⟨rfl, hb⟩
        go_wp2_with fail
        go_ret
        exact ⟨rfl, hbel.next hb⟩
end Go.Proofs.YtceedfhealbdkaaDoor
