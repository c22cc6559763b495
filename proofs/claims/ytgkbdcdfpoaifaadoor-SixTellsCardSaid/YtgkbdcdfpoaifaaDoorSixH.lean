/- The contracts of the reference of layer 10: cut, numbers. -/
import Derived.Test.YtgkbdcdfpoaifaaDoorSixG
import Derived.Test.YtgkbdcdfpoaifaaDoorSixF
import Derived.Test.YtgkbdcdfpoaifaaDoorSixT
import Derived.Deep.RegionHeld3
namespace Go.Proofs.YtgkbdcdfpoaifaaDoor
open Go.RowKit
set_option linter.unusedVariables false
set_option linter.unusedSimpArgs false

theorem tyS10 : ElemTy Tryd.prog 55 9 (.string ByteArray.empty) 16 := .mk' Tryd.underlying55 (by kernel_rfl) rfl
/-- The pieces that are cut off ahead of place k, the next one from b on. -/
def SplitAtC (q : UInt8) (s : ByteArray) (l : List ByteArray) (b k : Nat) : Prop :=
  (k ≤ s.size ∧ b ≤ k ∧ splitC q s.toList = l.map (·.toList) ++ splitC q (s.toList.drop b) ∧ ∀ c ∈ (s.toList.take k).drop b, c ≠ q) ∨ (s.size < k ∧ splitC q s.toList = l.map (·.toList))
theorem drop_parts10 (l : List UInt8) {b k : Nat} (h : b ≤ k) (hk : k ≤ l.length) : l.drop b = (l.take k).drop b ++ l.drop k := by
  have e : l = l.take k ++ l.drop k := (List.take_append_drop k l).symm
  conv => lhs; rw [e]
  rw [List.drop_append_of_le_length (by rw [List.length_take]; omega)]
theorem SplitAtC.on {q : UInt8} {s : ByteArray} {l : List ByteArray} {b k : Nat} (h : SplitAtC q s l b k) (hk : k < s.size) (hc : s[k] ≠ q) : SplitAtC q s l b (k + 1) := by
  rcases h with ⟨_, hb, he, hn⟩ | ⟨h, _⟩
  · refine .inl ⟨by omega, by omega, he, ?_⟩
    rw [take_snoc s k hk, List.drop_append_of_le_length (by rw [List.length_take, size_toList]; omega)]
    intro c hx
    rcases List.mem_append.1 hx with hx | hx
    · exact hn c hx
    · simp at hx; rw [hx]; exact hc
  · omega
theorem SplitAtC.new {q : UInt8} {s : ByteArray} {l : List ByteArray} {b k : Nat} (h : SplitAtC q s l b k) (hk : k < s.size) (hc : s[k] = q) : SplitAtC q s (l ++ [s.extract b k]) (k + 1) (k + 1) := by
  rcases h with ⟨_, hb, he, hn⟩ | ⟨h, _⟩
  · refine .inl ⟨by omega, Nat.le_refl _, ?_, ?_⟩
    · rw [he, drop_parts10 s.toList hb (by rw [size_toList]; omega), drop_cons s k hk, hc, splitC_append, splitC_no _ hn]
      simp [toList_extract]
    · rw [List.drop_of_length_le (by rw [List.length_take]; omega)]; intro c hc; cases hc
  · omega
theorem SplitAtC.fin {q : UInt8} {s : ByteArray} {l : List ByteArray} {b k : Nat} (h : SplitAtC q s l b k) (hk : k = s.size) : SplitAtC q s (l ++ [s.extract b k]) (k + 1) (k + 1) := by
  rcases h with ⟨_, hb, he, hn⟩ | ⟨h, _⟩
  · refine .inr ⟨by omega, ?_⟩
    have e : s.toList.drop b = (s.toList.take k).drop b := by rw [take_all s k (by omega)]
    rw [he, e, splitC_no _ hn]
    simp [toList_extract]
  · omega
set_option maxRecDepth 100000 in
set_option maxHeartbeats 1000000 in
theorem cutR_any (s : ByteArray) (q : UInt8) (w : World) (hs : s.size ≤ 1000000) :
    Calls Tryd.prog 28 #[.string s, .int .u8 (q.toNat : Int)] w (RetW w 9 (splitC q s.toList)) := by
  go_enter Tryd.func28, Tryd.ntmps28
  go_wp2_with fail
  go_loopw [5, 6, 7] (fun v bg i wr => ∃ (k b : Nat) (l : List ByteArray), i = .int .i64 k ∧ k ≤ s.size + 1 ∧ b ≤ k ∧ bg = .int .i64 b ∧ Hid (SplitAtC q s l b k) ∧ l.length ≤ k ∧ OwnS wr w.heap.size 9 v l ∧ Below w.heap.size w wr) (fun _ _ i _ => s.size + 1 - (intOf i).toNat)
  case atStart => exact ⟨0, 0, [], rfl, by omega, Nat.zero_le _, rfl, Lib.hid (.inl ⟨Nat.zero_le _, Nat.le_refl _, by simp, by simp⟩), Nat.zero_le _, OwnS.nil _ _ _, Below.refl _ _⟩
  case round =>
    obtain ⟨k, b, l, rfl, hk, hbk, rfl, hw, hll, hown, hbel⟩ := hrel
    have hsz := hbel.size
    by_cases hlt : k < s.size
    · obtain ⟨e1, n1⟩ := bne_of (show ¬ (k : Int) = (s.size : Int) by omega)
      have z1 : (k : Int) < (s.size : Int) := by omega
      have z2 : (k : Int) ≤ (s.size : Int) := by omega
      by_cases hc : s[k] = q
      · have hq2 : ((s[k].toNat : Int) == (q.toNat : Int)) = true := by rw [hc]; simp
        have hnew := Lib.hid (hw.out.new hlt hc)
        replace hc := Lib.hid hc
        go_wp2_with (at_builtin; refine wpList_pushS tyS10 rfl _ _ rfl rfl rfl hown hbel hsz (by unfold maxLen; omega) (by omega) ?_; intro v' w' ho' hb' _)
        go_roundw
        case rel => exact ⟨k + 1, k + 1, _, by go_num, by omega, by omega, by go_num, hnew, by simp; omega, ho', hb'⟩
        case measure => simp [intOf]; omega
      · have hq2 : ((s[k].toNat : Int) == (q.toNat : Int)) = false := by
          simp only [beq_eq_false_iff_ne, ne_eq]; intro h; exact hc (UInt8.toNat_inj.1 (by omega))
        have hnew := Lib.hid (hw.out.on hlt hc)
        replace hc := Lib.hid hc
        go_wp2_with fail
        go_roundw
        case rel => exact ⟨k + 1, b, l, by go_num, by omega, by omega, rfl, hnew, by omega, hown, hbel⟩
        case measure => simp [intOf]; omega
    by_cases hEq : k = s.size
    · obtain ⟨e1, n1⟩ := beq_of (show (k : Int) = (s.size : Int) by omega)
      have z2 : (k : Int) ≤ (s.size : Int) := by omega
      have z3 : k ≤ s.size := by omega
      have hnew := Lib.hid (hw.out.fin hEq)
      replace hEq := Lib.hid hEq
      go_wp2_with (at_builtin; refine wpList_pushS tyS10 rfl _ _ rfl rfl rfl hown hbel hsz (by unfold maxLen; omega) (by omega) ?_; intro v' w' ho' hb' _)
      go_roundw
      case rel => exact ⟨k + 1, k + 1, _, by go_num, by omega, by omega, by go_num, hnew, by simp; omega, ho', hb'⟩
      case measure => simp [intOf]; omega
    · have hgt : (s.size : Int) < (k : Int) := by omega
      have hl : Hid (l.map (·.toList) = splitC q s.toList) := Lib.hid (by
        rcases hw.out with ⟨h, _⟩ | ⟨_, h⟩
        · omega
        · exact h.symm)
      go_wp2_with fail
      go_ret
      exact ⟨_, l, rfl, hl, hown, hbel⟩
theorem OwnS.front10 {w : World} {B : Nat} {E : TypeId} {v : Value} {l : List ByteArray} (h : OwnS w B E v l) (hn : 0 < l.length) :
    ∃ g cp, v = .slice (some ⟨g, 0, none⟩) l.length cp ∧ l.length ≤ cp ∧ g < w.heap.size ∧ ∀ i (h : i < l.length), w.cell? ⟨g, i, none⟩ = some (.string l[i]) := by
  rcases h.2 with ⟨hv, h0⟩ | ⟨g, cap, cur, rfl, hg, hh, hcap, hml, hcs, hcur⟩
  · omega
  · refine ⟨g, cap, rfl, hcap, (Array.getElem?_eq_some_iff.1 hh).1, fun i hi => ?_⟩
    have := World.ownsRow.cellAt h i (by omega)
    rw [this]; simp [hi]
/-- A number as a value. -/
def intV (n : Nat) : Value := .int .i64 (n : Int)
/-- The call's own numbers. -/
def OwnI (w : World) (B : Nat) (v : Value) (l : List Nat) : Prop := w.ownsRow B 3 1 v l.length (l.map intV)
theorem OwnI.nil (w : World) (B : Nat) : OwnI w B (.slice none 0 0) [] := World.ownsRow_nil _ _ _ _
theorem OwnI.form {w : World} {B : Nat} {v : Value} {l : List Nat} (h : OwnI w B v l) : ∃ a c, v = .slice a l.length c := by
  rcases h.2 with ⟨rfl, hn⟩ | ⟨g, cap, cur, rfl, _⟩
  · exact ⟨none, 0, by rw [hn]⟩
  · exact ⟨_, _, rfl⟩
theorem OwnI.below {w w' : World} {B K : Nat} {v : Value} {l : List Nat} (h : OwnI w B v l) (hb : Below K w w') (hK : w.heap.size ≤ K) : OwnI w' B v l := by
  refine ⟨h.1, ?_⟩
  rcases h.2 with hn | ⟨g, cap, cur, rfl, hg, hh, rest⟩
  · exact .inl hn
  · exact .inr ⟨g, cap, cur, rfl, hg, by rw [hb.block g (by have := (Array.getElem?_eq_some_iff.1 hh).1; omega)]; exact hh, rest⟩
theorem OwnI.less {w : World} {B B2 : Nat} {v : Value} {l : List Nat} (h : OwnI w B v l) (hB : B2 ≤ B) : OwnI w B2 v l := by
  refine ⟨h.1, ?_⟩
  rcases h.2 with hn | ⟨g, cap, cur, rfl, hg, rest⟩
  · exact .inl hn
  · exact .inr ⟨g, cap, cur, rfl, by omega, rest⟩
theorem OwnI.front {w : World} {B : Nat} {v : Value} {l : List Nat} (h : OwnI w B v l) (hn : 0 < l.length) :
    ∃ g cp, v = .slice (some ⟨g, 0, none⟩) l.length cp ∧ l.length ≤ cp ∧ g < w.heap.size ∧ B ≤ g ∧ ∀ i (h : i < l.length), w.cell? ⟨g, i, none⟩ = some (.int .i64 ((l[i] : Nat) : Int)) := by
  rcases h.2 with ⟨hv, h0⟩ | ⟨g, cap, cur, rfl, hg, hh, hcap, hml, hcs, hcur⟩
  · omega
  · refine ⟨g, cap, rfl, hcap, (Array.getElem?_eq_some_iff.1 hh).1, hg, fun i hi => ?_⟩
    have := World.ownsRow.cellAt h i (by omega)
    rw [this]; simp [hi, intV]
theorem tyI10 : ElemTy Tryd.prog 41 3 (.int .i64 0) 8 := .mk' Tryd.underlying41 (by kernel_rfl) rfl
theorem wpList_pushI {ops : Array Oper} {rest : List Oper} {o : Oper} {a : Act} {Q : Exit → Act → World → Prop}
    (hgd : o.guard = none) (s x : Operand) (ho : o.op = .call { callee := .builtin .append, args := #[s, x], argTypes := #[41, 41] })
    {W0 w0 : World} {B : Nat} {v : Value} {l : List Nat} (ms : List Nat) (hs : a.eval s = v) (hx : a.eval x = .slice (some ⟨w0.heap.size, 0, none⟩) ms.length ms.length)
    (hown : OwnI w0 B v l) (hbel : Below B W0 w0) (hB : B ≤ w0.heap.size) (h8 : l.length ≤ 2000000) (hm8 : ms.length ≤ 8)
    (h : ∀ a' c' w', OwnI w' B (.slice a' (l.length + ms.length) c') (l ++ ms) → Below B W0 w' → wpList Tryd.prog ops Q rest (a.put o.dst (.slice a' (l.length + ms.length) c')) w') :
    wpList Tryd.prog ops Q (o :: rest) a (w0.alloc (.cells (ms.map intV).toArray 3)) := by
  obtain ⟨i, hi, hz, hs1, hb1⟩ := tyI10.i
  refine wpList_append_own (w0.alloc (.cells (ms.map intV).toArray 3)) hgd s x 41 ho B 3 i (.int .i64 0) 1 8 tyI10.u hi hz hs1 hb1 tyI10.z (by decide) v l.length (l.map intV) hs (hown.alloc _) ⟨w0.heap.size, 0, none⟩ ms.length ms.length (ms.map intV) hx (by simp)
    (cell_boxes w0 _ _) (by intro y hy; obtain ⟨n, _, rfl⟩ := List.mem_map.1 hy; rfl) (by unfold maxLen; omega) (by omega) (by simp; omega) ?_
  intro v' w' hown' hgrow hnil
  have hO : OwnI w' B v' (l ++ ms) := by unfold OwnI; rw [List.length_append, List.map_append]; exact hown'
  obtain ⟨a', c', rfl⟩ := hO.form
  rw [List.length_append] at hO ⊢
  refine h a' c' w' hO ?_
  exact (hbel.alloc hB _).grown hgrow (by simp; omega) (fun k hk => (hown.lt k hk).1)
/-- 'out = append(out, v...)', v somebody's own numbers. -/
theorem wpList_extendI {ops : Array Oper} {rest : List Oper} {o : Oper} {a : Act} {Q : Exit → Act → World → Prop}
    (hgd : o.guard = none) (s x : Operand) (ho : o.op = .call { callee := .builtin .append, args := #[s, x], argTypes := #[41, 41] })
    {W0 w0 : World} {B B2 : Nat} {v u : Value} {l m : List Nat} (hs : a.eval s = v) (hx : a.eval x = u)
    (hown : OwnI w0 B v l) (hsrc : OwnI w0 B2 u m) (hbel : Below B W0 w0) (hB : B ≤ w0.heap.size) (h8 : l.length ≤ 2000000) (hm8 : m.length ≤ 2000000)
    (h : ∀ a' c' w', OwnI w' B (.slice a' (l.length + m.length) c') (l ++ m) → Below B W0 w' → wpList Tryd.prog ops Q rest (a.put o.dst (.slice a' (l.length + m.length) c')) w') : wpList Tryd.prog ops Q (o :: rest) a w0 := by
  obtain ⟨i, hi, hz, hs1, hb1⟩ := tyI10.i
  rcases hsrc.2 with ⟨hu, hn⟩ | ⟨g, cap, cur, hu, hg, hh, hcap, hml, hcs, hcur⟩
  · have hm : m = [] := List.eq_nil_of_length_eq_zero hn
    refine wpList_append_own_none hgd s x 41 ho B 3 i 1 tyI10.u hi v l.length _ hs hown (hx.trans hu) ?_
    obtain ⟨a', c', rfl⟩ := hown.form
    subst hm
    have := h a' c' w0 (by rw [List.append_nil]; exact hown) hbel
    exact this
  · refine wpList_append_own w0 hgd s x 41 ho B 3 i (.int .i64 0) 1 8 tyI10.u hi hz hs1 hb1 tyI10.z (by decide) v l.length _ hs hown ⟨g, 0, none⟩ m.length cap (m.map intV) (hx.trans hu) (by simp)
      (fun j y hj => World.ownsRow.cells hsrc (by rw [hu]; rfl) j y hj) (by intro y hy; obtain ⟨t, _, rfl⟩ := List.mem_map.1 hy; rfl) (by unfold maxLen; omega) (by omega) hB ?_
    intro v' w' hown' hgrow _
    have hO : OwnI w' B v' (l ++ m) := by unfold OwnI; rw [List.length_append, List.map_append]; exact hown'
    obtain ⟨a', c', rfl⟩ := hO.form
    rw [List.length_append] at hO ⊢
    exact h a' c' w' hO (hbel.grown hgrow hB (fun k hk => (hown.lt k hk).1))
/-- All of these are bytes' texts. -/
def allB : List (List UInt8) → Option (List Nat)
  | [] => some []
  | t :: r => match byteV10 t with | none => none | some v => (allB r).map (v :: ·)
/-- Four numbers as two. -/
def numbersV (t : List UInt8) : Option (List Nat) := match allB (splitC 46 t) with | some [a, b, c, d] => some [256 * a + b, 256 * c + d] | _ => none
theorem allB_len : ∀ {ts : List (List UInt8)} {x : List Nat}, allB ts = some x → x.length = ts.length
  | [], x, h => by cases h; rfl
  | t :: r, x, h => by
    rw [allB] at h
    cases hv : byteV10 t with
    | none => rw [hv] at h; cases h
    | some v =>
      rw [hv] at h
      cases hr : allB r with
      | none => rw [hr] at h; cases h
      | some y => rw [hr] at h; cases h; simp [allB_len hr]
theorem fourGo_all : ∀ k acc (l : List UInt8), fourGo k acc l = match allB (splitC 46 l) with
    | none => none
    | some x => if x.length = k + 1 then some (x.foldl (fun a v => a * 256 + v) acc) else none
  | 0, acc, l => by
    rw [fourGo, splitC_cut]
    cases hm : (cutC 46 l).2.2
    · rw [if_neg (by decide), if_neg (by decide), allB]
      cases byteV10 (cutC 46 l).1 with
      | none => rfl
      | some v => simp [allB]
    · rw [if_pos rfl, if_pos rfl, allB]
      cases byteV10 (cutC 46 l).1 with
      | none => rfl
      | some v =>
        dsimp only
        cases hr : allB (splitC 46 (cutC 46 l).2.1) with
        | none => rfl
        | some y =>
          have h1 := allB_len hr
          have h2 : 0 < (splitC 46 (cutC 46 l).2.1).length := List.length_pos_iff.2 (splitC_ne _ _)
          simp only [Option.map_some, List.length_cons]
          rw [if_neg (by omega)]
  | k + 1, acc, l => by
    rw [fourGo, splitC_cut]
    cases hm : (cutC 46 l).2.2
    · rw [if_neg (by decide), if_neg (by decide), allB]
      cases byteV10 (cutC 46 l).1 with
      | none => rfl
      | some v => simp [allB]
    · rw [if_pos rfl, if_pos rfl, allB]
      cases byteV10 (cutC 46 l).1 with
      | none => rfl
      | some v =>
        dsimp only
        rw [fourGo_all k]
        cases hr : allB (splitC 46 (cutC 46 l).2.1) with
        | none => rfl
        | some y => simp
theorem allB_le : ∀ {ts : List (List UInt8)} {x : List Nat}, allB ts = some x → ∀ v ∈ x, v ≤ 255
  | [], x, h => by cases h; intro v hv; cases hv
  | t :: r, x, h => by
    rw [allB] at h
    cases hv : byteV10 t with
    | none => rw [hv] at h; cases h
    | some v =>
      rw [hv] at h
      cases hr : allB r with
      | none => rw [hr] at h; cases h
      | some y =>
        rw [hr] at h; cases h
        intro u hu
        rcases List.mem_cons.1 hu with rfl | hu
        · exact byteV10_le hv
        · exact allB_le hr u hu
theorem numbers_four (t : List UInt8) : numbersV t = (fourV t).map fun n => [n / 65536, n % 65536] := by
  unfold numbersV fourV
  rw [fourGo_all]
  cases hr : allB (splitC 46 t) with
  | none => rfl
  | some x =>
    have hle := allB_le hr
    match x with
    | [] => rfl
    | [a] => rfl
    | [a, b] => rfl
    | [a, b, c] => rfl
    | [a, b, c, d] =>
      have h1 := hle a (by simp)
      have h2 := hle b (by simp)
      have h3 := hle c (by simp)
      have h4 := hle d (by simp)
      simp
      omega
    | a :: b :: c :: d :: e :: r => simp
end Go.Proofs.YtgkbdcdfpoaifaaDoor
