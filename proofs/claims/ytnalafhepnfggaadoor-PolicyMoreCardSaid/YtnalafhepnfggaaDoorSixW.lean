/- The contracts of six.longestRun and six.Write. -/
import Derived.Test.YtnalafhepnfggaaDoorUint
import Derived.Deep.Cut
import Derived.Deep.CutRange
import Derived.Lib.AppendStr
namespace Go.Proofs.YtnalafhepnfggaaDoor
open Go.RowKit
set_option linter.unusedVariables false

theorem ty8s : ElemTy Tryd.prog 56 5 (.int .u8 0) 1 := .mk' Tryd.underlying56 (by kernel_rfl) rfl
/-- Eight pieces as a value. -/
def sixCells (l : List Nat) : Array Value := (l.map fun n : Nat => Value.int .u16 (n : Int)).toArray
def sixV (l : List Nat) : Value := .agg (sixCells l)
/-- The pieces of an address. -/
structure Six (l : List Nat) : Prop where
  len : l.length = 8
  lt : ∀ x ∈ l, x < 65536
/-- Piece i. -/
def pc (l : List Nat) (i : Nat) : Nat := l.getD i 0
theorem Six.at {l : List Nat} (h : Six l) (i : Nat) (hi : i < 8) : pc l i < 65536 ∧ (sixCells l)[i]? = some (.int .u16 ((pc l i : Nat) : Int)) := by
  unfold pc
  have hi2 : i < l.length := by rw [h.len]; exact hi
  have e : l.getD i 0 = l[i] := by simp [List.getD, hi2]
  rw [e]
  exact ⟨h.lt _ (List.getElem_mem hi2), by simp [sixCells, hi2]⟩
/-- How many noughts stand first. -/
def zrun : List Nat → Nat
  | [] => 0
  | x :: r => if x = 0 then zrun r + 1 else 0
theorem zrun_le (l : List Nat) : zrun l ≤ l.length := by
  induction l with
  | nil => exact Nat.le_refl _
  | cons x r ih => unfold zrun; split <;> simp <;> omega
theorem drop_getD {l : List Nat} (i : Nat) (hi : i < l.length) : l.drop i = pc l i :: l.drop (i + 1) := by
  unfold pc; rw [List.drop_eq_getElem_cons hi]; simp [List.getD, hi]
/-- The longest run of two noughts or more, from place i on: the code's own way. -/
def runGo : Nat → List Nat → Nat → Nat → Nat → Nat × Nat
  | 0, _, _, b, e => (b, e)
  | f + 1, l, i, b, e =>
    if i < 8 then (if 2 ≤ zrun (l.drop i) ∧ e - b < zrun (l.drop i) then runGo f l (i + zrun (l.drop i) + 1) i (i + zrun (l.drop i)) else runGo f l (i + zrun (l.drop i) + 1) b e) else (b, e)
def runL (l : List Nat) : Nat × Nat := runGo 8 l 0 0 0
theorem runGo_end (f : Nat) (l : List Nat) (i b e : Nat) (h : 8 ≤ i) : runGo f l i b e = (b, e) := by
  cases f with
  | zero => rfl
  | succ f => rw [runGo, if_neg (by omega)]

set_option maxHeartbeats 1000000 in
theorem longestRun_any (l : List Nat) (h : Six l) (w : World) :
    Calls Tryd.prog 30 #[sixV l] w fun e w' => e = .returned (.tuple #[.int .i64 ((runL l).1 : Int), .int .i64 ((runL l).2 : Int)]) ∧ ((runL l).1 ≤ (runL l).2 ∧ (runL l).2 ≤ 8) ∧ Below w.heap.size w w' := by
  have hcell : ∀ i, i < 8 → (w.alloc (.cells (sixCells l) 27)).cell? ⟨w.heap.size, i, none⟩ = some (.int .u16 ((pc l i : Nat) : Int)) := by
    intro i hi
    rw [World.cell?_alloc_at _ _ _ _ rfl]; exact (h.at i hi).2
  have hbel : Below w.heap.size w (w.alloc (.cells (sixCells l) 27)) := (Below.refl _ _).alloc (Nat.le_refl _) _
  unfold sixV
  go_enter Tryd.func30, Tryd.ntmps30
  replace hcell := Lib.hid hcell
  go_wp2_with fail
  go_loop [4, 5, 6] (fun bv ev iv => ∃ (f i b e : Nat), bv = .int .i64 b ∧ ev = .int .i64 e ∧ iv = .int .i64 i ∧ i ≤ 9 ∧ b ≤ e ∧ e ≤ 8 ∧ 8 ≤ i + f ∧ Hid (runGo f l i b e = runL l)) (fun _ _ i => 9 - (intOf i).toNat)
  case atStart => exact ⟨8, 0, 0, 0, rfl, rfl, rfl, by omega, by omega, by omega, by omega, rfl⟩
  case round =>
    obtain ⟨f, i, b, e, rfl, rfl, rfl, hi, hbe, he, hf, hr⟩ := hrel
    by_cases hlt : i < 8
    · obtain ⟨f, rfl⟩ : ∃ g, f = g + 1 := ⟨f - 1, by omega⟩
      have hlt2 : (i : Int) < 8 := by omega
      have hzl : i + zrun (l.drop i) ≤ 8 := by
        have := zrun_le (l.drop i); rw [List.length_drop, h.len] at this; omega
      generalize hz : zrun (l.drop i) = z at hzl
      have hr2 : Hid (runL l = if 2 ≤ z ∧ e - b < z then runGo f l (i + z + 1) i (i + z) else runGo f l (i + z + 1) b e) := Lib.hid (by
        rw [← hr.out, runGo, if_pos hlt, hz])
      replace hz := Lib.hid hz
      clear hr
      go_wp2_with fail
      go_loop [7] (fun jv => ∃ j : Nat, jv = .int .i64 j ∧ i ≤ j ∧ j ≤ 8 ∧ Hid (j + zrun (l.drop j) = i + z)) (fun j => 8 - (intOf j).toNat)
      case atStart => exact ⟨i, rfl, Nat.le_refl _, by omega, Lib.hid (by rw [hz.out])⟩
      case round =>
        obtain ⟨j, rfl, hij, hj8, hj⟩ := hrel
        by_cases hgo : j < 8 ∧ pc l j = 0
        · obtain ⟨hj1, hj0⟩ := hgo
          have hc := hcell.out j hj1
          have hdr := Lib.hid (drop_getD (l := l) j (by rw [h.len]; exact hj1))
          rw [hj0] at hc
          have hj1I : (j : Int) < 8 := by omega
          replace hj0 := Lib.hid hj0
          go_wp2_with fail
          go_round
          case rel => exact ⟨j + 1, by go_num, by omega, by omega, Lib.hid (by rw [← hj.out, hdr.out, zrun, if_pos hj0.out]; omega)⟩
          case measure => simp [intOf]; omega
        · have hend : Hid (j = i + z) := Lib.hid (by
            rw [← hj.out]
            by_cases h8 : j < 8
            · rw [drop_getD j (by rw [h.len]; exact h8), zrun, if_neg (fun e => hgo ⟨h8, e⟩)]; rfl
            · rw [List.drop_of_length_le (by rw [h.len]; omega)]; rfl)
          have hor : ((j : Int) < 8 ∧ (w.alloc (.cells (sixCells l) 27)).cell? ⟨w.heap.size, j, none⟩ = some (.int .u16 ((pc l j : Nat) : Int)) ∧ (((pc l j : Nat) : Int) == 0) = false) ∨ 8 ≤ (j : Int) := by
            by_cases h8 : j < 8
            · exact .inl ⟨by omega, hcell.out j h8, by simp only [beq_eq_false_iff_ne, ne_eq]; intro e; exact hgo ⟨h8, by omega⟩⟩
            · exact .inr (by omega)
          clear hgo
          have hzz : z = j - i := by have := hend.out; omega
          replace hzz := Lib.hid hzz
          by_cases htake : 2 ≤ j - i ∧ e - b < j - i
          · have t1 : (2 : Int) ≤ (j : Int) - (i : Int) := by omega
            have t2 : (e : Int) - (b : Int) < (j : Int) - (i : Int) := by omega
            have hnew : Hid (runGo f l (j + 1) i j = runL l) := Lib.hid (by
              rw [hr2.out, ← hend.out, if_pos (by rw [hzz.out]; exact htake)])
            clear htake
            rcases hor with ⟨h8, hc, hne⟩ | h8
            all_goals
              go_wp2_with fail
              go_round
              case rel => exact ⟨f, j + 1, i, j, rfl, rfl, by go_num, by omega, by omega, by omega, by omega, hnew⟩
              case measure => simp [intOf]; omega
          · have hnew : Hid (runGo f l (j + 1) b e = runL l) := Lib.hid (by
              rw [hr2.out, ← hend.out, if_neg (by rw [hzz.out]; exact htake)])
            have hcs : (j : Int) - (i : Int) < 2 ∨ (2 : Int) ≤ (j : Int) - (i : Int) ∧ (j : Int) - (i : Int) ≤ (e : Int) - (b : Int) := by omega
            clear htake
            rcases hor with ⟨h8, hc, hne⟩ | h8 <;> rcases hcs with t1 | ⟨t1, t2⟩
            all_goals
              go_wp2_with fail
              go_round
              case rel => exact ⟨f, j + 1, b, e, rfl, rfl, by go_num, by omega, by omega, by omega, by omega, hnew⟩
              case measure => simp [intOf]; omega
    · have hfin : Hid (runL l = (b, e)) := Lib.hid (by rw [← hr.out, runGo_end _ _ _ _ _ (by omega)])
      have hge : (8 : Int) ≤ (i : Int) := by omega
      clear hr
      go_wp2_with fail
      go_ret2
      rw [hfin.out]
      exact ⟨rfl, ⟨hbe, he⟩, hbel⟩
/-- 's = append(s, text...)', s the call's own bytes. -/
theorem wpList_pushStr {ops : Array Oper} {rest : List Oper} {o : Oper} {a : Act} {Q : Exit → Act → World → Prop}
    (hgd : o.guard = none) (s x : Operand) (ho : o.op = .call { callee := .builtin .append, args := #[s, x], argTypes := #[56, 9] })
    {W0 w0 : World} {B : Nat} {v : Value} {l : List UInt8} (t : ByteArray) (hs : a.eval s = v) (hx : a.eval x = .string t)
    (hown : OwnB w0 B 5 v l) (hbel : Below B W0 w0) (hB : B ≤ w0.heap.size) (hsz : l.length + t.size ≤ 1099511627776)
    (h : ∀ v' w', OwnB w' B 5 v' (l ++ t.toList) → Below B W0 w' → wpList Tryd.prog ops Q rest (a.put o.dst v') w') : wpList Tryd.prog ops Q (o :: rest) a w0 := by
  obtain ⟨i0, hi, hz0, hz1, hz2⟩ := info_parts uintInfo
  refine Lib.wpList_append_own_string _ hgd s x 56 9 ho B 5 i0 Tryd.underlying56 Tryd.underlying9 hi hz0 hz1 hz2 v l.length _ hs (ownB_cells.1 hown) t hx (by unfold maxLen; omega) (by omega) hB ?_
  intro v' w' hown' hgrow _
  refine h v' w' (ownB_cells.2 ?_) (hbel.grown hgrow hB (fun k hk => (World.ownsRow.lt hown k hk).1))
  rw [List.length_append, size_toList]
  have e : Lib.byteCells (l ++ t.toList) = Lib.byteCells l ++ Lib.strCells t := by simp [Lib.byteCells, Lib.strCells, ByteArray.toList_eq]
  rw [e]; exact hown'
theorem sixV_eq {l : List Nat} (h : Six l) : sixV l = .agg #[.int .u16 ((pc l 0 : Nat) : Int), .int .u16 ((pc l 1 : Nat) : Int), .int .u16 ((pc l 2 : Nat) : Int), .int .u16 ((pc l 3 : Nat) : Int), .int .u16 ((pc l 4 : Nat) : Int), .int .u16 ((pc l 5 : Nat) : Int), .int .u16 ((pc l 6 : Nat) : Int), .int .u16 ((pc l 7 : Nat) : Int)] := by
  have hl := h.len
  match l, hl with
  | [a, b, c, d, e, f, g, h], _ => rfl
/-- An address as it is written, from place i on. -/
def sixGo : Nat → List Nat → Nat → Nat → Nat → List UInt8
  | 0, _, _, _, _ => []
  | f + 1, l, b, e, i =>
    if i < 8 then (if i = b ∧ b < e then [58, 58] ++ sixGo f l b e e else (if 0 < i ∧ (i ≠ e ∨ e = b) then [58] else []) ++ hexL (pc l i) ++ sixGo f l b e (i + 1)) else []
def sixL (l : List Nat) : List UInt8 := sixGo 8 l (runL l).1 (runL l).2 0
theorem sixGo_end (f : Nat) (l : List Nat) (b e i : Nat) (h : 8 ≤ i) : sixGo f l b e i = [] := by
  cases f with
  | zero => rfl
  | succ f => rw [sixGo, if_neg (by omega)]
theorem hexF_len : ∀ f n, (hexF f n).length ≤ f
  | 0, _ => Nat.le_refl _
  | f + 1, n => by
    have := hexF_len f (n / 16)
    unfold hexF; split <;> simp <;> omega
theorem hexL_len (n : Nat) : (hexL n).length ≤ 4 := hexF_len 4 n

set_option maxRecDepth 100000 in
set_option maxHeartbeats 2000000 in
theorem sixWrite_any (l : List Nat) (h : Six l) (w : World) (ht : Tabs w) :
    Calls Tryd.prog 19 #[sixV l] w (RetS w (sixL l)) := by
  have hcell : ∀ i, i < 8 → (w.alloc (.cells (sixCells l) 27)).cell? ⟨w.heap.size, i, none⟩ = some (.int .u16 ((pc l i : Nat) : Int)) := by
    intro i hi
    rw [World.cell?_alloc_at _ _ _ _ rfl]; exact (h.at i hi).2
  have hbel0 : Below w.heap.size w (w.alloc (.cells (sixCells l) 27)) := (Below.refl _ _).alloc (Nat.le_refl _) _
  have hsv := sixV_eq h
  replace hcell := Lib.hid hcell
  replace hsv := Lib.hid hsv
  have c0 := hcell.out 0 (by decide)
  have c1 := hcell.out 1 (by decide)
  have c2 := hcell.out 2 (by decide)
  have c3 := hcell.out 3 (by decide)
  have c4 := hcell.out 4 (by decide)
  have c5 := hcell.out 5 (by decide)
  have c6 := hcell.out 6 (by decide)
  have c7 := hcell.out 7 (by decide)
  unfold sixV
  go_enter Tryd.func19, Tryd.ntmps19
  go_wp2_with fail
  rw [← hsv.out]
  refine (longestRun_any l h _).mono ?_
  rintro e w2 ⟨rfl, ⟨hbe, he8⟩, hb⟩
  have hcell2 : Hid (∀ i, i < 8 → w2.cell? ⟨w.heap.size, i, none⟩ = some (.int .u16 ((pc l i : Nat) : Int))) := Lib.hid (fun i hi => (hb.cell (by simp)).trans (hcell.out i hi))
  have hbel2 := hbel0.next hb
  have hsz2 := hbel2.size
  have ht2 := ht.next hbel2
  have hlt2 : w.heap.size < w2.heap.size := by have := hb.size; simp at this; omega
  clear c0 c1 c2 c3 c4 c5 c6 c7 hcell hb hbel0
  have hL : Hid (sixL l = sixGo 8 l (runL l).1 (runL l).2 0) := rfl
  generalize (runL l).1 = b at hL hbe ⊢
  generalize (runL l).2 = e at hL hbe he8 ⊢
  go_wp2_with fail
  go_loopw [5, 6] (fun ov iv wr => ∃ (f i : Nat) (P : List UInt8), iv = .int .i64 i ∧ i ≤ 8 ∧ 8 ≤ i + f ∧ P.length ≤ 6 * i ∧ Hid (P ++ sixGo f l b e i = sixL l) ∧ OwnB wr w2.heap.size 5 ov P ∧ Below w2.heap.size w2 wr) (fun _ i _ => 8 - (intOf i).toNat)
  case atStart => exact ⟨8, 0, [], rfl, by omega, by omega, by simp, Lib.hid hL.out.symm, OwnB.nil _ _ _, Below.refl _ _⟩
  case round =>
    obtain ⟨f, i, P, rfl, hi, hf, hP, hr, hown, hbel⟩ := hrel
    have hsz := hbel.size
    by_cases hlt : i < 8
    · obtain ⟨f, rfl⟩ : ∃ g, f = g + 1 := ⟨f - 1, by omega⟩
      have hltI : (i : Int) < 8 := by omega
      by_cases hA : i = b ∧ b < e
      · have g1 : ((i : Int) == (b : Int)) = true := by simp [hA.1]
        have g2 : (b : Int) < (e : Int) := by omega
        have hi2 : i < e := by omega
        have hnew : Hid ((P ++ [58, 58]) ++ sixGo f l b e e = sixL l) := Lib.hid (by rw [← hr.out, sixGo, if_pos hlt, if_pos hA]; simp)
        have htx : (ByteArray.mk #[58, 58]).toList = [58, 58] := toList_mk _
        replace htx := Lib.hid htx
        clear hA
        go_wp2_with (at_builtin; refine wpList_pushStr rfl _ _ rfl ⟨#[58, 58]⟩ rfl rfl hown hbel hsz (by show P.length + 2 ≤ _; omega) ?_; intro v' w' ho' hb')
        go_roundw
        case rel => exact ⟨f, e, P ++ [58, 58], by go_num, by omega, by omega, by simp; omega, hnew, by rw [← htx.out]; exact ho', hb'⟩
        case measure => simp [intOf]; omega
      · have hA2 : ((i : Int) == (b : Int)) = false ∨ ((i : Int) == (b : Int)) = true ∧ (e : Int) ≤ (b : Int) := by
          by_cases h1 : i = b
          · exact .inr ⟨by simp [h1], by omega⟩
          · exact .inl (beq_eq_false_iff_ne.2 (by omega))
        have hcl := hcell2.out i hlt
        have hcw : wr.cell? ⟨w.heap.size, i, none⟩ = some (.int .u16 ((pc l i : Nat) : Int)) := (hbel.cell hlt2).trans hcl
        have hpl := Lib.hid (h.at i hlt).1
        have hplI : Hid (IntKind.u64.wrap ((pc l i : Nat) : Int) = ((pc l i : Nat) : Int)) := Lib.hid (u64_wraps _ (by omega) (by have := hpl.out; omega))
        have hx4 := hexL_len (pc l i)
        by_cases hc : 0 < i ∧ (i ≠ e ∨ e = b)
        · have hnew : Hid ((P ++ [58] ++ hexL (pc l i)) ++ sixGo f l b e (i + 1) = sixL l) := Lib.hid (by rw [← hr.out, sixGo, if_pos hlt, if_neg hA, if_pos hc]; simp)
          have k0 : (0 : Int) < (i : Int) := by omega
          have hc2 : ((i : Int) != (e : Int)) = true ∨ ((i : Int) != (e : Int)) = false ∧ ((e : Int) == (b : Int)) = true := by
            by_cases h1 : i = e
            · have : e = b := by rcases hc.2 with h2 | h2; exact absurd h1 h2; exact h2
              exact .inr ⟨by simp [h1], by simp [this]⟩
            · exact .inl (by simp; omega)
          clear hA hc hcl
          rcases hA2 with g1 | ⟨g1, g2⟩ <;> rcases hc2 with g3 | ⟨g3, g4⟩
          all_goals
            go_wp2_with (at_builtin; refine wpList_pushB ty8s rfl _ _ rfl 58 rfl rfl hown hbel hsz rfl (by unfold maxLen; omega) (by omega) ?_; intro v1 w1 ho1 hb1 _; have hcw1 := (hb1.cell hlt2).trans (hcell2.out i hlt))
            refine (appendUint16_any w2.heap.size (pc l i) _ hplI.out hpl.out _ _ _ ho1 (ht2.next hb1) hb1.size (by simp; omega)).mono ?_
            rintro e' w3 ⟨v3, rfl, ho3, hb3⟩
            go_wp2_with fail
            go_roundw
            case rel => exact ⟨f, i + 1, _, by go_num, by omega, by omega, by simp; omega, hnew, ho3, hb1.trans hb3⟩
            case measure => simp [intOf]; omega
        · have hnew : Hid ((P ++ hexL (pc l i)) ++ sixGo f l b e (i + 1) = sixL l) := Lib.hid (by rw [← hr.out, sixGo, if_pos hlt, if_neg hA, if_neg hc]; simp)
          have hc2 : (i : Int) ≤ 0 ∨ (0 : Int) < (i : Int) ∧ ((i : Int) != (e : Int)) = false ∧ ((e : Int) == (b : Int)) = false := by
            by_cases h0 : 0 < i
            · have h1 : i = e := by
                by_cases h1 : i = e
                · exact h1
                · exact absurd ⟨h0, .inl h1⟩ hc
              have h2 : ¬ e = b := fun h2 => hc ⟨h0, .inr h2⟩
              exact .inr ⟨by omega, by simp [h1], beq_eq_false_iff_ne.2 (by omega)⟩
            · exact .inl (by omega)
          clear hA hc hcl
          rcases hA2 with g1 | ⟨g1, g2⟩ <;> rcases hc2 with g3 | ⟨g3, g4, g5⟩
          all_goals
            go_wp2_with fail
            refine (appendUint16_any w2.heap.size (pc l i) _ hplI.out hpl.out _ _ _ hown (ht2.next hbel) hsz (by omega)).mono ?_
            rintro e' w3 ⟨v3, rfl, ho3, hb3⟩
            go_wp2_with fail
            go_roundw
            case rel => exact ⟨f, i + 1, _, by go_num, by omega, by omega, by simp; omega, hnew, ho3, hbel.trans hb3⟩
            case measure => simp [intOf]; omega
    · have hfin : Hid (P = sixL l) := Lib.hid (by rw [← hr.out, sixGo_end _ _ _ _ _ (by omega), List.append_nil])
      have hgeI : (8 : Int) ≤ (i : Int) := by omega
      have hcv := conv_own (P := Tryd.prog) (S := 9) Tryd.underlying56 Tryd.underlying5 Tryd.underlying9 hown
      clear hr
      go_wp2_with fail
      go_ret
      exact retS_mk hfin.out (hbel2.next hbel)
end Go.Proofs.YtnalafhepnfggaaDoor
