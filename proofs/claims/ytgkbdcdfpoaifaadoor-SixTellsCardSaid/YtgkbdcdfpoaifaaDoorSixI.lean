/- The contracts of the reference of layer 10: numbers, row. -/
import Derived.Test.YtgkbdcdfpoaifaaDoorSixH
namespace Go.Proofs.YtgkbdcdfpoaifaaDoor
open Go.RowKit
set_option linter.unusedVariables false
set_option linter.unusedSimpArgs false

/-- Numbers of the call's own, and whether there are. -/
def RetL (w : World) (o : Option (List Nat)) (e : Ending) (w' : World) : Prop := (∃ v, e = .returned (.tuple #[v, .bool o.isSome]) ∧ ∀ x, o = some x → OwnI w' w.heap.size v x) ∧ Below w.heap.size w w'
theorem retL_none {w w' : World} {o : Option (List Nat)} {v : Value} (h : o = none) (hb : Below w.heap.size w w') : RetL w o (.returned (.tuple #[v, .bool false])) w' := by subst h; exact ⟨⟨v, rfl, fun x h => by cases h⟩, hb⟩
theorem retL_some {w w' : World} {o : Option (List Nat)} {v : Value} {x : List Nat} (h : o = some x) (ho : OwnI w' w.heap.size v x) (hb : Below w.heap.size w w') : RetL w o (.returned (.tuple #[v, .bool true])) w' := by subst h; exact ⟨⟨v, rfl, fun y h => by cases h; exact ho⟩, hb⟩
theorem allB_drop {ts : List (List UInt8)} {k : Nat} (h : k < ts.length) : allB (ts.drop k) = match byteV10 ts[k] with | none => none | some v => (allB (ts.drop (k + 1))).map (v :: ·) := by
  rw [List.drop_eq_getElem_cons h, allB]
  rfl
theorem splitC_pieces_len (q : UInt8) (s : ByteArray) {l : List ByteArray} (h : l.map (·.toList) = splitC q s.toList) : l.length ≤ s.size + 1 ∧ 0 < l.length := by
  have h1 := congrArg List.length h
  rw [List.length_map] at h1
  have h2 := splitC_len q s.toList
  rw [size_toList] at h2
  exact ⟨by omega, by rw [h1]; exact List.length_pos_iff.2 (splitC_ne _ _)⟩
theorem splitC_piece_le (q : UInt8) : ∀ (l : List UInt8), ∀ t ∈ splitC q l, t.length ≤ l.length
  | [], t, h => by simp [splitC] at h; subst h; exact Nat.le_refl _
  | d :: r, t, h => by
    rw [splitC_cons] at h
    split at h
    · rcases List.mem_cons.1 h with rfl | h
      · exact Nat.zero_le _
      · exact Nat.le_trans (splitC_piece_le q r t h) (Nat.le_succ _)
    · have hne := splitC_ne q r
      cases hs : splitC q r with
      | nil => exact absurd hs hne
      | cons x y =>
        rw [hs] at h
        have ih := splitC_piece_le q r
        rw [hs] at ih
        rcases List.mem_cons.1 h with rfl | h
        · have := ih x (by simp)
          simp at this ⊢; omega
        · have := ih t (by simp at h ⊢; exact .inr h)
          simp at this ⊢; omega
theorem OwnI.made (w : World) {B : Nat} (hB : B ≤ w.heap.size) (l : List Nat) (hl : l.length ≤ 10) : OwnI ((w.alloc (.cells (l.map intV).toArray 3)).drew) B (.slice (some ⟨w.heap.size, 0, none⟩) l.length l.length) l := by
  refine ⟨by simp, .inr ⟨w.heap.size, l.length, (l.map intV).toArray, rfl, hB, heap_alloc_new w _, Nat.le_refl _, by unfold maxLen; omega, by simp, ?_⟩⟩
  rw [Nat.mul_one, List.take_of_length_le (by simp)]
set_option maxRecDepth 100000 in
set_option maxHeartbeats 4000000 in
theorem numbersR_any (s : ByteArray) (w : World) (hs : s.size ≤ 500000) :
    Calls Tryd.prog 30 #[.string s] w (RetL w (numbersV s.toList)) := by
  have hct := Lib.hid (cutR_any s 46 w (by omega))
  have hct2 : Hid (Calls Tryd.prog 28 #[.string s, .int .u8 46] w (RetW w 9 (splitC 46 s.toList))) := hct
  clear hct
  go_enter Tryd.func30, Tryd.ntmps30
  go_wp2_with fail
  refine hct2.out.mono ?_
  rintro e w1 ⟨v, l, rfl, hl, hown, hbel⟩
  obtain ⟨hln, hl0⟩ := splitC_pieces_len 46 s hl.out
  obtain ⟨g, cp, rfl, hcp, hg, hcell⟩ := hown.front10 hl0
  have hgB : w.heap.size ≤ w1.heap.size := hbel.size
  have hpz : Hid (∀ t ∈ l, t.size ≤ 500000) := Lib.hid (fun t ht => by
    have h1 : t.toList ∈ splitC 46 s.toList := by rw [← hl.out]; exact List.mem_map.2 ⟨t, ht, rfl⟩
    have h2 := splitC_piece_le 46 _ _ h1
    rw [size_toList, size_toList] at h2
    omega)
  replace hcell := Lib.hid hcell
  replace hown := Lib.hid hown
  clear hct2
  have hV : Hid (numbersV s.toList = match allB (l.map (·.toList)) with | some [a, b, c, d] => some [256 * a + b, 256 * c + d] | _ => none) := Lib.hid (by unfold numbersV; rw [hl.out]; rfl)
  replace hl := Lib.hid hl
  go_wp2_with fail
  go_loopw [5, 6] (fun v i wr => ∃ (k : Nat) (P : List Nat), i = .int .i64 k ∧ k ≤ l.length ∧ P.length = k ∧ Hid (allB (l.map (·.toList)) = (allB ((l.map (·.toList)).drop k)).map (P ++ ·)) ∧ OwnI wr w1.heap.size v P ∧ Below w1.heap.size w1 wr) (fun _ i _ => l.length - (intOf i).toNat)
  case atStart => exact ⟨0, [], rfl, Nat.zero_le _, rfl, Lib.hid (by rw [List.drop_zero]; cases allB (l.map (·.toList)) <;> rfl), OwnI.nil _ _, Below.refl _ _⟩
  case round =>
    obtain ⟨k, P, rfl, hk, hP, hA, hoi, hb1⟩ := hrel
    have hsz := hb1.size
    have hbelA : Below w.heap.size w wr := hbel.next hb1
    by_cases hlt : k < l.length
    · have hltI : (k : Int) < (l.length : Int) := by omega
      have hc := (hb1.cell (p := ⟨g, k, none⟩) hg).trans (hcell.out k hlt)
      have hst := Lib.hid (allB_drop (ts := l.map (·.toList)) (k := k) (by rw [List.length_map]; exact hlt))
      have hbr := Lib.hid (fun w => byteR_any l[k] w (by have := hpz.out l[k] (List.getElem_mem hlt); omega))
      have egk : (l.map (·.toList))[k]'(by rw [List.length_map]; exact hlt) = l[k].toList := by simp
      rw [egk] at hst
      replace egk := Lib.hid egk
      have hPI : P.length ≤ 2000000 := by omega
      replace hP := Lib.hid hP
      cases hv : byteV10 l[k].toList with
      | none =>
        have hno : Hid (numbersV s.toList = none) := Lib.hid (by rw [hV.out, hA.out, hst.out, hv]; rfl)
        rw [hv] at hbr
        replace hv := Lib.hid hv
        go_wp2_with fail
        refine (hbr.out _).mono ?_
        rintro e w3 ⟨⟨n, rfl, -⟩, rfl⟩
        go_wp2_with fail
        go_ret2
        exact retL_none (v := .slice none 0 0) hno.out hbelA
      | some n =>
        have hnew : Hid (allB (l.map (·.toList)) = (allB ((l.map (·.toList)).drop (k + 1))).map ((P ++ [n]) ++ ·)) := Lib.hid (by
          rw [hA.out, hst.out, hv]; dsimp only
          cases allB ((l.map (·.toList)).drop (k + 1)) with
          | none => rfl
          | some y => simp)
        rw [hv] at hbr
        replace hv := Lib.hid hv
        go_wp2_with fail
        refine (hbr.out _).mono ?_
        rintro e w3 ⟨⟨n', rfl, hn⟩, rfl⟩
        obtain rfl := hn n rfl
        clear hn
        go_wp2_with (at_builtin; refine wpList_pushI rfl _ _ rfl [n'] rfl rfl hoi hb1 hsz hPI (by show 1 ≤ 8; decide) ?_; intro a' c' w4 ho4 hb4)
        go_roundw
        case rel => exact ⟨k + 1, P ++ [n'], by go_num, by omega, by simp [hP.out], hnew, ho4, hb4⟩
        case measure => simp [intOf]; omega
    · obtain rfl : k = l.length := by omega
      have hfin : Hid (allB (l.map (·.toList)) = some P) := Lib.hid (by
        rw [hA.out, List.drop_of_length_le (by rw [List.length_map]; exact Nat.le_refl _)]; simp [allB])
      clear hlt hA
      by_cases h4 : P.length = 4
      · obtain ⟨gp, cpp, rfl, hpc, hgp, hgb, hpcell⟩ := hoi.front (by omega)
        obtain ⟨a, b, c, d, rfl⟩ : ∃ a b c d, P = [a, b, c, d] := by
          clear hpcell hpc hfin hP hk hgp
          match P, h4 with
          | [a, b, c, d], _ => exact ⟨a, b, c, d, rfl⟩
        have hle := allB_le hfin.out
        have h1 := hle a (by simp)
        have h2 := hle b (by simp)
        have h3 := hle c (by simp)
        have h5 := hle d (by simp)
        have x0 : wr.cell? ⟨gp, 0, none⟩ = some (.int .i64 (a : Int)) := hpcell 0 (by simp)
        have x1 : wr.cell? ⟨gp, 1, none⟩ = some (.int .i64 (b : Int)) := hpcell 1 (by simp)
        have x2 : wr.cell? ⟨gp, 2, none⟩ = some (.int .i64 (c : Int)) := hpcell 2 (by simp)
        have x3 : wr.cell? ⟨gp, 3, none⟩ = some (.int .i64 (d : Int)) := hpcell 3 (by simp)
        have e1 : IntKind.i64.wrap (256 * (a : Int)) = 256 * (a : Int) := IntWalk.i64_in _ (by omega)
        have e2 : IntKind.i64.wrap (256 * (a : Int) + (b : Int)) = 256 * (a : Int) + (b : Int) := IntWalk.i64_in _ (by omega)
        have e3 : IntKind.i64.wrap (256 * (c : Int)) = 256 * (c : Int) := IntWalk.i64_in _ (by omega)
        have e4 : IntKind.i64.wrap (256 * (c : Int) + (d : Int)) = 256 * (c : Int) + (d : Int) := IntWalk.i64_in _ (by omega)
        have hyes : Hid (numbersV s.toList = some [256 * a + b, 256 * c + d]) := Lib.hid (by rw [hV.out, hfin.out])
        clear hle hpcell hfin hoi
        have e5 : [a, b, c, d].length = 4 := rfl
        simp only [e5]
        clear e5
        have c5 : (4 : Int) ≤ (cpp : Int) := by simp at hpc; omega
        go_wp2_with fail
        go_region_held3 (fun w' => w'.cell? ⟨gp, 0, none⟩ = some (.int .i64 (a : Int)) ∧ w'.cell? ⟨gp, 1, none⟩ = some (.int .i64 (b : Int)) ∧ w'.cell? ⟨gp, 2, none⟩ = some (.int .i64 (c : Int)) ∧ w'.cell? ⟨gp, 3, none⟩ = some (.int .i64 (d : Int))) (first | go_keep | (simp [go_sem])) (fail)
        go_wp2_with fail
        go_ret2
        refine retL_some hyes.out ?_ ((hbelA.alloc hbelA.size _).drew)
        have e6 : (.cells #[.int .i64 (256 * (a : Int) + (b : Int)), .int .i64 (256 * (c : Int) + (d : Int))] 3 : Obj) = .cells ([256 * a + b, 256 * c + d].map intV).toArray 3 := by simp [intV]
        rw [e6]
        exact OwnI.made wr hbelA.size _ (by simp)
      · have hno : Hid (numbersV s.toList = none) := Lib.hid (by
          rw [hV.out, hfin.out]
          match P, h4 with
          | [], _ => rfl
          | [a], _ => rfl
          | [a, b], _ => rfl
          | [a, b, c], _ => rfl
          | [a, b, c, d], h => exact absurd rfl h
          | a :: b :: c :: d :: e :: r, _ => rfl)
        obtain ⟨pa, pcc, rfl⟩ := hoi.form
        have h4I : ((P.length : Int) != 4) = true := by simp only [bne_iff_ne, ne_eq]; omega
        replace hP := Lib.hid hP
        go_wp2_with fail
        go_ret2
        exact retL_none (v := .slice none 0 0) hno.out hbelA
end Go.Proofs.YtgkbdcdfpoaifaaDoor
