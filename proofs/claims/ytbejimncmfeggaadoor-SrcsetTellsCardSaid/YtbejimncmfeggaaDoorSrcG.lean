/- The contract of srcset.Split. -/
import Derived.Test.YtbejimncmfeggaaDoorSrcF
import Derived.Test.YtbejimncmfeggaaDoorSrcQ
namespace Go.Proofs.YtbejimncmfeggaaDoor
open Go.RowKit
set_option linter.unusedVariables false
set_option linter.unusedSimpArgs false

theorem wpList_store_newC {P : Program} {ops : Array Oper} {rest : List Oper} {o : Oper} {a : Act} {w : World} {Q : Exit → Act → World → Prop} (hgd : o.guard = none) (ty : TypeId) (x y : Operand) (ho : o.op = .store ty x y) (hd : o.dst = none)
    (cells : Array Value) (t : TypeId) (old : Array Value) (g : Nat) (hx : a.eval x = .pointer (some ⟨g, 0, none⟩)) (hgw : g = w.heap.size) (hy : a.eval y = .agg cells) (hi : (P.info? ty).map (·.size) = some cells.size)
    (hold : old.size = cells.size) (h1 : cells.all (·.oneCell') = true)
    (h : wpList P ops Q rest a (w.alloc (.cells cells t))) : wpList P ops Q (o :: rest) a (w.alloc (.cells old t)) := by
  subst hgw
  refine wpList_store_row hgd ty x y ho w.heap.size cells hx hy t old (by show (w.heap.push _)[w.heap.size]? = _; simp) hi hold h1 ?_
  rw [World.setRow_alloc_new, hd]
  exact h
theorem suffix_one (l : List UInt8) (c : UInt8) : Lib.hasSuffix l [c] = decide (l.getLast? = some c) := by
  unfold Lib.hasSuffix
  rcases List.eq_nil_or_concat l with rfl | ⟨L, d, rfl⟩
  · rfl
  · have e : (L ++ [d]).reverse = d :: L.reverse := by rw [List.reverse_append]; rfl
    have e2 : (L ++ [d]).getLast? = some d := by rw [List.getLast?_append]; rfl
    have e3 : L.concat d = L ++ [d] := List.concat_eq_append
    try rw [e3]
    unfold List.isSuffixOf
    rw [e, e2]
    show (c == d && true) = decide (some d = some c)
    rw [Bool.and_true, Bool.eq_iff_iff, beq_iff_eq, decide_eq_true_iff]
    exact ⟨fun h => by rw [h], fun h => (Option.some.inj h).symm⟩
def RetSplit (s : ByteArray) (w : World) (e : Ending) (w' : World) : Prop :=
  ∃ (v : Value) (l : List HCand), e = .returned v ∧ Hid (l.map candIs = splL s.toList) ∧ l.length ≤ s.size ∧ (∀ c ∈ l, c.url.size ≤ s.size ∧ (∀ x ∈ c.ws, x.size ≤ 1000000) ∧ c.ws.length ≤ 1000000) ∧ OwnC w' w.heap.size v l ∧ Below w.heap.size w w'
theorem enterA : ∀ args w, (callFunc 29 args).run Tryd.prog w = .ok (.enter 29 args) w := callFunc_enter Tryd.func29 (by kernel_rfl) rfl
theorem enterB : ∀ args w, (callFunc 30 args).run Tryd.prog w = .ok (.enter 30 args) w := callFunc_enter Tryd.func30 (by kernel_rfl) rfl
theorem dwL_mem : ∀ (n : Nat) (l : List UInt8), l.length ≤ n → ∀ t ∈ (dwL l).1, t.length ≤ l.length := by
  intro n
  induction n with
  | zero =>
    intro l hl t ht
    obtain rfl : l = [] := List.eq_nil_of_length_eq_zero (by omega)
    have e : dwL [] = ([], []) := rfl
    rw [e] at ht; cases ht
  | succ n ih =>
    intro l hl t ht
    have h3 := drop_len isBl l
    rw [dwL_step] at ht
    by_cases h : (runL wordS false (l.dropWhile isBl)).1 = []
    · rw [if_pos h] at ht; cases ht
    · have h1 := runL_len wordS false (l.dropWhile isBl)
      have h2 := List.length_pos_iff.2 h
      rw [if_neg h] at ht
      rcases List.mem_cons.1 ht with rfl | ht
      · omega
      · have := ih (runL wordS false (l.dropWhile isBl)).2.1 (by omega) t ht
        omega
theorem dropWhile_eq_nil_of_drop {s : List UInt8} {j : Nat} (h : (s.drop j).dropWhile sepC = []) : splL (s.drop j) = [] := by rw [splL_step, h, if_pos rfl]
set_option maxRecDepth 100000 in
set_option maxHeartbeats 8000000 in
theorem splitC_any (s : ByteArray) (w : World) (hz : s.size ≤ 900000) :
    Calls Tryd.prog 16 #[.string s] w (RetSplit s w) := by
  have hsl := size_toList s
  go_enter Tryd.func16, Tryd.ntmps16
  go_wp2_with fail
  go_loopg [3] (s.size) (fun g v wr => ∃ (j : Nat) (l : List HCand), g = s.size - j ∧ j ≤ s.size ∧ l.length ≤ j ∧ Hid (splL s.toList = l.map candIs ++ splL (s.toList.drop j)) ∧ (∀ c ∈ l, c.url.size ≤ s.size ∧ (∀ x ∈ c.ws, x.size ≤ 1000000) ∧ c.ws.length ≤ 1000000) ∧ OwnC wr (w.heap.size + 2) v l ∧ BoxI wr (w.heap.size + 1) j ∧ BoxS wr w.heap.size s ∧ Below w.heap.size w wr)
  case atStart =>
    refine ⟨0, [], rfl, Nat.zero_le _, Nat.le_refl _, Lib.hid (by simp), (fun c hc => by cases hc), OwnC.nil _ _, ?_, ?_, ((Below.refl _ _).alloc (Nat.le_refl _) _).alloc (by simp) _⟩
    · have := heap_alloc_new (w.alloc (.cells #[.string s] 9)) (.cells #[.int .i64 0] 3)
      unfold BoxI
      simpa using this
    · exact (heap_alloc_old _ _ (by simp)).trans (heap_alloc_new _ _)
  case round =>
    obtain ⟨j, l, hgk, hj, hlj, hrun, hsz, hown, hba, hbs, hB⟩ := hrel
    replace hgk := Lib.hid hgk
    have hwz0 : w.heap.size + 1 < wr.heap.size := (Array.getElem?_eq_some_iff.1 hba).1
    go_wp2_with fail
    refine (skip_any 29 #[] (pureS sepC) (fun _ _ => True) (fun _ => False) (w.heap.size + 1) w.heap.size s (fun st c w _ => (ask2_any (c.toNat : Int) w).mono (by rintro e w' ⟨rfl, rfl⟩; exact ⟨rfl, trivial, Chg.refl _ _⟩)) enterA (fun _ _ _ _ => trivial) (fun x => x) (fun x => x) (by omega) (by omega) () j wr trivial hba hbs hj).mono ?_
    rintro e w1 ⟨t1, rfl, ht1, hz1, hba1, hbs1, -, hC1⟩
    have hd1 := run_drop ht1.out
    rw [runL_pure] at hd1
    dsimp only at hd1
    have hC1' : Chg (· = w.heap.size + 1) wr w1 := hC1.mono (fun i h => h.elim id False.elim)
    have lsz : wr.heap.size ≤ w1.heap.size := hC1.size
    have hown1 : OwnC w1 (w.heap.size + 2) _ l := hown.chg (fun k h1 h2 => hC1'.block k h2 (by omega))
    have hB1 : Below w.heap.size w w1 := hB.trans (hC1'.below (by omega) (by intro i hi; omega))
    clear ht1 hC1 hC1' hown hB hba hbs
    obtain ⟨j1, hj1⟩ : ∃ j1, j + t1.size = j1 := ⟨_, rfl⟩
    rw [hj1] at hd1 hz1 hba1
    have hjj : j ≤ j1 := by omega
    have xa := cell_of_row _ _ 0 _ _ _ hba1
    have xs := cell_of_row _ _ 0 _ _ _ hbs1
    simp only [List.getElem?_toArray, List.getElem?_cons_zero] at xa xs
    replace hj1 := Lib.hid hj1
    by_cases hend : j1 = s.size
    · obtain ⟨e1, n1⟩ := beq_of (show (j1 : Int) = (s.size : Int) by omega)
      have hfin : Hid (l.map candIs = splL s.toList) := Lib.hid (by
        rw [hrun.out, dropWhile_eq_nil_of_drop (by rw [← hd1]; exact drop_end s _ (by omega)), List.append_nil])
      replace hd1 := Lib.hid hd1
      replace hba1 := Lib.hid hba1
      replace hbs1 := Lib.hid hbs1
      replace hend := Lib.hid hend
      go_wp2_with fail
      go_ret
      exact ⟨_, l, rfl, hfin, by omega, hsz, hown1.low (by omega), hB1⟩
    obtain ⟨e1, n1⟩ := bne_of (show ¬ (j1 : Int) = (s.size : Int) by omega)
    have hlt1 : j1 < s.size := by omega
    have hcr := drop_cons s j1 hlt1
    have hc0 : sepC s[j1] = false := dropHead sepC (s.toList.drop j) (by rw [← hd1, hcr])
    have hstep : Hid (splL (s.toList.drop j) = candsOf (oneU (s.toList.drop j1)).1 ++ splL (oneU (s.toList.drop j1)).2) := Lib.hid (by
      rw [splL_step, ← hd1, if_neg (by rw [hcr]; simp)])
    replace hba1 := Lib.hid hba1
    replace hbs1 := Lib.hid hbs1
    clear hd1
    go_wp2_with fail
    refine (skip_any 30 #[] (pureS notBl) (fun _ _ => True) (fun _ => False) (w.heap.size + 1) w.heap.size s (fun st c w _ => (ask3_any (c.toNat : Int) w).mono (by rintro e w' ⟨rfl, rfl⟩; exact ⟨rfl, trivial, Chg.refl _ _⟩)) enterB (fun _ _ _ _ => trivial) (fun x => x) (fun x => x) (by omega) (by omega) () j1 w1 trivial hba1.out hbs1.out hz1).mono ?_
    rintro e w2 ⟨U, rfl, hU, hz2, hba2, hbs2, -, hC2⟩
    have hd2 := run_drop hU.out
    rw [runL_pure] at hd2 hU
    dsimp only at hd2 hU
    have hC2' : Chg (· = w.heap.size + 1) w1 w2 := hC2.mono (fun i h => h.elim id False.elim)
    have lsz2 : w1.heap.size ≤ w2.heap.size := hC2.size
    have hown2 : OwnC w2 (w.heap.size + 2) _ l := hown1.chg (fun k h1 h2 => hC2'.block k h2 (by omega))
    have hB2 : Below w.heap.size w w2 := hB1.trans (hC2'.below (by omega) (by intro i hi; omega))
    have hUp : 0 < U.size := by
      rw [← size_toList, hU.out, hcr, List.takeWhile_cons, if_pos (notBl_of hc0)]; simp
    have hUz0 : U.size ≤ s.size := by omega
    clear hC2 hC2' hown1 hB1 hba1 hbs1 xa xs
    obtain ⟨k2, hk2⟩ : ∃ k2, j1 + U.size = k2 := ⟨_, rfl⟩
    rw [hk2] at hd2 hz2 hba2
    have hk2j : j1 < k2 := by omega
    have hsuf := Lib.hid (fun w => Tryd.strings_HasSuffix U ⟨#[44]⟩ w (by omega))
    have e2 : Lib.hasSuffix U.data.toList (ByteArray.mk #[44]).data.toList = decide (U.toList.getLast? = some 44) := by
      rw [← ByteArray.toList_eq]; exact suffix_one _ _
    rw [e2] at hsuf
    replace hba2 := Lib.hid hba2
    replace hbs2 := Lib.hid hbs2
    replace hk2 := Lib.hid hk2
    replace hcr := Lib.hid hcr
    clear hc0 e2
    by_cases hlast : U.toList.getLast? = some 44
    · rw [decide_eq_true hlast] at hsuf
      have htr := Lib.hid (fun w => Tryd.strings_TrimRight_one U 44 (by decide) w (by omega))
      obtain ⟨U2, hU2⟩ : ∃ q : ByteArray, (⟨(Lib.trimRightB U.data.toList 44).toArray⟩ : ByteArray) = q := ⟨_, rfl⟩
      rw [hU2] at htr
      have hU2l : U2.toList = trimC U.toList := by rw [← hU2, toList_mk, ← ByteArray.toList_eq]; rfl
      have hUz : U2.size ≤ s.size := by
        obtain ⟨t, ht, _⟩ := trimC_all U.toList
        have := congrArg List.length ht
        rw [List.length_append, ← hU2l, size_toList, size_toList] at this
        omega
      have hone : Hid (oneU (s.toList.drop j1) = ((U2.toList, ([] : List ByteArray).map (·.toList)), s.toList.drop k2)) := Lib.hid (by
        unfold oneU
        rw [← hU.out, if_pos hlast, hU2l, hd2]; rfl)
      replace hU2 := Lib.hid hU2
      replace hU2l := Lib.hid hU2l
      replace hlast := Lib.hid hlast
      replace hd2 := Lib.hid hd2
      go_wp2_with (first | (go_at_call 31; refine (hsuf.out _).mono ?_; rintro e w' ⟨rfl, hw'⟩; obtain rfl := hw'.symm) | (go_at_call 32; refine (htr.out _).mono ?_; rintro e w' ⟨rfl, hw'⟩; obtain rfl := hw'.symm))
      have hn : k2 ≤ s.size := hz2
      have hwz : ∀ x ∈ ([] : List ByteArray), x.size ≤ 1000000 := fun x hx => by cases hx
      have hwl : ([] : List ByteArray).length ≤ 1000000 := by decide
      have hrdv : ReadS w2 (.slice none 0 0) ([] : List ByteArray) := ⟨none, 0, rfl, fun h => by cases h⟩
      refine (describe_any (.slice none 0 0) ([] : List ByteArray) w2 hrdv hwz hwl).mono ?_
      have lat : w.heap.size + 1 < w2.heap.size := (Array.getElem?_eq_some_iff.1 hba2.out).1
      have lst : w.heap.size < w2.heap.size := by omega
      rintro e w6 (⟨hds, rfl, hb6⟩ | ⟨st, wv, hds, rfl, ho6, hb6⟩)
      · have hnew : Hid (splL s.toList = l.map candIs ++ splL (s.toList.drop k2)) := Lib.hid (by
          rw [hrun.out, hstep.out, hone.out]
          unfold candsOf
          dsimp only
          rw [hds.out]; rfl)
        have hb7 : Below w2.heap.size w2 (w6.alloc (.cells (candC e0 nilV d0) 27)) := hb6.alloc hb6.size _
        have hbe : BoxI (w6.alloc (.cells (candC e0 nilV d0) 27)) (w.heap.size + 1) k2 := (hb7.block _ lat).trans hba2.out
        have hse : BoxS (w6.alloc (.cells (candC e0 nilV d0) 27)) w.heap.size s := (hb7.block _ lst).trans hbs2.out
        have hoe := hown2.below hb7
        have hBe := hB2.trans (hb7.mono (by omega))
        replace hbe := Lib.hid hbe
        replace hse := Lib.hid hse
        clear hb6 hb7
        go_wp2_with (refine wpList_store_newC rfl 27 _ _ rfl rfl (candC e0 nilV d0) 27 _ _ rfl rfl rfl (candInfo _ _ _) rfl (candCells _ _ _ _ _) ?_)
        go_roundg (s.size - k2)
        case measure => have := hgk.out; omega
        case rel => exact ⟨k2, l, rfl, hn, by omega, hnew, hsz, hoe, hbe.out, hse.out, hBe⟩
      · have hnew : Hid (splL s.toList = (l ++ [HCand.mk U2 wv ([] : List ByteArray) st]).map candIs ++ splL (s.toList.drop k2)) := Lib.hid (by
          rw [hrun.out, hstep.out, hone.out]
          unfold candsOf
          dsimp only
          rw [hds.out, List.map_append, List.append_assoc]; rfl)
        obtain ⟨pb, cb, rfl, -⟩ := ho6.read
        have hb7 : Below w2.heap.size w2 (w6.alloc (.cells (candC e0 (.slice pb ([] : List ByteArray).length cb) st) 27)) := hb6.alloc hb6.size _
        have hnb : (w6.alloc (.cells (candC e0 (.slice pb ([] : List ByteArray).length cb) st) 27)).heap[w6.heap.size]? = some (.cells (candC e0 (.slice pb ([] : List ByteArray).length cb) st) 27 (0, 0)) := heap_alloc_new _ _
        have y0 := cell_of_row _ _ 0 _ _ _ hnb
        have f0 := frozen_of_row _ _ 0 _ _ hnb
        simp only [candC, List.getElem?_toArray, List.getElem?_cons_zero, List.getElem?_cons_succ] at y0
        change World.cell? (w6.alloc (.cells (candC e0 (.slice pb ([] : List ByteArray).length cb) st) 27)) _ = _ at y0
        have hnb2 : (w6.alloc (.cells (candC U2 (.slice pb ([] : List ByteArray).length cb) st) 27)).heap[w6.heap.size]? = some (.cells (candC U2 (.slice pb ([] : List ByteArray).length cb) st) 27 (0, 0)) := heap_alloc_new _ _
        have hkp : ∀ k, k < w6.heap.size → (w6.alloc (.cells (candC U2 (.slice pb ([] : List ByteArray).length cb) st) 27)).heap[k]? = w6.heap[k]? := fun k hk => heap_alloc_old _ _ hk
        have lsz := hb6.size
        have hbe : BoxI (w6.alloc (.cells (candC U2 (.slice pb ([] : List ByteArray).length cb) st) 27)) (w.heap.size + 1) k2 := (hkp _ (by omega)).trans ((hb6.block _ lat).trans hba2.out)
        have hse : BoxS (w6.alloc (.cells (candC U2 (.slice pb ([] : List ByteArray).length cb) st) 27)) w.heap.size s := (hkp _ (by omega)).trans ((hb6.block _ lst).trans hbs2.out)
        have hoe : OwnC (w6.alloc (.cells (candC U2 (.slice pb ([] : List ByteArray).length cb) st) 27)) (w.heap.size + 2) _ l := hown2.chg (fun k _ hk => (hkp k (by omega)).trans (hb6.block k hk))
        have hwe : OwnS (w6.alloc (.cells (candC U2 (.slice pb ([] : List ByteArray).length cb) st) 27)) (w.heap.size + 2) 9 (.slice pb ([] : List ByteArray).length cb) ([] : List ByteArray) := (ho6.chg (fun k _ hk => hkp k hk)).low (by omega)
        have hBe : Below w.heap.size w (w6.alloc (.cells (candC U2 (.slice pb ([] : List ByteArray).length cb) st) 27)) := (hB2.trans (hb6.mono (by omega))).alloc (by omega) _
        have lse : (w6.alloc (.cells (candC U2 (.slice pb ([] : List ByteArray).length cb) st) 27)).heap.size = w6.heap.size + 1 := by simp
        replace hbe := Lib.hid hbe
        replace hse := Lib.hid hse
        replace hnb2 := Lib.hid hnb2
        replace hkp := Lib.hid hkp
        replace lse := Lib.hid lse
        clear hb6 hb7 ho6 hnb
        go_wp2_with (first
          | (refine wpList_store_newC rfl 27 _ _ rfl rfl (candC e0 (.slice pb ([] : List ByteArray).length cb) st) 27 _ _ rfl rfl rfl (candInfo _ _ _) rfl (candCells _ _ _ _ _) ?_)
          | (refine wpList_load_row (w := (w6.alloc (.cells (candC U2 (.slice pb ([] : List ByteArray).length cb) st) 27))) rfl 27 _ rfl w6.heap.size rfl _ (candC U2 (.slice pb ([] : List ByteArray).length cb) st) _ _ hnb2.out Tryd.underlying27 rfl (candInfo _ _ _) ?_)
          | (refine wpList_lit1 rfl _ rfl U2 (.slice pb ([] : List ByteArray).length cb) st rfl ?_)
          | (refine wpList_pushC rfl _ _ rfl (HCand.mk U2 (.slice pb ([] : List ByteArray).length cb) ([] : List ByteArray) st) rfl (by rfl) hoe hwe (Below.refl (w.heap.size + 2) _) (by rw [lse.out]; omega) (by omega) ?_; intro v' w8 hoz hbz))
        have hbz1 : BoxI w8 (w.heap.size + 1) k2 := (hbz.block _ (by omega)).trans hbe.out
        have hbz2 : BoxS w8 w.heap.size s := (hbz.block _ (by omega)).trans hse.out
        have hBz := hBe.trans (hbz.mono (by omega))
        go_wp2_with fail
        go_roundg (s.size - k2)
        case measure => have := hgk.out; omega
        case rel =>
          refine ⟨k2, _, rfl, hn, ?_, hnew, ?_, hoz, hbz1, hbz2, hBz⟩
          · rw [List.length_append]; show l.length + 1 ≤ _; omega
          · intro c hc
            rcases List.mem_append.1 hc with hc | hc
            · exact hsz c hc
            · rw [List.mem_singleton.1 hc]; exact ⟨hUz, hwz, hwl⟩
    · rw [decide_eq_false hlast] at hsuf
      have hU1 : Hid (oneU (s.toList.drop j1) = ((U.toList, (dwL (s.toList.drop k2)).1), (dwL (s.toList.drop k2)).2.drop 1)) := Lib.hid (by
        unfold oneU
        rw [← hU.out, if_neg hlast, hd2])
      replace hlast := Lib.hid hlast
      replace hd2 := Lib.hid hd2
      go_wp2_with (first | (go_at_call 31; refine (hsuf.out _).mono ?_; rintro e w' ⟨rfl, hw'⟩; obtain rfl := hw'.symm))
      refine (describers_any (w.heap.size + 1) w.heap.size s k2 w2 hba2.out hbs2.out hz2 (by omega) (by omega)).mono ?_
      rintro e w3 ⟨V, wl, n0, rfl, hwl1, hwl2, hkn, hn0, hwln, hoV, hba3, hbs3, hC3⟩
      have lsz3 : w2.heap.size ≤ w3.heap.size := hC3.size
      have hown3 : OwnC w3 (w.heap.size + 2) _ l := hown2.chg (fun k h1 h2 => hC3.block k h2 (by omega))
      have hB3 : Below w.heap.size w w3 := hB2.trans (hC3.below (by omega) (by intro i hi; omega))
      have hwz : ∀ x ∈ wl, x.size ≤ 1000000 := by
        intro x hx
        have h1 : x.toList ∈ (dwL (s.toList.drop k2)).1 := by rw [← hwl1.out]; exact List.mem_map_of_mem hx
        have h2 := dwL_mem _ _ (Nat.le_refl _) _ h1
        rw [size_toList, List.length_drop, hsl] at h2
        omega
      have hwl : wl.length ≤ 1000000 := by omega
      obtain ⟨pv, cv, rfl, -⟩ := hoV.read
      have xa := cell_of_row _ _ 0 _ _ _ hba3
      have xs := cell_of_row _ _ 0 _ _ _ hbs3
      have fa := frozen_of_row _ _ 0 _ _ hba3
      simp only [List.getElem?_toArray, List.getElem?_cons_zero] at xa xs
      clear hC3 hown2 hB2 hba2 hbs2
      by_cases hn0e : n0 < s.size
      · have hn0I : (n0 : Int) < (s.size : Int) := by omega
        have hbn : BoxI (w3.setCell ⟨w.heap.size + 1, 0, none⟩ (.int .i64 ((n0 + 1 : Nat) : Int))) (w.heap.size + 1) (n0 + 1) := by
          unfold BoxI
          rw [set_blockA hba3]; rfl
        have hsn : BoxS (w3.setCell ⟨w.heap.size + 1, 0, none⟩ (.int .i64 ((n0 + 1 : Nat) : Int))) w.heap.size s := (set_off (by omega)).trans hbs3
        have hownn : OwnC (w3.setCell ⟨w.heap.size + 1, 0, none⟩ (.int .i64 ((n0 + 1 : Nat) : Int))) (w.heap.size + 2) _ l := hown3.chg (fun k h1 h2 => set_off (by omega))
        have hBn : Below w.heap.size w (w3.setCell ⟨w.heap.size + 1, 0, none⟩ (.int .i64 ((n0 + 1 : Nat) : Int))) := below_set hB3 (by omega)
        have hrn : OwnS (w3.setCell ⟨w.heap.size + 1, 0, none⟩ (.int .i64 ((n0 + 1 : Nat) : Int))) w2.heap.size 9 (.slice pv wl.length cv) wl := hoV.chg (fun k h1 h2 => set_off (by omega))
        have hrdv := hrn.read
        have ej : ((n0 + 1 : Nat) : Int) = (n0 : Int) + 1 := by omega
        rw [ej] at hbn hsn hownn hBn hrdv
        have hn1 : n0 + 1 ≤ s.size := by omega
        have hone : Hid (oneU (s.toList.drop j1) = ((U.toList, wl.map (·.toList)), s.toList.drop (n0 + 1))) := Lib.hid (by
          rw [hU1.out, ← hwl1.out, ← hwl2.out, List.drop_drop])
        have hUz := hUz0
        replace ej := Lib.hid ej
        replace hba3 := Lib.hid hba3
        replace hbs3 := Lib.hid hbs3
        replace hbn := Lib.hid hbn
        replace hsn := Lib.hid hsn
        replace hrn := Lib.hid hrn
        clear hown3 hB3 hoV
        go_wp2_with fail
        have hn : n0 + 1 ≤ s.size := hn1
        refine (describe_any (.slice pv wl.length cv) wl (w3.setCell ⟨w.heap.size + 1, 0, none⟩ (.int .i64 ((n0 : Int) + 1))) hrdv hwz hwl).mono ?_
        have lat : w.heap.size + 1 < (w3.setCell ⟨w.heap.size + 1, 0, none⟩ (.int .i64 ((n0 : Int) + 1))).heap.size := (Array.getElem?_eq_some_iff.1 hbn.out).1
        have lst : w.heap.size < (w3.setCell ⟨w.heap.size + 1, 0, none⟩ (.int .i64 ((n0 : Int) + 1))).heap.size := by omega
        rintro e w6 (⟨hds, rfl, hb6⟩ | ⟨st, wv, hds, rfl, ho6, hb6⟩)
        · have hnew : Hid (splL s.toList = l.map candIs ++ splL (s.toList.drop (n0 + 1))) := Lib.hid (by
            rw [hrun.out, hstep.out, hone.out]
            unfold candsOf
            dsimp only
            rw [hds.out]; rfl)
          have hb7 : Below (w3.setCell ⟨w.heap.size + 1, 0, none⟩ (.int .i64 ((n0 : Int) + 1))).heap.size (w3.setCell ⟨w.heap.size + 1, 0, none⟩ (.int .i64 ((n0 : Int) + 1))) (w6.alloc (.cells (candC e0 nilV d0) 27)) := hb6.alloc hb6.size _
          have hbe : BoxI (w6.alloc (.cells (candC e0 nilV d0) 27)) (w.heap.size + 1) (n0 + 1) := (hb7.block _ lat).trans hbn.out
          have hse : BoxS (w6.alloc (.cells (candC e0 nilV d0) 27)) w.heap.size s := (hb7.block _ lst).trans hsn.out
          have hoe := hownn.below hb7
          have hBe := hBn.trans (hb7.mono (by omega))
          replace hbe := Lib.hid hbe
          replace hse := Lib.hid hse
          clear hb6 hb7
          go_wp2_with (refine wpList_store_newC rfl 27 _ _ rfl rfl (candC e0 nilV d0) 27 _ _ rfl rfl rfl (candInfo _ _ _) rfl (candCells _ _ _ _ _) ?_)
          go_roundg (s.size - (n0 + 1))
          case measure => have := hgk.out; omega
          case rel => exact ⟨(n0 + 1), l, rfl, hn, by omega, hnew, hsz, hoe, hbe.out, hse.out, hBe⟩
        · have hnew : Hid (splL s.toList = (l ++ [HCand.mk U wv wl st]).map candIs ++ splL (s.toList.drop (n0 + 1))) := Lib.hid (by
            rw [hrun.out, hstep.out, hone.out]
            unfold candsOf
            dsimp only
            rw [hds.out, List.map_append, List.append_assoc]; rfl)
          obtain ⟨pb, cb, rfl, -⟩ := ho6.read
          have hb7 : Below (w3.setCell ⟨w.heap.size + 1, 0, none⟩ (.int .i64 ((n0 : Int) + 1))).heap.size (w3.setCell ⟨w.heap.size + 1, 0, none⟩ (.int .i64 ((n0 : Int) + 1))) (w6.alloc (.cells (candC e0 (.slice pb wl.length cb) st) 27)) := hb6.alloc hb6.size _
          have hnb : (w6.alloc (.cells (candC e0 (.slice pb wl.length cb) st) 27)).heap[w6.heap.size]? = some (.cells (candC e0 (.slice pb wl.length cb) st) 27 (0, 0)) := heap_alloc_new _ _
          have y0 := cell_of_row _ _ 0 _ _ _ hnb
          have f0 := frozen_of_row _ _ 0 _ _ hnb
          simp only [candC, List.getElem?_toArray, List.getElem?_cons_zero, List.getElem?_cons_succ] at y0
          change World.cell? (w6.alloc (.cells (candC e0 (.slice pb wl.length cb) st) 27)) _ = _ at y0
          have hnb2 : (w6.alloc (.cells (candC U (.slice pb wl.length cb) st) 27)).heap[w6.heap.size]? = some (.cells (candC U (.slice pb wl.length cb) st) 27 (0, 0)) := heap_alloc_new _ _
          have hkp : ∀ k, k < w6.heap.size → (w6.alloc (.cells (candC U (.slice pb wl.length cb) st) 27)).heap[k]? = w6.heap[k]? := fun k hk => heap_alloc_old _ _ hk
          have lsz := hb6.size
          have hbe : BoxI (w6.alloc (.cells (candC U (.slice pb wl.length cb) st) 27)) (w.heap.size + 1) (n0 + 1) := (hkp _ (by omega)).trans ((hb6.block _ lat).trans hbn.out)
          have hse : BoxS (w6.alloc (.cells (candC U (.slice pb wl.length cb) st) 27)) w.heap.size s := (hkp _ (by omega)).trans ((hb6.block _ lst).trans hsn.out)
          have hoe : OwnC (w6.alloc (.cells (candC U (.slice pb wl.length cb) st) 27)) (w.heap.size + 2) _ l := hownn.chg (fun k _ hk => (hkp k (by omega)).trans (hb6.block k hk))
          have hwe : OwnS (w6.alloc (.cells (candC U (.slice pb wl.length cb) st) 27)) (w.heap.size + 2) 9 (.slice pb wl.length cb) wl := (ho6.chg (fun k _ hk => hkp k hk)).low (by omega)
          have hBe : Below w.heap.size w (w6.alloc (.cells (candC U (.slice pb wl.length cb) st) 27)) := (hBn.trans (hb6.mono (by omega))).alloc (by omega) _
          have lse : (w6.alloc (.cells (candC U (.slice pb wl.length cb) st) 27)).heap.size = w6.heap.size + 1 := by simp
          replace hbe := Lib.hid hbe
          replace hse := Lib.hid hse
          replace hnb2 := Lib.hid hnb2
          replace hkp := Lib.hid hkp
          replace lse := Lib.hid lse
          clear hb6 hb7 ho6 hnb
          go_wp2_with (first
            | (refine wpList_store_newC rfl 27 _ _ rfl rfl (candC e0 (.slice pb wl.length cb) st) 27 _ _ rfl rfl rfl (candInfo _ _ _) rfl (candCells _ _ _ _ _) ?_)
            | (refine wpList_load_row (w := (w6.alloc (.cells (candC U (.slice pb wl.length cb) st) 27))) rfl 27 _ rfl w6.heap.size rfl _ (candC U (.slice pb wl.length cb) st) _ _ hnb2.out Tryd.underlying27 rfl (candInfo _ _ _) ?_)
            | (refine wpList_lit1 rfl _ rfl U (.slice pb wl.length cb) st rfl ?_)
            | (refine wpList_pushC rfl _ _ rfl (HCand.mk U (.slice pb wl.length cb) wl st) rfl (by rfl) hoe hwe (Below.refl (w.heap.size + 2) _) (by rw [lse.out]; omega) (by omega) ?_; intro v' w8 hoz hbz))
          have hbz1 : BoxI w8 (w.heap.size + 1) (n0 + 1) := (hbz.block _ (by omega)).trans hbe.out
          have hbz2 : BoxS w8 w.heap.size s := (hbz.block _ (by omega)).trans hse.out
          have hBz := hBe.trans (hbz.mono (by omega))
          go_wp2_with fail
          go_roundg (s.size - (n0 + 1))
          case measure => have := hgk.out; omega
          case rel =>
            refine ⟨(n0 + 1), _, rfl, hn, ?_, hnew, ?_, hoz, hbz1, hbz2, hBz⟩
            · rw [List.length_append]; show l.length + 1 ≤ _; omega
            · intro c hc
              rcases List.mem_append.1 hc with hc | hc
              · exact hsz c hc
              · rw [List.mem_singleton.1 hc]; exact ⟨hUz, hwz, hwl⟩
      · have hn0I : (s.size : Int) ≤ (n0 : Int) := by omega
        have hone : Hid (oneU (s.toList.drop j1) = ((U.toList, wl.map (·.toList)), s.toList.drop n0)) := Lib.hid (by
          rw [hU1.out, ← hwl1.out, ← hwl2.out, List.drop_drop, drop_end s n0 (by omega), drop_end s (n0 + 1) (by omega)])
        have hUz := hUz0
        have hrdv := hoV.read
        replace hba3 := Lib.hid hba3
        replace hbs3 := Lib.hid hbs3
        clear hoV
        go_wp2_with fail
        have hn : n0 ≤ s.size := hn0
        refine (describe_any (.slice pv wl.length cv) wl w3 hrdv hwz hwl).mono ?_
        have lat : w.heap.size + 1 < w3.heap.size := (Array.getElem?_eq_some_iff.1 hba3.out).1
        have lst : w.heap.size < w3.heap.size := by omega
        rintro e w6 (⟨hds, rfl, hb6⟩ | ⟨st, wv, hds, rfl, ho6, hb6⟩)
        · have hnew : Hid (splL s.toList = l.map candIs ++ splL (s.toList.drop n0)) := Lib.hid (by
            rw [hrun.out, hstep.out, hone.out]
            unfold candsOf
            dsimp only
            rw [hds.out]; rfl)
          have hb7 : Below w3.heap.size w3 (w6.alloc (.cells (candC e0 nilV d0) 27)) := hb6.alloc hb6.size _
          have hbe : BoxI (w6.alloc (.cells (candC e0 nilV d0) 27)) (w.heap.size + 1) n0 := (hb7.block _ lat).trans hba3.out
          have hse : BoxS (w6.alloc (.cells (candC e0 nilV d0) 27)) w.heap.size s := (hb7.block _ lst).trans hbs3.out
          have hoe := hown3.below hb7
          have hBe := hB3.trans (hb7.mono (by omega))
          replace hbe := Lib.hid hbe
          replace hse := Lib.hid hse
          clear hb6 hb7
          go_wp2_with (refine wpList_store_newC rfl 27 _ _ rfl rfl (candC e0 nilV d0) 27 _ _ rfl rfl rfl (candInfo _ _ _) rfl (candCells _ _ _ _ _) ?_)
          go_roundg (s.size - n0)
          case measure => have := hgk.out; omega
          case rel => exact ⟨n0, l, rfl, hn, by omega, hnew, hsz, hoe, hbe.out, hse.out, hBe⟩
        · have hnew : Hid (splL s.toList = (l ++ [HCand.mk U wv wl st]).map candIs ++ splL (s.toList.drop n0)) := Lib.hid (by
            rw [hrun.out, hstep.out, hone.out]
            unfold candsOf
            dsimp only
            rw [hds.out, List.map_append, List.append_assoc]; rfl)
          obtain ⟨pb, cb, rfl, -⟩ := ho6.read
          have hb7 : Below w3.heap.size w3 (w6.alloc (.cells (candC e0 (.slice pb wl.length cb) st) 27)) := hb6.alloc hb6.size _
          have hnb : (w6.alloc (.cells (candC e0 (.slice pb wl.length cb) st) 27)).heap[w6.heap.size]? = some (.cells (candC e0 (.slice pb wl.length cb) st) 27 (0, 0)) := heap_alloc_new _ _
          have y0 := cell_of_row _ _ 0 _ _ _ hnb
          have f0 := frozen_of_row _ _ 0 _ _ hnb
          simp only [candC, List.getElem?_toArray, List.getElem?_cons_zero, List.getElem?_cons_succ] at y0
          change World.cell? (w6.alloc (.cells (candC e0 (.slice pb wl.length cb) st) 27)) _ = _ at y0
          have hnb2 : (w6.alloc (.cells (candC U (.slice pb wl.length cb) st) 27)).heap[w6.heap.size]? = some (.cells (candC U (.slice pb wl.length cb) st) 27 (0, 0)) := heap_alloc_new _ _
          have hkp : ∀ k, k < w6.heap.size → (w6.alloc (.cells (candC U (.slice pb wl.length cb) st) 27)).heap[k]? = w6.heap[k]? := fun k hk => heap_alloc_old _ _ hk
          have lsz := hb6.size
          have hbe : BoxI (w6.alloc (.cells (candC U (.slice pb wl.length cb) st) 27)) (w.heap.size + 1) n0 := (hkp _ (by omega)).trans ((hb6.block _ lat).trans hba3.out)
          have hse : BoxS (w6.alloc (.cells (candC U (.slice pb wl.length cb) st) 27)) w.heap.size s := (hkp _ (by omega)).trans ((hb6.block _ lst).trans hbs3.out)
          have hoe : OwnC (w6.alloc (.cells (candC U (.slice pb wl.length cb) st) 27)) (w.heap.size + 2) _ l := hown3.chg (fun k _ hk => (hkp k (by omega)).trans (hb6.block k hk))
          have hwe : OwnS (w6.alloc (.cells (candC U (.slice pb wl.length cb) st) 27)) (w.heap.size + 2) 9 (.slice pb wl.length cb) wl := (ho6.chg (fun k _ hk => hkp k hk)).low (by omega)
          have hBe : Below w.heap.size w (w6.alloc (.cells (candC U (.slice pb wl.length cb) st) 27)) := (hB3.trans (hb6.mono (by omega))).alloc (by omega) _
          have lse : (w6.alloc (.cells (candC U (.slice pb wl.length cb) st) 27)).heap.size = w6.heap.size + 1 := by simp
          replace hbe := Lib.hid hbe
          replace hse := Lib.hid hse
          replace hnb2 := Lib.hid hnb2
          replace hkp := Lib.hid hkp
          replace lse := Lib.hid lse
          clear hb6 hb7 ho6 hnb
          go_wp2_with (first
            | (refine wpList_store_newC rfl 27 _ _ rfl rfl (candC e0 (.slice pb wl.length cb) st) 27 _ _ rfl rfl rfl (candInfo _ _ _) rfl (candCells _ _ _ _ _) ?_)
            | (refine wpList_load_row (w := (w6.alloc (.cells (candC U (.slice pb wl.length cb) st) 27))) rfl 27 _ rfl w6.heap.size rfl _ (candC U (.slice pb wl.length cb) st) _ _ hnb2.out Tryd.underlying27 rfl (candInfo _ _ _) ?_)
            | (refine wpList_lit1 rfl _ rfl U (.slice pb wl.length cb) st rfl ?_)
            | (refine wpList_pushC rfl _ _ rfl (HCand.mk U (.slice pb wl.length cb) wl st) rfl (by rfl) hoe hwe (Below.refl (w.heap.size + 2) _) (by rw [lse.out]; omega) (by omega) ?_; intro v' w8 hoz hbz))
          have hbz1 : BoxI w8 (w.heap.size + 1) n0 := (hbz.block _ (by omega)).trans hbe.out
          have hbz2 : BoxS w8 w.heap.size s := (hbz.block _ (by omega)).trans hse.out
          have hBz := hBe.trans (hbz.mono (by omega))
          go_wp2_with fail
          go_roundg (s.size - n0)
          case measure => have := hgk.out; omega
          case rel =>
            refine ⟨n0, _, rfl, hn, ?_, hnew, ?_, hoz, hbz1, hbz2, hBz⟩
            · rw [List.length_append]; show l.length + 1 ≤ _; omega
            · intro c hc
              rcases List.mem_append.1 hc with hc | hc
              · exact hsz c hc
              · rw [List.mem_singleton.1 hc]; exact ⟨hUz, hwz, hwl⟩
end Go.Proofs.YtbejimncmfeggaaDoor
