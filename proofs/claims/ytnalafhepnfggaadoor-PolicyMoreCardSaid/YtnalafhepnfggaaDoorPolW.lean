/- The contracts of policy.Scheme, Type, Host, Allows. -/
import Derived.Test.YtnalafhepnfggaaDoorPolOpen
import Derived.Test.YtnalafhepnfggaaDoorLaws13
import Derived.Lib.SlicesS
namespace Go.Proofs.YtnalafhepnfggaaDoor
open Go.RowKit
set_option linter.unusedVariables false
set_option linter.unusedSimpArgs false

theorem containsS_oneOf (l : List ByteArray) (s : ByteArray) : Lib.containsS l s = oneOf l s.toList := by
  rw [Bool.eq_iff_iff, Lib.containsS_iff]
  unfold oneOf
  rw [List.any_eq_true]
  constructor
  · intro h; exact ⟨s, h, beq_self_eq_true _⟩
  · rintro ⟨x, hx, he⟩
    have : x = s := eq_of_toList (by simpa using he)
    rwa [this] at hx
theorem contains_any (x : StrsS) (s : ByteArray) (w : World) (hx : StrsOk w x) :
    Calls Tryd.prog 20 #[.slice x.a x.l.length x.c, .string s] w fun e w' => e = .returned (.bool (oneOf x.l s.toList)) ∧ w = w' := by
  have hn := hx.n
  unfold maxLen at hn
  by_cases h0 : 0 < x.l.length
  · obtain ⟨g, o, e, hc⟩ := hx.cells h0
    rw [e]
    refine (Tryd.slices_Contains_string g o x.l.length x.c x.l s w (Nat.le_refl _) (by omega) (fun j hj => by rw [hc j hj]; simp [hj])).mono ?_
    rintro e w' ⟨rfl, rfl⟩
    exact ⟨by rw [List.take_length, containsS_oneOf], rfl⟩
  · have e0 : x.l = [] := List.eq_nil_of_length_eq_zero (by omega)
    rw [e0]
    refine (Tryd.slices_Contains_string_empty x.a x.c s w).mono ?_
    rintro e w' ⟨rfl, rfl⟩
    exact ⟨rfl, rfl⟩
theorem StrsOk.below {w w' : World} {K : Nat} {x : StrsS} (h : StrsOk w x) (hb : Below K w w') (hK : w.heap.size ≤ K) : StrsOk w' x := ⟨h.cells.below hb hK, h.n, h.each, h.nilC⟩
theorem PolIn.below {w w' : World} {K : Nat} {p : PolS} (h : PolIn w p) (hb : Below K w w') (hK : w.heap.size ≤ K) : PolIn w' p := ⟨h.schemes.below hb hK, h.hosts.below hb hK, h.types.below hb hK, h.most⟩
set_option maxRecDepth 100000 in
set_option maxHeartbeats 1000000 in
theorem schemeP_any (p : PolS) (s : ByteArray) (w : World) (hp : PolIn w p) :
    Calls Tryd.prog 13 #[.agg (polC p), .string s] w (RetB w (oneOf p.schemes.l s.toList)) := by
  have hB : Below w.heap.size w (w.alloc (.cells (polC p) 24)) := (Below.refl _ _).alloc (Nat.le_refl _) _
  have x0 : (w.alloc (.cells (polC p) 24)).cell? ⟨w.heap.size, 0, none⟩ = some (.slice p.schemes.a p.schemes.l.length p.schemes.c) := (World.cell?_alloc_at _ _ _ _ rfl).trans rfl
  have hok := hp.schemes.below hB (Nat.le_refl _)
  go_enter Tryd.func13, Tryd.ntmps13
  go_wp2_with fail
  refine (contains_any p.schemes s _ hok).mono ?_
  rintro e w' ⟨rfl, rfl⟩
  go_wp2_with fail
  go_ret
  exact ⟨rfl, hB⟩
set_option maxRecDepth 100000 in
set_option maxHeartbeats 1000000 in
theorem typeP_any (p : PolS) (s : ByteArray) (w : World) (hp : PolIn w p) :
    Calls Tryd.prog 15 #[.agg (polC p), .string s] w (RetB w (oneOf p.types.l s.toList)) := by
  have hB : Below w.heap.size w (w.alloc (.cells (polC p) 24)) := (Below.refl _ _).alloc (Nat.le_refl _) _
  have x0 : (w.alloc (.cells (polC p) 24)).cell? ⟨w.heap.size, 2, none⟩ = some (.slice p.types.a p.types.l.length p.types.c) := (World.cell?_alloc_at _ _ _ _ rfl).trans rfl
  have hok := hp.types.below hB (Nat.le_refl _)
  go_enter Tryd.func15, Tryd.ntmps15
  go_wp2_with fail
  refine (contains_any p.types s _ hok).mono ?_
  rintro e w' ⟨rfl, rfl⟩
  go_wp2_with fail
  go_ret
  exact ⟨rfl, hB⟩
theorem hostInfo : (Tryd.prog.info? 29).map (·.size) = some 11 := by kernel_rfl
theorem polInfo : (Tryd.prog.info? 24).map (·.size) = some 4 := by kernel_rfl
/-- How an entry is held against a host, test by test. -/
theorem entry_ways (h : HostS) (t e : ByteArray) (ht : t.toList = hostL h) :
    (hostE h e = true ∧ ((e.toList == t.toList) = true ∨ ((e.toList == t.toList) = false ∧ (e.toList == [42]) = true))) ∨
    ((e.toList == t.toList) = false ∧ (e.toList == [42]) = false ∧ ∃ b1 b2 b3 b4, Lib.hasPrefix e.toList [46] = b1 ∧ (h.kind == 2) = b2 ∧ decide ((e.size : Int) < (h.name.size : Int)) = b3 ∧ Lib.hasSuffix h.name.toList e.toList = b4 ∧ hostE h e = (b1 && b2 && b3 && b4)) := by
  unfold hostE
  rw [← ht]
  cases h1 : e.toList == t.toList
  · cases h2 : e.toList == [42]
    · refine .inr ⟨rfl, rfl, _, _, _, _, rfl, rfl, rfl, rfl, ?_⟩
      have e2 : decide (h.kind = 2) = (h.kind == 2) := by rw [Bool.eq_iff_iff]; simp
      have e3 : decide (e.size < h.name.size) = decide ((e.size : Int) < (h.name.size : Int)) := by rw [Bool.eq_iff_iff]; simp
      rw [e2, e3]; rfl
    · exact .inl ⟨rfl, .inr ⟨rfl, rfl⟩⟩
  · exact .inl ⟨rfl, .inl rfl⟩
set_option maxRecDepth 100000 in
set_option maxHeartbeats 4000000 in
theorem hostP_any (p : PolS) (h : HostS) (w : World) (hp : PolIn w p) (ok : HostOk h) (ht : Tabs w) :
    Calls Tryd.prog 9 #[.agg (polC p), .agg (hostC h)] w (RetB w (hostA p.hosts.l h)) := by
  obtain ⟨ps, ⟨pa, pc, l⟩, pt, pm⟩ := p
  obtain ⟨P, hPd⟩ : ∃ P : Array Value, polC ⟨ps, ⟨pa, pc, l⟩, pt, pm⟩ = P := ⟨_, rfl⟩
  have hP1 : P[1]? = some (.slice pa l.length pc) := by rw [← hPd]; rfl
  have hp2 : StrsOk w ⟨pa, pc, l⟩ := hp.hosts
  rw [hPd]
  show Calls _ _ _ w (RetB w (hostA l h))
  replace hPd := Lib.hid hPd
  clear hp
  have hB1 : Below w.heap.size w (w.alloc (.cells P 24)) := (Below.refl _ _).alloc (Nat.le_refl _) _
  have hB : Below w.heap.size w ((w.alloc (.cells P 24)).alloc (.cells (hostC h) 29)) := hB1.alloc hB1.size _
  have hP : ((w.alloc (.cells P 24)).alloc (.cells (hostC h) 29)).heap[w.heap.size]? = some (.cells P 24 (0, 0)) := heap_alloc2_old w _ _
  have hH : ((w.alloc (.cells P 24)).alloc (.cells (hostC h) 29)).heap[w.heap.size + 1]? = some (.cells (hostC h) 29 (0, 0)) := heap_new (by simp)
  have hsz : w.heap.size + 1 < ((w.alloc (.cells P 24)).alloc (.cells (hostC h) 29)).heap.size := by simp
  have x1 := (cell_of_row _ _ 1 _ _ _ hP).trans hP1
  have y0 := (cell_of_row _ _ 0 _ _ _ hH).trans (show (hostC h)[0]? = some (.int .i64 h.kind) from rfl)
  have y1 := (cell_of_row _ _ 1 _ _ _ hH).trans (show (hostC h)[1]? = some (.string h.name) from rfl)
  have hmx := ok.name
  unfold maxLen at hmx
  have hok := hp2.below hB (Nat.le_refl _)
  have htw := ht.next hB
  replace hP := Lib.hid hP
  go_enter Tryd.func9, Tryd.ntmps9
  by_cases hno : noHost h = true
  · have hfin : Hid (hostA l h = true) := Lib.hid (by unfold hostA; rw [hno]; rfl)
    have hway : (h.kind == 0) = true ∨ ((h.kind == 0) = false ∧ (h.kind == 1) = true) := by
      unfold noHost at hno
      rw [Bool.or_eq_true, decide_eq_true_eq, decide_eq_true_eq] at hno
      simp only [beq_iff_eq, beq_eq_false_iff_ne, ne_eq]
      omega
    clear hno
    rcases hway with q | ⟨q, q2⟩
    all_goals
      go_wp2_with fail
      go_ret
      exact ⟨ret_bool hfin.out.symm, hB⟩
  have q0 : (h.kind == 0) = false ∧ (h.kind == 1) = false := by
    unfold noHost at hno
    rw [Bool.or_eq_true, decide_eq_true_eq, decide_eq_true_eq] at hno
    simp only [beq_eq_false_iff_ne, ne_eq]
    omega
  obtain ⟨q0, q1⟩ := q0
  have hV : Hid (hostA l h = l.any (hostE h)) := Lib.hid (by
    unfold hostA
    cases hh : noHost h
    · rfl
    · exact absurd hh hno)
  clear hno
  go_wp2_with (refine wpList_load_row rfl 29 _ rfl (w.heap.size + 1) rfl _ (hostC h) _ _ hH Tryd.underlying29 rfl hostInfo ?_)
  refine (hostWrite_any h ok _ htw).mono ?_
  rintro e w1 ⟨t, rfl, htx, hb⟩
  have hB1 := hB.next hb
  have hok1 := hok.below hb (Nat.le_refl _)
  have z1 := (hb.cell (p := ⟨w.heap.size, 1, none⟩) (by simp; omega)).trans x1
  have z2 := (hb.cell (p := ⟨w.heap.size + 1, 0, none⟩) (by simp)).trans y0
  have z3 := (hb.cell (p := ⟨w.heap.size + 1, 1, none⟩) (by simp)).trans y1
  clear hb hB hok x1 y0 y1 hP hH hsz htw
  have htl : t.size ≤ 9223372036854775807 := by
    rw [← size_toList, htx.out]
    have h1 := fourL_len h.four
    have h2 := sixL_len h.six
    unfold hostL; split
    · rw [size_toList]; exact hmx
    · split
      · omega
      · split <;> simp <;> omega
  obtain ⟨hcells, hn, heach, -⟩ := hok1
  unfold maxLen at hn heach
  dsimp only [StrsIn] at hcells hn heach
  replace hcells := Lib.hid hcells
  replace heach := Lib.hid heach
  go_wp2_with fail
  go_loop [21] (fun iv => ∃ k : Nat, iv = .int .i64 k ∧ k ≤ l.length ∧ Hid ((l.take k).any (hostE h) = false)) (fun iv => l.length - (intOf iv).toNat)
  case atStart => exact ⟨0, rfl, Nat.zero_le _, Lib.hid rfl⟩
  case round =>
    obtain ⟨k, rfl, hk, hg⟩ := hrel
    by_cases hlt : k < l.length
    · have hltI : (k : Int) < (l.length : Int) := by omega
      obtain ⟨g, o, rfl, hc⟩ := hcells.out (by omega)
      have c1 := hc k hlt
      clear hc
      have hez := heach.out l[k] (List.getElem_mem _)
      have hsn : l.take (k + 1) = l.take k ++ [l[k]] := List.take_succ_eq_append_getElem hlt
      have hyes : hostE h l[k] = true → Hid (hostA l h = true) := fun e => Lib.hid (by
        rw [hV.out, ← List.take_append_drop (k + 1) l, List.any_append, hsn, List.any_append]
        simp [e])
      have hnew : hostE h l[k] = false → Hid ((l.take (k + 1)).any (hostE h) = false) := fun e => Lib.hid (by
        rw [hsn, List.any_append, hg.out]
        simp [e])
      have hw := entry_ways h t l[k] htx.out
      replace hsn := Lib.hid hsn
      obtain ⟨e, he⟩ : ∃ e, l[k] = e := ⟨_, rfl⟩
      rw [he] at c1 hez hyes hnew hw
      replace he := Lib.hid he
      have hezI : (e.size : Int) ≤ 9223372036854775807 := by omega
      rcases hw with ⟨hE, q1 | ⟨q1, q2⟩⟩ | ⟨q1, q2, b1, b2, b3, b4, r1, r2, r3, r4, hE⟩
      · have hfin := hyes hE
        replace hE := Lib.hid hE
        replace hnew := Lib.hid hnew
        replace hyes := Lib.hid hyes
        go_wp2_with fail
        go_ret
        exact ⟨ret_bool hfin.out.symm, hB1⟩
      · have hfin := hyes hE
        replace hE := Lib.hid hE
        replace hnew := Lib.hid hnew
        replace hyes := Lib.hid hyes
        go_wp2_with fail
        go_ret
        exact ⟨ret_bool hfin.out.symm, hB1⟩
      · have hpf := fun w => Tryd.strings_HasPrefix e ⟨#[46]⟩ w
        have hsf := fun w => Tryd.strings_HasSuffix h.name e w hmx
        have e1 : Lib.hasPrefix e.data.toList (ByteArray.mk #[46]).data.toList = b1 := by rw [← r1, ← ByteArray.toList_eq]
        have e2 : Lib.hasSuffix h.name.data.toList e.data.toList = b4 := by rw [← r4, ← ByteArray.toList_eq, ← ByteArray.toList_eq]
        simp only [e1] at hpf
        simp only [e2] at hsf
        have r3' : decide (e.size < h.name.size) = b3 := by rw [← r3, Bool.eq_iff_iff]; simp
        replace r1 := Lib.hid r1
        replace r4 := Lib.hid r4
        replace hpf := Lib.hid hpf
        replace hsf := Lib.hid hsf
        clear e1 e2
        cases b1
        · have hn2 := hnew (by rw [hE]; rfl)
          replace hE := Lib.hid hE
          replace hnew := Lib.hid hnew
          replace hyes := Lib.hid hyes
          go_wp2_with (go_at_call 16; refine (hpf.out _).mono ?_; rintro e w' ⟨rfl, rfl⟩)
          go_round
          case rel => exact ⟨k + 1, by go_num, by omega, hn2⟩
          case measure => simp [intOf]; omega
        cases b2
        · have hn2 := hnew (by rw [hE]; rfl)
          replace hE := Lib.hid hE
          replace hnew := Lib.hid hnew
          replace hyes := Lib.hid hyes
          go_wp2_with (go_at_call 16; refine (hpf.out _).mono ?_; rintro e w' ⟨rfl, rfl⟩)
          go_round
          case rel => exact ⟨k + 1, by go_num, by omega, hn2⟩
          case measure => simp [intOf]; omega
        cases b3
        · have hn2 := hnew (by rw [hE]; rfl)
          replace hE := Lib.hid hE
          replace hnew := Lib.hid hnew
          replace hyes := Lib.hid hyes
          go_wp2_with (go_at_call 16; refine (hpf.out _).mono ?_; rintro e w' ⟨rfl, rfl⟩)
          go_round
          case rel => exact ⟨k + 1, by go_num, by omega, hn2⟩
          case measure => simp [intOf]; omega
        cases b4
        · have hn2 := hnew (by rw [hE]; rfl)
          replace hE := Lib.hid hE
          replace hnew := Lib.hid hnew
          replace hyes := Lib.hid hyes
          go_wp2_with (first
            | (go_at_call 16; refine (hpf.out _).mono ?_; rintro e w' ⟨rfl, rfl⟩)
            | (go_at_call 17; refine (hsf.out _).mono ?_; rintro e w' ⟨rfl, rfl⟩))
          go_round
          case rel => exact ⟨k + 1, by go_num, by omega, hn2⟩
          case measure => simp [intOf]; omega
        · have hfin := hyes (by rw [hE]; rfl)
          replace hE := Lib.hid hE
          replace hnew := Lib.hid hnew
          replace hyes := Lib.hid hyes
          go_wp2_with (first
            | (go_at_call 16; refine (hpf.out _).mono ?_; rintro e w' ⟨rfl, rfl⟩)
            | (go_at_call 17; refine (hsf.out _).mono ?_; rintro e w' ⟨rfl, rfl⟩))
          go_ret
          exact ⟨ret_bool hfin.out.symm, hB1⟩
    · have hgeI : (l.length : Int) ≤ (k : Int) := by omega
      have hfin : Hid (hostA l h = false) := Lib.hid (by
        rw [hV.out, ← hg.out, List.take_of_length_le (by omega)])
      go_wp2_with fail
      go_ret
      exact ⟨ret_bool hfin.out.symm, hB1⟩
end Go.Proofs.YtnalafhepnfggaaDoor
