/- The contract of the reference's Split. -/
import Derived.Test.YtbejimncmfeggaaDoorSrcS
import Derived.Test.YtbejimncmfeggaaDoorSrcT
import Derived.Test.YtbejimncmfeggaaDoorSrcG
namespace Go.Proofs.YtbejimncmfeggaaDoor
open Go.RowKit
set_option linter.unusedVariables false
set_option linter.unusedSimpArgs false

def strLen : Value → Nat
  | .string t => t.size
  | _ => 0
theorem trimC_end (L : List UInt8) : trimC (L ++ [44]) = trimC L := by
  unfold trimC
  rw [List.reverse_append]
  show ((44 :: L.reverse).dropWhile (fun c => c == 44)).reverse = _
  rw [List.dropWhile_cons, if_pos (by decide)]
theorem trimC_is {L : List UInt8} (h : L.getLast? ≠ some 44) : trimC L = L := by
  rcases List.eq_nil_or_concat L with rfl | ⟨M, d, rfl⟩
  · rfl
  · rw [List.concat_eq_append] at h ⊢
    unfold trimC
    rw [List.reverse_append]
    show ((d :: M.reverse).dropWhile (fun c => c == 44)).reverse = _
    have hd : d ≠ 44 := by rintro rfl; exact h (getLast_snoc M 44)
    rw [List.dropWhile_cons, if_neg (by simpa using hd)]
    simp
theorem trimC_ne {c : UInt8} {r : List UInt8} (h : c ≠ 44) : trimC (c :: r) ≠ [] := by
  intro e
  obtain ⟨t, h1, h2, _⟩ := trimC_all (c :: r)
  rw [e, List.nil_append] at h1
  exact h (h2 c (by rw [← h1]; exact List.mem_cons_self ..))
theorem last_ofS (U : ByteArray) (h : 0 < U.size) : U.toList = (U.extract 0 (U.size - 1)).toList ++ [U[U.size - 1]] := by
  have h1 := take_snoc U (U.size - 1) (by omega)
  rw [show U.size - 1 + 1 = U.size by omega, List.take_of_length_le (by rw [size_toList]; omega)] at h1
  rw [toList_extract, List.drop_zero]
  exact h1
theorem take_is {p : UInt8 → Bool} : ∀ (l : List UInt8) (k : Nat), (∀ c ∈ l.take k, p c = true) → (l.drop k = [] ∨ ∃ c r, l.drop k = c :: r ∧ p c = false) → l.takeWhile p = l.take k ∧ l.dropWhile p = l.drop k := by
  intro l k h1 h2
  obtain ⟨t1, t2⟩ := take_stop2 (p := p) (l.take k) (l.drop k) h1
  rw [List.take_append_drop] at t1 t2
  rcases h2 with h2 | ⟨c, r, h2, hc⟩
  · rw [t1, t2, h2]; simp
  · rw [t1, t2, h2, List.takeWhile_cons, List.dropWhile_cons, if_neg (by rw [hc]; decide), if_neg (by rw [hc]; decide)]; simp
theorem blank_no {c : UInt8} (h : notBl c = true) : blankZ (c.toNat : Int) = false := by
  unfold notBl isBl at h
  simpa using h
set_option maxRecDepth 100000 in
set_option maxHeartbeats 8000000 in
theorem refSplitC_any (s : ByteArray) (w : World) (hz : s.size ≤ 900000) :
    Calls Tryd.prog 17 #[.string s] w (RetSplit s w) := by
  go_enter Tryd.func17, Tryd.ntmps17
  go_wp2_with fail
  go_loopw [0, 3] (fun sv ov wr => ∃ (S : ByteArray) (l : List HCand), sv = .string S ∧ l.length + S.size ≤ s.size ∧ Hid (splL s.toList = l.map candIs ++ splL S.toList) ∧ Hid (∀ c ∈ l, c.url.size ≤ s.size ∧ (∀ x ∈ c.ws, x.size ≤ 1000000) ∧ c.ws.length ≤ 1000000) ∧ OwnC wr w.heap.size ov l ∧ Below w.heap.size w wr) (fun sv _ _ => strLen sv)
  case atStart => exact ⟨s, [], rfl, by show 0 + s.size ≤ _; omega, Lib.hid (by simp), Lib.hid (fun c hc => by cases hc), OwnC.nil _ _, Below.refl _ _⟩
  case round =>
    obtain ⟨S, l, rfl, hSz, hrun, hsz, hown, hB⟩ := hrel
    go_wp2_with fail
    go_loop [0] (fun sv => ∃ S1 : ByteArray, sv = .string S1 ∧ S1.size ≤ S.size ∧ Hid (S1.toList.dropWhile sepC = S.toList.dropWhile sepC)) (fun sv => strLen sv)
    case atStart => exact ⟨S, rfl, Nat.le_refl _, Lib.hid rfl⟩
    case round =>
      obtain ⟨S1, rfl, hz1, hd1⟩ := hrel
      by_cases h0 : 0 < S1.size
      rotate_left
      · have e : S1.toList = [] := (toList_empty_iff S1).2 (by omega)
        have hfin : Hid (l.map candIs = splL s.toList) := Lib.hid (by
          rw [hrun.out, splL_step, ← hd1.out, e]; simp)
        have hem : S1.toList.isEmpty = true := by rw [e]; rfl
        have heq : (S1.toList == []) = true := by rw [e]; rfl
        replace e := Lib.hid e
        go_wp2_with fail
        go_ret
        exact ⟨_, l, rfl, hfin, by omega, hsz.out, hown, hB⟩
      have hdr := drop_cons S1 0 h0
      rw [List.drop_zero] at hdr
      have hem : S1.toList.isEmpty = false := by rw [hdr]; rfl
      have hne : (!S1.toList.isEmpty) = true := by rw [hdr]; rfl
      have heq : (S1.toList == []) = false := by rw [hdr]; rfl
      have z1 : (1 : Int) ≤ (S1.size : Int) := by omega
      have z2 : 1 ≤ S1.size := h0
      cases hsp : sepC S1[0]
      rotate_left
      · have hR : (S1.extract 1 S1.size).toList = S1.toList.drop 1 := by rw [toList_from]
        have hnew : Hid ((S1.extract 1 S1.size).toList.dropWhile sepC = S.toList.dropWhile sepC) := Lib.hid (by
          rw [hR, ← hd1.out, hdr, List.dropWhile_cons, if_pos hsp]; rfl)
        have hRz : (S1.extract 1 S1.size).size < S1.size := by rw [ByteArray.size_extract]; omega
        have hway : blankZ (S1[0].toNat : Int) = true ∨ (blankZ (S1[0].toNat : Int) = false ∧ ((S1[0].toNat : Int) == 44) = true) := by
          rcases sep_split hsp with h | h
          · exact .inr ⟨by rw [h]; rfl, by rw [h]; rfl⟩
          · exact .inl h
        replace hR := Lib.hid hR
        replace hdr := Lib.hid hdr
        replace hsp := Lib.hid hsp
        rcases hway with hb | ⟨hb, h44⟩
        all_goals
          go_wp2_with (go_at_call 34; refine (blankr_any _ _).mono ?_; rintro e w' ⟨rfl, rfl⟩; rw [hb])
          go_round
          case rel => exact ⟨_, rfl, by omega, hnew⟩
          case measure => simp only [strLen]; exact hRz
      · have hnb := notBl_of hsp
        have hb := blank_no hnb
        have hc44 : S1[0] ≠ 44 := by intro h; rw [h] at hsp; cases hsp
        have h44 : ((S1[0].toNat : Int) == 44) = false := u8c.2 hc44
        have hstep : Hid (splL s.toList = l.map candIs ++ (candsOf (oneU S1.toList).1 ++ splL (oneU S1.toList).2)) := Lib.hid (by
          have e2 : S1.toList.dropWhile sepC = S1.toList := by rw [hdr, List.dropWhile_cons, if_neg (by rw [hsp]; decide)]
          rw [hrun.out, splL_step S.toList, ← hd1.out, e2, if_neg (by rw [hdr]; simp)])
        replace hdr := Lib.hid hdr
        replace hsp := Lib.hid hsp
        replace hc44 := Lib.hid hc44
        clear hrun hd1
        go_wp2_with (go_at_call 34; refine (blankr_any _ _).mono ?_; rintro e w' ⟨rfl, rfl⟩; rw [hb])
        clear hb h44
        go_loop [4] (fun nv => ∃ k : Nat, nv = .int .i64 k ∧ k ≤ S1.size ∧ Hid (∀ c ∈ S1.toList.take k, notBl c = true)) (fun nv => S1.size - (intOf nv).toNat)
        case atStart => exact ⟨0, rfl, Nat.zero_le _, Lib.hid (by intro c hc; simp at hc)⟩
        case round =>
          obtain ⟨k, rfl, hk, hno⟩ := hrel
          by_cases hgo : ∃ h : k < S1.size, notBl S1[k] = true
          · obtain ⟨hkl, hb⟩ := hgo
            have hkI : (k : Int) < (S1.size : Int) := by omega
            have hb2 := blank_no hb
            have hnew : Hid (∀ c ∈ S1.toList.take (k + 1), notBl c = true) := Lib.hid (by
              rw [take_snoc S1 k hkl]
              intro c hc
              rcases List.mem_append.1 hc with hc | hc
              · exact hno.out c hc
              · rw [List.mem_singleton.1 hc]; exact hb)
            replace hb := Lib.hid hb
            go_wp2_with (go_at_call 34; refine (blankr_any _ _).mono ?_; rintro e w' ⟨rfl, rfl⟩; rw [hb2])
            go_round
            case rel => exact ⟨k + 1, by go_num, by omega, hnew⟩
            case measure => simp [intOf]; omega
          · have hk1 : 1 ≤ k := by
              by_cases h : k = 0
              · exfalso; subst h; exact hgo ⟨h0, hnb⟩
              · omega
            have hend : S1.toList.drop k = [] ∨ ∃ c r, S1.toList.drop k = c :: r ∧ notBl c = false := by
              by_cases hkl : k < S1.size
              · refine .inr ⟨_, _, drop_cons S1 k hkl, ?_⟩
                cases h : notBl S1[k]
                · rfl
                · exact absurd ⟨hkl, h⟩ hgo
              · exact .inl (drop_end S1 k (by omega))
            obtain ⟨t1, t2⟩ := take_is S1.toList k hno.out hend
            have hway : ((S1.size : Int) ≤ (k : Int)) ∨ ∃ h : k < S1.size, (k : Int) < (S1.size : Int) ∧ blankZ (S1[k].toNat : Int) = true := by
              by_cases hkl : k < S1.size
              · refine .inr ⟨hkl, by omega, ?_⟩
                cases h : blankZ (S1[k].toNat : Int)
                · exact absurd ⟨hkl, by unfold notBl isBl; rw [h]; rfl⟩ hgo
                · rfl
              · exact .inl (by omega)
            obtain ⟨U, hU⟩ : ∃ U, S1.extract 0 k = U := ⟨_, rfl⟩
            obtain ⟨S2, hS2⟩ : ∃ S2, S1.extract k S1.size = S2 := ⟨_, rfl⟩
            have hUl : Hid (U.toList = S1.toList.takeWhile notBl) := Lib.hid (by rw [← hU, toList_extract, t1, List.drop_zero])
            have hS2l : Hid (S2.toList = S1.toList.dropWhile notBl) := Lib.hid (by rw [← hS2, toList_from, t2])
            have hUs : U.size = k := by rw [← hU, ByteArray.size_extract]; omega
            have hS2z : S2.size + k ≤ S1.size := by rw [← hS2, ByteArray.size_extract]; omega
            have hkI1 : (1 : Int) ≤ (k : Int) := by omega
            have hkI2 : (k : Int) ≤ 900000 := by omega
            have hkI3 : (k : Int) ≤ (S1.size : Int) := by omega
            have hUhd : Hid (∃ r, U.toList = S1[0] :: r) := Lib.hid (by
              rw [hUl.out, hdr.out, List.takeWhile_cons, if_pos hnb]
              exact ⟨_, rfl⟩)
            have hk2 : k - 1 < U.size := by omega
            obtain ⟨d, hd⟩ : ∃ d, U[k - 1] = d := ⟨_, rfl⟩
            have hlastU : Hid (U.toList = (U.extract 0 (k - 1)).toList ++ [d]) := Lib.hid (by
              have h := last_ofS U (by omega)
              subst hUs
              rw [hd] at h; exact h)
            replace hU := Lib.hid hU
            replace hS2 := Lib.hid hS2
            replace hUs := Lib.hid hUs
            replace hnb := Lib.hid hnb
            replace hend := Lib.hid hend
            replace hno := Lib.hid hno
            replace hd := Lib.hid hd
            clear hgo t1 t2 hno hend
            rcases hway with q1 | ⟨hkl, q1, q2⟩
            all_goals
              go_upto_region 9 with (go_at_call 34; refine (blankr_any _ _).mono ?_; rintro e w' ⟨rfl, rfl⟩; rw [q2])
              go_upto_region 11 with fail
              rw [hU.out, hS2.out]
              have hUs2 := hUs.out
              by_cases h44 : d = 44
              · have e44 : ((U[k - 1].toNat : Int) == 44) = true := by rw [hd.out]; exact u8c.1 h44
                have hone : Hid (oneU S1.toList = ((trimC U.toList, []), S2.toList)) := Lib.hid (by
                  unfold oneU
                  rw [← hUl.out, ← hS2l.out, if_pos (by rw [hlastU.out, h44]; exact getLast_snoc _ _)])
                replace h44 := Lib.hid h44
                go_wp2_with fail
                go_loop [5] (fun uv => ∃ U1 : ByteArray, uv = .string U1 ∧ U1.size ≤ U.size ∧ Hid (trimC U1.toList = trimC U.toList)) (fun uv => strLen uv)
                case atStart => exact ⟨U, rfl, Nat.le_refl _, Lib.hid rfl⟩
                case round =>
                  obtain ⟨U1, rfl, hu1, htr⟩ := hrel
                  have hu0 : 0 < U1.size := by
                    by_cases h : 0 < U1.size
                    · exact h
                    · exfalso
                      have e : U1.toList = [] := (toList_empty_iff U1).2 (by omega)
                      obtain ⟨r, hr⟩ := hUhd.out
                      have h2 := htr.out
                      rw [e, hr] at h2
                      exact trimC_ne hc44.out h2.symm
                  have hem1 : U1.toList.isEmpty = false := by rw [extract1 U1 hu0]; rfl
                  have hne1 : (!U1.toList.isEmpty) = true := by rw [extract1 U1 hu0]; rfl
                  have zu1 : (1 : Int) ≤ (U1.size : Int) := by omega
                  have zu2 : U1.size ≤ 900000 := by omega
                  have hl1 := last_ofS U1 hu0
                  by_cases hq : U1[U1.size - 1] = 44
                  · have eq1 : ((U1[U1.size - 1].toNat : Int) == 44) = true := u8c.1 hq
                    have hnew : Hid (trimC (U1.extract 0 (U1.size - 1)).toList = trimC U.toList) := Lib.hid (by
                      rw [← htr.out, hl1, hq, trimC_end])
                    have hlz : (U1.extract 0 (U1.size - 1)).size < U1.size := by rw [ByteArray.size_extract]; omega
                    replace hq := Lib.hid hq
                    replace hl1 := Lib.hid hl1
                    go_wp2_with fail
                    go_round
                    case rel => exact ⟨_, rfl, by omega, hnew⟩
                    case measure => simp only [strLen]; exact hlz
                  · have eq1 : ((U1[U1.size - 1].toNat : Int) == 44) = false := u8c.2 hq
                    have hfix : U1.toList = trimC U.toList := by
                      rw [← htr.out, trimC_is]
                      rw [hl1]
                      intro e
                      rw [getLast_snoc] at e
                      exact hq (Option.some.inj e)
                    have hone2 : Hid (oneU S1.toList = ((U1.toList, ([] : List ByteArray).map (·.toList)), S2.toList)) := Lib.hid (by rw [hone.out, hfix]; rfl)
                    have hUz : U1.size ≤ s.size := by omega
                    have hNz : S2.size < S1.size := by omega
                    replace hq := Lib.hid hq
                    replace hl1 := Lib.hid hl1
                    replace hfix := Lib.hid hfix
                    clear htr hone
                    go_wp2_with fail
                    refine (refDescribe_any none 0 0 ([] : List ByteArray) wr ⟨none, 0, rfl, fun h => by cases h⟩ rfl (fun _ => rfl) (fun x hx => by cases hx) (Nat.zero_le _)).mono ?_
                    rintro e w6 (⟨hds, rfl, hb6⟩ | ⟨st, wv, hds, rfl, ho6, hb6⟩)
                    · have hnew : Hid (splL s.toList = l.map candIs ++ splL S2.toList) := Lib.hid (by
                        rw [hstep.out, hone2.out]
                        unfold candsOf
                        dsimp only
                        rw [hds.out]; rfl)
                      have hb7 : Below wr.heap.size wr (w6.alloc (.cells (candC e0 nilV d0) 27)) := hb6.alloc hb6.size _
                      have hoe := hown.below hb7
                      have hBe := hB.next hb7
                      clear hb6 hb7
                      go_wp2_with (refine wpList_store_newC rfl 27 _ _ rfl rfl (candC e0 nilV d0) 27 _ _ rfl rfl rfl (candInfo _ _ _) rfl (candCells _ _ _ _ _) ?_)
                      go_roundw
                      case rel => exact ⟨_, l, rfl, by omega, hnew, hsz, hoe, hBe⟩
                      case measure => simp only [strLen]; omega
                    · have hnew : Hid (splL s.toList = (l ++ [HCand.mk U1 wv ([] : List ByteArray) st]).map candIs ++ splL S2.toList) := Lib.hid (by
                        rw [hstep.out, hone2.out]
                        unfold candsOf
                        dsimp only
                        rw [hds.out, List.map_append, List.append_assoc]; rfl)
                      obtain ⟨pb, cb, rfl, -⟩ := ho6.read
                      have hnb0 : (w6.alloc (.cells (candC e0 (.slice pb ([] : List ByteArray).length cb) st) 27)).heap[w6.heap.size]? = some (.cells (candC e0 (.slice pb ([] : List ByteArray).length cb) st) 27 (0, 0)) := heap_alloc_new _ _
                      have y0 := cell_of_row _ _ 0 _ _ _ hnb0
                      have f0 := frozen_of_row _ _ 0 _ _ hnb0
                      simp only [candC, List.getElem?_toArray, List.getElem?_cons_zero, List.getElem?_cons_succ] at y0
                      change World.cell? (w6.alloc (.cells (candC e0 (.slice pb ([] : List ByteArray).length cb) st) 27)) _ = _ at y0
                      have hnb2 : (w6.alloc (.cells (candC U1 (.slice pb ([] : List ByteArray).length cb) st) 27)).heap[w6.heap.size]? = some (.cells (candC U1 (.slice pb ([] : List ByteArray).length cb) st) 27 (0, 0)) := heap_alloc_new _ _
                      have hkp : ∀ k, k < w6.heap.size → (w6.alloc (.cells (candC U1 (.slice pb ([] : List ByteArray).length cb) st) 27)).heap[k]? = w6.heap[k]? := fun k hk => heap_alloc_old _ _ hk
                      have lsz := hb6.size
                      have lsw := hB.size
                      have hoe : OwnC (w6.alloc (.cells (candC U1 (.slice pb ([] : List ByteArray).length cb) st) 27)) w.heap.size _ l := hown.chg (fun k _ hk => (hkp k (by omega)).trans (hb6.block k hk))
                      have hwe : OwnS (w6.alloc (.cells (candC U1 (.slice pb ([] : List ByteArray).length cb) st) 27)) w.heap.size 9 (.slice pb ([] : List ByteArray).length cb) ([] : List ByteArray) := (ho6.chg (fun k _ hk => hkp k hk)).low (by omega)
                      have hBe : Below w.heap.size w (w6.alloc (.cells (candC U1 (.slice pb ([] : List ByteArray).length cb) st) 27)) := (hB.next hb6).alloc (by omega) _
                      have lse : (w6.alloc (.cells (candC U1 (.slice pb ([] : List ByteArray).length cb) st) 27)).heap.size = w6.heap.size + 1 := by simp
                      replace hnb2 := Lib.hid hnb2
                      replace hkp := Lib.hid hkp
                      replace lse := Lib.hid lse
                      clear hb6 ho6 hnb0
                      go_wp2_with (first
                        | (refine wpList_store_newC rfl 27 _ _ rfl rfl (candC e0 (.slice pb ([] : List ByteArray).length cb) st) 27 _ _ rfl rfl rfl (candInfo _ _ _) rfl (candCells _ _ _ _ _) ?_)
                        | (refine wpList_load_row (w := (w6.alloc (.cells (candC U1 (.slice pb ([] : List ByteArray).length cb) st) 27))) rfl 27 _ rfl w6.heap.size rfl _ (candC U1 (.slice pb ([] : List ByteArray).length cb) st) _ _ hnb2.out Tryd.underlying27 rfl (candInfo _ _ _) ?_)
                        | (refine wpList_lit1 rfl _ rfl U1 (.slice pb ([] : List ByteArray).length cb) st rfl ?_)
                        | (refine wpList_pushC rfl _ _ rfl (HCand.mk U1 (.slice pb ([] : List ByteArray).length cb) ([] : List ByteArray) st) rfl (by rfl) hoe hwe (Below.refl w.heap.size _) (by rw [lse.out]; omega) (by omega) ?_; intro v' w8 hoz hbz))
                      go_roundw
                      case rel =>
                        refine ⟨_, _, rfl, ?_, hnew, Lib.hid ?_, hoz, hBe.trans hbz⟩
                        · rw [List.length_append]; show l.length + 1 + _ ≤ _; omega
                        · intro c hc
                          rcases List.mem_append.1 hc with hc | hc
                          · exact hsz.out c hc
                          · rw [List.mem_singleton.1 hc]; exact ⟨hUz, (fun x hx => by cases hx), (Nat.zero_le _)⟩
                      case measure => simp only [strLen]; omega
              · have e44 : ((U[k - 1].toNat : Int) == 44) = false := by rw [hd.out]; exact u8c.2 h44
                have hone : Hid (oneU S1.toList = ((U.toList, (dwL S2.toList).1), (dwL S2.toList).2.drop 1)) := Lib.hid (by
                  unfold oneU
                  rw [← hUl.out, ← hS2l.out, if_neg (by rw [hlastU.out, getLast_snoc]; exact fun e => h44 (Option.some.inj e))])
                replace h44 := Lib.hid h44
                go_wp2_with fail
                refine (words19_any S2 wr (by omega)).mono ?_
                rintro e w3 ⟨pv, nv, cv, wl, R, rfl, hwn, hwz0, hnilv, hwl1, hR, hoV, hb3⟩
                subst hwn
                have hone2 : Hid (oneU S1.toList = ((U.toList, wl.map (·.toList)), R.toList)) := Lib.hid (by rw [hone.out, ← hwl1.out, ← hR.out])
                have hUz : U.size ≤ s.size := by omega
                have hRz : R.size ≤ S2.size := by
                  rw [← size_toList, hR.out, List.length_drop]
                  have := dwL_len _ S2.toList (Nat.le_refl _)
                  rw [size_toList] at this
                  omega
                have hNz : R.size < S1.size := by omega
                have hwz : ∀ x ∈ wl, x.size ≤ 1000000 := by
                  intro x hx
                  have h1 : x.toList ∈ (dwL S2.toList).1 := by rw [← hwl1.out]; exact List.mem_map_of_mem hx
                  have h2 := dwL_mem _ _ (Nat.le_refl _) _ h1
                  rw [size_toList, size_toList] at h2
                  omega
                have hwl : wl.length ≤ 1000000 := by omega
                have hrdv := hoV.read
                have hownz := hown.below hb3
                have hBz := hB.next hb3
                clear hone hoV
                go_wp2_with fail
                refine (refDescribe_any pv wl.length cv wl w3 hrdv rfl hnilv.out hwz hwl).mono ?_
                rintro e w6 (⟨hds, rfl, hb6⟩ | ⟨st, wv, hds, rfl, ho6, hb6⟩)
                · have hnew : Hid (splL s.toList = l.map candIs ++ splL R.toList) := Lib.hid (by
                    rw [hstep.out, hone2.out]
                    unfold candsOf
                    dsimp only
                    rw [hds.out]; rfl)
                  have hb7 : Below w3.heap.size w3 (w6.alloc (.cells (candC e0 nilV d0) 27)) := hb6.alloc hb6.size _
                  have hoe := hownz.below hb7
                  have hBe := hBz.next hb7
                  clear hb6 hb7
                  go_wp2_with (refine wpList_store_newC rfl 27 _ _ rfl rfl (candC e0 nilV d0) 27 _ _ rfl rfl rfl (candInfo _ _ _) rfl (candCells _ _ _ _ _) ?_)
                  go_roundw
                  case rel => exact ⟨_, l, rfl, by omega, hnew, hsz, hoe, hBe⟩
                  case measure => simp only [strLen]; omega
                · have hnew : Hid (splL s.toList = (l ++ [HCand.mk U wv wl st]).map candIs ++ splL R.toList) := Lib.hid (by
                    rw [hstep.out, hone2.out]
                    unfold candsOf
                    dsimp only
                    rw [hds.out, List.map_append, List.append_assoc]; rfl)
                  obtain ⟨pb, cb, rfl, -⟩ := ho6.read
                  have hnb0 : (w6.alloc (.cells (candC e0 (.slice pb wl.length cb) st) 27)).heap[w6.heap.size]? = some (.cells (candC e0 (.slice pb wl.length cb) st) 27 (0, 0)) := heap_alloc_new _ _
                  have y0 := cell_of_row _ _ 0 _ _ _ hnb0
                  have f0 := frozen_of_row _ _ 0 _ _ hnb0
                  simp only [candC, List.getElem?_toArray, List.getElem?_cons_zero, List.getElem?_cons_succ] at y0
                  change World.cell? (w6.alloc (.cells (candC e0 (.slice pb wl.length cb) st) 27)) _ = _ at y0
                  have hnb2 : (w6.alloc (.cells (candC U (.slice pb wl.length cb) st) 27)).heap[w6.heap.size]? = some (.cells (candC U (.slice pb wl.length cb) st) 27 (0, 0)) := heap_alloc_new _ _
                  have hkp : ∀ k, k < w6.heap.size → (w6.alloc (.cells (candC U (.slice pb wl.length cb) st) 27)).heap[k]? = w6.heap[k]? := fun k hk => heap_alloc_old _ _ hk
                  have lsz := hb6.size
                  have lsw := hBz.size
                  have hoe : OwnC (w6.alloc (.cells (candC U (.slice pb wl.length cb) st) 27)) w.heap.size _ l := hownz.chg (fun k _ hk => (hkp k (by omega)).trans (hb6.block k hk))
                  have hwe : OwnS (w6.alloc (.cells (candC U (.slice pb wl.length cb) st) 27)) w.heap.size 9 (.slice pb wl.length cb) wl := (ho6.chg (fun k _ hk => hkp k hk)).low (by omega)
                  have hBe : Below w.heap.size w (w6.alloc (.cells (candC U (.slice pb wl.length cb) st) 27)) := (hBz.next hb6).alloc (by omega) _
                  have lse : (w6.alloc (.cells (candC U (.slice pb wl.length cb) st) 27)).heap.size = w6.heap.size + 1 := by simp
                  replace hnb2 := Lib.hid hnb2
                  replace hkp := Lib.hid hkp
                  replace lse := Lib.hid lse
                  clear hb6 ho6 hnb0
                  go_wp2_with (first
                    | (refine wpList_store_newC rfl 27 _ _ rfl rfl (candC e0 (.slice pb wl.length cb) st) 27 _ _ rfl rfl rfl (candInfo _ _ _) rfl (candCells _ _ _ _ _) ?_)
                    | (refine wpList_load_row (w := (w6.alloc (.cells (candC U (.slice pb wl.length cb) st) 27))) rfl 27 _ rfl w6.heap.size rfl _ (candC U (.slice pb wl.length cb) st) _ _ hnb2.out Tryd.underlying27 rfl (candInfo _ _ _) ?_)
                    | (refine wpList_lit1 rfl _ rfl U (.slice pb wl.length cb) st rfl ?_)
                    | (refine wpList_pushC rfl _ _ rfl (HCand.mk U (.slice pb wl.length cb) wl st) rfl (by rfl) hoe hwe (Below.refl w.heap.size _) (by rw [lse.out]; omega) (by omega) ?_; intro v' w8 hoz hbz))
                  go_roundw
                  case rel =>
                    refine ⟨_, _, rfl, ?_, hnew, Lib.hid ?_, hoz, hBe.trans hbz⟩
                    · rw [List.length_append]; show l.length + 1 + _ ≤ _; omega
                    · intro c hc
                      rcases List.mem_append.1 hc with hc | hc
                      · exact hsz.out c hc
                      · rw [List.mem_singleton.1 hc]; exact ⟨hUz, hwz, hwl⟩
                  case measure => simp only [strLen]; omega
end Go.Proofs.YtbejimncmfeggaaDoor
