/- The law's own digits (layer 4): bytes that are laid ahead. -/
import Derived.Test.YtfbmfibghgkgpaaNumS
import Derived.Test.YtfbmfibghgkgpaaFourR
namespace Go.Proofs.Ytfbmfibghgkgpaa
open Go.RowKit
set_option linter.unusedVariables false

/-- 's = append(s, x...)', s and x the call's own bytes. -/
theorem wpList_extendB {P : Program} {T E : TypeId} {z : Value} {b : Nat} (ty : ElemTy P T E z b) {ops : Array Oper} {rest : List Oper} {o : Oper} {a : Act} {Q : Exit → Act → World → Prop}
    (hgd : o.guard = none) (s x : Operand) (ho : o.op = .call { callee := .builtin .append, args := #[s, x], argTypes := #[T, T] })
    {W0 w0 : World} {B B2 : Nat} {v u : Value} {l m : List UInt8} (hs : a.eval s = v) (hx : a.eval x = u)
    (hown : OwnB w0 B E v l) (hsrc : OwnB w0 B2 E u m) (hbel : Below B W0 w0) (hB : B ≤ w0.heap.size) (h63 : l.length + m.length ≤ maxLen) (hsz : (l.length + m.length) * b ≤ 140737488355328)
    (h : ∀ v' w', OwnB w' B E v' (l ++ m) → Below B W0 w' → wpList P ops Q rest (a.put o.dst v') w') : wpList P ops Q (o :: rest) a w0 := by
  obtain ⟨i, hi, hz, hs1, hb1⟩ := ty.i
  rcases hsrc.2 with ⟨hu, hn⟩ | ⟨g, cap, cur, hu, hg, hh, hcap, hml, hcs, hcur⟩
  · have hm : m = [] := List.eq_nil_of_length_eq_zero hn
    refine wpList_append_own_none hgd s x T ho B E i 1 ty.u hi v l.length _ hs hown (hx.trans hu) ?_
    refine h v w0 ?_ hbel
    rw [hm, List.append_nil]; exact hown
  · refine wpList_append_own w0 hgd s x T ho B E i z 1 b ty.u hi hz hs1 hb1 ty.z (by decide) v l.length _ hs hown ⟨g, 0, none⟩ m.length cap (m.map byteV) (hx.trans hu) (by simp)
      (fun j y hj => World.ownsRow.cells hsrc (by rw [hu]; rfl) j y hj) (by intro y hy; obtain ⟨t, _, rfl⟩ := List.mem_map.1 hy; rfl) h63 hsz hB ?_
    intro v' w' hown' hgrow _
    refine h v' w' ?_ (hbel.grown hgrow hB (fun k hk => (hown.lt k hk).1))
    simpa [OwnB] using hown'
theorem OwnB.one {w : World} {B : Nat} {E : TypeId} {n : Int} (c : UInt8) (hn : n = (c.toNat : Int)) (hB : B ≤ w.heap.size) : OwnB (w.alloc (.cells #[.int .u8 n] E)) B E (.slice (some ⟨w.heap.size, 0, none⟩) 1 1) [c] := by
  subst hn
  exact ⟨rfl, .inr ⟨w.heap.size, 1, #[.int .u8 (c.toNat : Int)], rfl, hB, heap_alloc_new w _, Nat.le_refl _, by unfold maxLen; omega, rfl, rfl⟩⟩
theorem OwnB.form {w : World} {B : Nat} {E : TypeId} {v : Value} {l : List UInt8} (h : OwnB w B E v l) : ∃ a c, v = .slice a l.length c := by
  rcases h.2 with ⟨rfl, hn⟩ | ⟨g, cap, cur, rfl, _⟩
  · exact ⟨none, 0, by rw [hn]⟩
  · exact ⟨_, cap, rfl⟩
def lenOf : Value → Nat
  | .slice _ l _ => l
  | _ => 0
theorem OwnB.alloc {w : World} {B : Nat} {E : TypeId} {v : Value} {l : List UInt8} (h : OwnB w B E v l) (o : Obj) : OwnB (w.alloc o) B E v l := World.ownsRow.alloc h o
theorem ty8n : ElemTy Try.prog 33 5 (.int .u8 0) 1 := .mk' Try.underlying33 (by kernel_rfl) rfl
theorem hexC_toNat {d : Nat} (h : d < 10) : ((hexC d).toNat : Int) = 48 + (d : Int) := by
  have : ∀ d : Fin 10, ((hexC d.val).toNat : Int) = 48 + (d.val : Int) := by decide +kernel
  exact this ⟨d, h⟩
theorem digL_step10 (m : Nat) : digL 10 m = (if m / 10 = 0 then [] else digL 10 (m / 10)) ++ [hexC (m % 10)] := by
  by_cases h : m < 10
  · rw [digL_small h, if_pos (Nat.div_eq_of_lt h), Nat.mod_eq_of_lt h]; rfl
  · rw [digL_big h (by decide), if_neg (by omega)]
/-- How the digits stand in the middle of the loop. -/
def DigN (n m : Nat) (t : List UInt8) : Prop := (t = [] ∧ m = n) ∨ (t ≠ [] ∧ (if m = 0 then [] else digL 10 m) ++ t = digL 10 n)
theorem DigN.step {n m : Nat} {t : List UInt8} (h : DigN n m t) (hm : 0 < m ∨ t = []) : DigN n (m / 10) (hexC (m % 10) :: t) := by
  refine .inr ⟨by simp, ?_⟩
  rcases h with ⟨rfl, rfl⟩ | ⟨h1, h2⟩
  · exact (digL_step10 m).symm
  · have h0 : m ≠ 0 := by rcases hm with hm | hm; omega; exact absurd hm h1
    rw [if_neg h0, digL_step10 m] at h2
    rw [← h2]; simp
set_option maxRecDepth 100000 in
set_option maxHeartbeats 2000000 in
theorem numDigits_any (n k : Nat) (w : World) (hn : n < 9223372036854775808) (hk : k ≤ 30) :
    Calls Try.prog 14 #[.int .i64 (n : Int), .int .i64 (k : Int)] w (RetS w (List.replicate k 48 ++ digL 10 n)) := by
  go_enter Try.func14, Try.ntmps14
  go_wp2_with fail
  go_loopw [0, 5] (fun nv sv wr => ∃ (m : Nat) (t : List UInt8), nv = .int .i64 m ∧ Hid (m < 9223372036854775808) ∧ t.length ≤ 63 ∧ Hid (m < 2 ^ (63 - t.length)) ∧ Hid (DigN n m t) ∧ OwnB wr w.heap.size 5 sv t ∧ Below w.heap.size w wr) (fun nv sv _ => 2 * (intOf nv).toNat + (1 - lenOf sv))
  case atStart => exact ⟨n, [], rfl, Lib.hid hn, Nat.zero_le _, Lib.hid (by show n < 2 ^ 63; omega), Lib.hid (.inl ⟨rfl, rfl⟩), OwnB.nil _ _ _, Below.refl _ _⟩
  case round =>
    obtain ⟨m, t, rfl, hm, hts, hsz, hg, hown, hbel⟩ := hrel
    obtain ⟨va, vc, rfl⟩ := hown.form
    have hwz := hbel.size
    by_cases hgo : 0 < m ∨ t = []
    · have hmM := hm.out
      have hnew := Lib.hid (hg.out.step hgo)
      have t1 : (m : Int) % 10 = ((m % 10 : Nat) : Int) := by omega
      have t3 : (m : Int) / 10 = ((m / 10 : Nat) : Int) := by omega
      have t5 : (m : Int).tmod 10 = ((m % 10 : Nat) : Int) := by rw [Int.tmod_eq_emod_of_nonneg (by omega)]; exact t1
      have t6 : (m : Int).tdiv 10 = ((m / 10 : Nat) : Int) := by rw [Int.tdiv_eq_ediv_of_nonneg (by omega)]; exact t3
      have hmea : Hid (2 * (m / 10) < 2 * m + (1 - t.length)) := Lib.hid (by
        rcases hgo with h | h
        · omega
        · rw [h]; simp; omega)
      have hsz2 : t.length ≤ 62 := by
        rcases hgo with h | h
        · have := hsz.out
          by_cases hq : t.length = 63
          · rw [hq] at this; simp at this; omega
          · omega
        · rw [h]; simp
      have hsz3 : Hid (m / 10 < 2 ^ (63 - (t.length + 1))) := Lib.hid (by
        have h1 := hsz.out
        have h2 : 63 - t.length = (63 - (t.length + 1)) + 1 := by omega
        rw [h2, Nat.pow_succ] at h1
        omega)
      have hd10 : m % 10 < 10 := Nat.mod_lt _ (by decide)
      have hqm : Hid (m / 10 < 9223372036854775808) := Lib.hid (by omega)
      have hgoI : (0 : Int) < (m : Int) ∨ (m = 0 ∧ t = []) := by
        by_cases h0 : 0 < m
        · exact .inl (by omega)
        · exact .inr ⟨by omega, hgo.resolve_left h0⟩
      clear hgo hmM
      rcases hgoI with g1 | ⟨rfl, rfl⟩
      · generalize hdd : m % 10 = d at hd10 t1 t5 hnew
        generalize hqq : m / 10 = q at t3 t6 hnew hsz3 hmea hqm
        have hx := hexC_toNat hd10
        have e1 : IntKind.u8.wrap (48 + (d : Int)) = 48 + (d : Int) := by simp [IntKind.wrap, IntKind.bits, IntKind.signed]; omega
        have e3 : IntKind.i64.wrap (48 + (d : Int)) = 48 + (d : Int) := IntWalk.i64_in _ (by omega)
        have e4 : IntKind.i64.wrap (d : Int) = (d : Int) := IntWalk.i64_in _ (by omega)
        have e5 : IntKind.i64.wrap (q : Int) = (q : Int) := IntWalk.i64_in _ (by have := hqm.out; omega)
        replace hx := Lib.hid hx
        replace hdd := Lib.hid hdd
        replace hqq := Lib.hid hqq
        go_wp2_with (at_builtin; refine wpList_extendB ty8n rfl _ _ rfl rfl rfl (OwnB.one (hexC d) hx.out.symm hwz) (hown.alloc _) (hbel.alloc hwz _) (by simp; omega) (by unfold maxLen; simp; omega) (by simp; omega) ?_; intro v' w' ho' hb'; obtain ⟨va', vc', rfl⟩ := ho'.form)
        go_roundw
        case rel => exact ⟨q, hexC d :: t, rfl, hqm, by simp; omega, hsz3, hnew, ho', hb'⟩
        case measure => have := hmea.out; simp [intOf, lenOf]; omega
      · have hx := hexC_toNat (d := 0) (by decide)
        replace hx := Lib.hid hx
        clear t1 t3 t5 t6
        go_wp2_with (at_builtin; refine wpList_extendB ty8n rfl _ _ rfl rfl rfl (OwnB.one (n := 48) (hexC 0) hx.out.symm hwz) (hown.alloc _) (hbel.alloc hwz _) (by simp; omega) (by unfold maxLen; simp) (by simp) ?_; intro v' w' ho' hb'; obtain ⟨va', vc', rfl⟩ := ho'.form)
        go_roundw
        case rel => exact ⟨0, [hexC 0], rfl, hqm, by simp, hsz3, hnew, ho', hb'⟩
        case measure => simp [intOf, lenOf]
    · have hm0 : m = 0 := by omega
      subst hm0
      have hne : t ≠ [] := fun h => hgo (.inr h)
      have hfin : Hid (t = digL 10 n) := Lib.hid (by
        rcases hg.out with ⟨h1, _⟩ | ⟨_, h2⟩
        · exact absurd h1 hne
        · rw [if_pos rfl] at h2; exact h2)
      have hl0 : ((t.length : Int) == 0) = false := by
        have := List.length_pos_iff.2 hne
        simp only [beq_eq_false_iff_ne, ne_eq]; omega
      have hkI : (k : Int) ≤ 30 := by omega
      replace hne := Lib.hid hne
      clear hgo hg hsz
      go_wp2_with fail
      go_loopw [5, 6] (fun sv iv wr => ∃ (j : Nat) (x : List UInt8), iv = .int .i64 j ∧ j ≤ k ∧ x.length ≤ 63 + j ∧ Hid (x = List.replicate j 48 ++ digL 10 n) ∧ OwnB wr w.heap.size 5 sv x ∧ Below w.heap.size w wr) (fun _ iv _ => k - (intOf iv).toNat)
      case atStart => exact ⟨0, t, rfl, Nat.zero_le _, by omega, Lib.hid (by rw [hfin.out]; rfl), hown, hbel⟩
      case round =>
        clear hbel hown hwz
        obtain ⟨j, x, rfl, hj, hxs, hx, hown, hbel⟩ := hrel
        have hwz := hbel.size
        by_cases hlt : j < k
        · obtain ⟨va2, vc2, rfl⟩ := hown.form
          have hltI : (j : Int) < (k : Int) := by omega
          have hnew : Hid (48 :: x = List.replicate (j + 1) 48 ++ digL 10 n) := Lib.hid (by rw [hx.out, List.replicate_succ]; rfl)
          go_wp2_with (at_builtin; refine wpList_extendB ty8n rfl _ _ rfl rfl rfl (OwnB.one (n := 48) 48 rfl hwz) (hown.alloc _) (hbel.alloc hwz _) (by simp; omega) (by unfold maxLen; simp; omega) (by simp; omega) ?_; intro v' w' ho' hb')
          refine ⟨?_, ?_⟩
          · (repeat apply Exists.intro)
            exact ⟨⟨j + 1, 48 :: x, by go_num, by omega, by simp; omega, hnew, ho', hb'⟩, rfl⟩
          · simp [intOf]; omega
        · have hge : (k : Int) ≤ (j : Int) := by omega
          obtain rfl : j = k := by omega
          have hcv := conv_own (P := Try.prog) (S := 9) Try.underlying33 Try.underlying5 Try.underlying9 hown
          go_wp2_with fail
          go_ret
          exact retS_mk hx.out hbel
end Go.Proofs.Ytfbmfibghgkgpaa
