/- The contracts of the references' Write for addresses of four bytes and of eight pieces, and for hosts. -/
import Derived.Test.YtdlgpmihjecdlaaDoorRefText
import Derived.Test.YtdlgpmihjecdlaaDoorHostW
namespace Go.Proofs.YtdlgpmihjecdlaaDoor
open Go.RowKit
set_option linter.unusedVariables false

theorem text09_int (z : Int) (w : World) (h0 : 0 ≤ z) (h1 : z < 256) : Calls Tryd.prog 95 #[.int .i64 z] w (RetS w (Lib.decDigits z.toNat)) := by
  obtain ⟨n, rfl⟩ := Int.eq_ofNat_of_zero_le h0
  exact text09_any 256 n w (by omega) (by omega)
theorem decDigits3 {t : ByteArray} {n : Nat} (h : t.toList = Lib.decDigits n) (hn : n < 256) : t.size ≤ 3 := by
  rw [← size_toList, h]; exact decDigits_small _ hn
set_option maxHeartbeats 1000000 in
theorem fourR_any (n : Nat) (hn : n < 4294967296) (w : World) :
    Calls Tryd.prog 86 #[.int .u32 (n : Int)] w (RetS w (fourL n)) := by
  have hnI : (n : Int) < 4294967296 := by omega
  have hbel : Below w.heap.size w w := Below.refl _ _
  go_enter Tryd.func86, Tryd.ntmps86
  go_wp2_with fail
  refine (text09_int _ _ (by omega) (by omega)).mono ?_
  rintro e w1 ⟨t1, rfl, ht1, hb⟩
  replace hbel := hbel.next hb
  clear hb
  have hz1 := decDigits3 ht1.out (by omega)
  go_wp2_with fail
  refine (text09_int _ _ (by omega) (by omega)).mono ?_
  rintro e w2 ⟨t2, rfl, ht2, hb⟩
  replace hbel := hbel.next hb
  clear hb
  have hz2 := decDigits3 ht2.out (by omega)
  go_wp2_with fail
  refine (text09_int _ _ (by omega) (by omega)).mono ?_
  rintro e w3 ⟨t3, rfl, ht3, hb⟩
  replace hbel := hbel.next hb
  clear hb
  have hz3 := decDigits3 ht3.out (by omega)
  go_wp2_with fail
  refine (text09_int _ _ (by omega) (by omega)).mono ?_
  rintro e w4 ⟨t4, rfl, ht4, hb⟩
  replace hbel := hbel.next hb
  clear hb
  have hz4 := decDigits3 ht4.out (by omega)
  go_wp2_with fail
  go_ret
  refine retS ?_ hbel
  have e1 : ((n : Int) / 16777216).toNat = n / 16777216 % 256 := by omega
  have e2 : ((n : Int) / 65536 % 256).toNat = n / 65536 % 256 := by omega
  have e3 : ((n : Int) / 256 % 256).toNat = n / 256 % 256 := by omega
  have e4 : ((n : Int) % 256).toNat = n % 256 := by omega
  have d : (ByteArray.mk #[46]).toList = [46] := toList_mk _
  simp only [toList_append, ht1.out, ht2.out, ht3.out, ht4.out, d, e1, e2, e3, e4, fourL, fourP, byte4]
  simp

/-- The reference's way to the longest run of noughts. -/
def refGo : Nat → List Nat → Nat → Nat → Nat → Nat × Nat
  | 0, _, _, fr, m => (fr, m)
  | f + 1, l, i, fr, m => if i < 8 then (if m < zrun (l.drop i) then refGo f l (i + 1) i (zrun (l.drop i)) else refGo f l (i + 1) fr m) else (fr, m)
theorem refGo_end (f : Nat) (l : List Nat) (i b e : Nat) (h : 8 ≤ i) : refGo f l i b e = (b, e) := by
  cases f with
  | zero => rfl
  | succ f => rw [refGo, if_neg (by omega)]
theorem refGo_congr {l m : List Nat} (h : ∀ i, zrun (l.drop i) = zrun (m.drop i)) : ∀ f i b e, refGo f l i b e = refGo f m i b e
  | 0, _, _, _ => rfl
  | f + 1, i, b, e => by simp only [refGo, h, refGo_congr h f]
theorem runGo_congr {l m : List Nat} (h : ∀ i, zrun (l.drop i) = zrun (m.drop i)) : ∀ f i b e, runGo f l i b e = runGo f m i b e
  | 0, _, _, _ => rfl
  | f + 1, i, b, e => by simp only [runGo, h, runGo_congr h f]
def bitN (x : Nat) : Nat := if x = 0 then 0 else 1
theorem zrun_bit (l : List Nat) : zrun (l.map bitN) = zrun l := by
  induction l with
  | nil => rfl
  | cons x r ih =>
    simp only [List.map_cons, zrun, ih, bitN]
    by_cases h : x = 0 <;> simp [h]
theorem ref_all : ∀ a b c d e f g h : Fin 2, refGo 8 [a.val, b.val, c.val, d.val, e.val, f.val, g.val, h.val] 0 8 1 =
    (if (runL [a.val, b.val, c.val, d.val, e.val, f.val, g.val, h.val]).1 < (runL [a.val, b.val, c.val, d.val, e.val, f.val, g.val, h.val]).2 then ((runL [a.val, b.val, c.val, d.val, e.val, f.val, g.val, h.val]).1, (runL [a.val, b.val, c.val, d.val, e.val, f.val, g.val, h.val]).2 - (runL [a.val, b.val, c.val, d.val, e.val, f.val, g.val, h.val]).1) else (8, 1)) := by decide +kernel
theorem run_all : ∀ a b c d e f g h : Fin 2, (runL [a.val, b.val, c.val, d.val, e.val, f.val, g.val, h.val]).1 ≤ (runL [a.val, b.val, c.val, d.val, e.val, f.val, g.val, h.val]).2 ∧ (runL [a.val, b.val, c.val, d.val, e.val, f.val, g.val, h.val]).2 ≤ 8 := by decide +kernel
theorem bitN_lt (x : Nat) : bitN x < 2 := by unfold bitN; split <;> decide
theorem ref_run {l : List Nat} (h : Six l) : refGo 8 l 0 8 1 = if (runL l).1 < (runL l).2 then ((runL l).1, (runL l).2 - (runL l).1) else (8, 1) := by
  have hd : ∀ i, zrun (l.drop i) = zrun ((l.map bitN).drop i) := fun i => by rw [← List.map_drop, zrun_bit]
  have h1 : runL l = runL (l.map bitN) := runGo_congr hd _ _ _ _
  rw [refGo_congr hd, h1]
  match l, h.len with
  | [a, b, c, d, e, f, g, x], _ => exact ref_all ⟨bitN a, bitN_lt a⟩ ⟨bitN b, bitN_lt b⟩ ⟨bitN c, bitN_lt c⟩ ⟨bitN d, bitN_lt d⟩ ⟨bitN e, bitN_lt e⟩ ⟨bitN f, bitN_lt f⟩ ⟨bitN g, bitN_lt g⟩ ⟨bitN x, bitN_lt x⟩
theorem run_bd {l : List Nat} (h : Six l) : (runL l).1 ≤ (runL l).2 ∧ (runL l).2 ≤ 8 := by
  have hd : ∀ i, zrun (l.drop i) = zrun ((l.map bitN).drop i) := fun i => by rw [← List.map_drop, zrun_bit]
  have h1 : runL l = runL (l.map bitN) := runGo_congr hd _ _ _ _
  rw [h1]
  match l, h.len with
  | [a, b, c, d, e, f, g, x], _ => exact run_all ⟨bitN a, bitN_lt a⟩ ⟨bitN b, bitN_lt b⟩ ⟨bitN c, bitN_lt c⟩ ⟨bitN d, bitN_lt d⟩ ⟨bitN e, bitN_lt e⟩ ⟨bitN f, bitN_lt f⟩ ⟨bitN g, bitN_lt g⟩ ⟨bitN x, bitN_lt x⟩

/-- How the text stands at piece i. -/
def LastR (t : ByteArray) (b e i : Nat) : Prop := (i = 0 ∧ t.toList.isEmpty = true) ∨ (0 < i ∧ ∃ h : 0 < t.size, (t[t.size - 1].toNat = 58 ↔ (i = e ∧ b < e)))
theorem hexC_58 : ∀ d : Fin 16, ¬ (hexC d.val).toNat = 58 := by decide +kernel
theorem hexF_last : ∀ f n, ∃ r d, hexF (f + 1) n = r ++ [hexC d] ∧ d < 16
  | f, n => by
    by_cases h : n < 16
    · exact ⟨[], n, by rw [hexF, if_pos h]; rfl, h⟩
    · exact ⟨hexF f (n / 16), n % 16, by rw [hexF, if_neg h], by omega⟩
theorem last_byte {t : ByteArray} {r : List UInt8} {c : UInt8} (h : t.toList = r ++ [c]) : ∃ h : 0 < t.size, t[t.size - 1] = c := by
  have hz := congrArg List.length h
  rw [size_toList, List.length_append] at hz
  have h0 : 0 < t.size := by simp at hz; omega
  refine ⟨h0, ?_⟩
  have : t.toList[t.size - 1]? = some t[t.size - 1] := by rw [List.getElem?_eq_getElem (by rw [size_toList]; omega), toList_get t (t.size - 1) (by omega)]
  rw [h, List.getElem?_append_right (by simp at hz; omega)] at this
  have e : t.size - 1 - r.length = 0 := by simp at hz; omega
  rw [e] at this
  exact (Option.some.inj this).symm

set_option maxRecDepth 100000 in
set_option maxHeartbeats 2000000 in
theorem sixR_any (l : List Nat) (h : Six l) (w : World) :
    Calls Tryd.prog 87 #[sixV l] w (RetS w (sixL l)) := by
  have hcell : ∀ i, i < 8 → (w.alloc (.cells (sixCells l) 24)).cell? ⟨w.heap.size, i, none⟩ = some (.int .u16 ((pc l i : Nat) : Int)) := by
    intro i hi
    rw [World.cell?_alloc_at _ _ _ _ rfl]; exact (h.at i hi).2
  have hbel0 : Below w.heap.size w (w.alloc (.cells (sixCells l) 24)) := (Below.refl _ _).alloc (Nat.le_refl _) _
  have hlt0 : w.heap.size < (w.alloc (.cells (sixCells l) 24)).heap.size := by simp
  have hrr := Lib.hid (ref_run h)
  replace hcell := Lib.hid hcell
  unfold sixV
  go_enter Tryd.func87, Tryd.ntmps87
  go_wp2_with fail
  generalize w.alloc (.cells (sixCells l) 24) = wa at hcell hbel0 hlt0 ⊢
  go_loop [3, 4, 5] (fun fv mv iv => ∃ (f i fr m : Nat), fv = .int .i64 fr ∧ mv = .int .i64 m ∧ iv = .int .i64 i ∧ i ≤ 8 ∧ fr ≤ 8 ∧ m ≤ 8 ∧ 8 ≤ i + f ∧ Hid (refGo f l i fr m = refGo 8 l 0 8 1)) (fun _ _ i => 8 - (intOf i).toNat)
  case atStart => exact ⟨8, 0, 8, 1, rfl, rfl, rfl, by omega, by omega, by omega, by omega, rfl⟩
  case round =>
    obtain ⟨f, i, fr, m, rfl, rfl, rfl, hi, hfr, hm, hf, hr⟩ := hrel
    by_cases hlt : i < 8
    · obtain ⟨f, rfl⟩ : ∃ g, f = g + 1 := ⟨f - 1, by omega⟩
      have hlt2 : (i : Int) < 8 := by omega
      have hzl : i + zrun (l.drop i) ≤ 8 := by
        have := zrun_le (l.drop i); rw [List.length_drop, h.len] at this; omega
      generalize hz : zrun (l.drop i) = z at hzl
      have hr2 : Hid (refGo 8 l 0 8 1 = if m < z then refGo f l (i + 1) i z else refGo f l (i + 1) fr m) := Lib.hid (by
        rw [← hr.out, refGo, if_pos hlt, hz])
      replace hz := Lib.hid hz
      clear hr
      go_wp2_with fail
      go_loop [6] (fun jv => ∃ j : Nat, jv = .int .i64 j ∧ i + j ≤ 8 ∧ Hid (j + zrun (l.drop (i + j)) = z)) (fun j => 8 - (intOf j).toNat)
      case atStart => exact ⟨0, rfl, by omega, Lib.hid (by rw [Nat.add_zero, hz.out]; omega)⟩
      case round =>
        obtain ⟨j, rfl, hj8, hj⟩ := hrel
        have e9 : (i : Int) + (j : Int) = ((i + j : Nat) : Int) := by omega
        by_cases hgo : i + j < 8 ∧ pc l (i + j) = 0
        · obtain ⟨hj1, hj0⟩ := hgo
          have hc := hcell.out (i + j) hj1
          have hdr := Lib.hid (drop_getD (l := l) (i + j) (by rw [h.len]; exact hj1))
          rw [hj0] at hc
          have hj1I : (i : Int) + (j : Int) < 8 := by omega
          replace hj0 := Lib.hid hj0
          replace e9 := Lib.hid e9
          go_wp2_with fail
          go_round
          case rel => exact ⟨j + 1, by go_num, by omega, Lib.hid (by rw [← hj.out, hdr.out, zrun, if_pos hj0.out, ← Nat.add_assoc]; omega)⟩
          case measure => simp [intOf]; omega
        · have hend : Hid (j = z) := Lib.hid (by
            rw [← hj.out]
            by_cases h8 : i + j < 8
            · rw [drop_getD (i + j) (by rw [h.len]; exact h8), zrun, if_neg (fun e => hgo ⟨h8, e⟩)]; rfl
            · rw [List.drop_of_length_le (by rw [h.len]; omega)]; rfl)
          have hor : ((i : Int) + (j : Int) < 8 ∧ wa.cell? ⟨w.heap.size, i + j, none⟩ = some (.int .u16 ((pc l (i + j) : Nat) : Int)) ∧ (((pc l (i + j) : Nat) : Int) == 0) = false) ∨ 8 ≤ (i : Int) + (j : Int) := by
            by_cases h8 : i + j < 8
            · exact .inl ⟨by omega, hcell.out (i + j) h8, by simp only [beq_eq_false_iff_ne, ne_eq]; intro e; exact hgo ⟨h8, by omega⟩⟩
            · exact .inr (by omega)
          clear hgo
          replace e9 := Lib.hid e9
          have hcs : ((m : Int) < (j : Int) ∧ Hid (refGo f l (i + 1) i j = refGo 8 l 0 8 1)) ∨ ((j : Int) ≤ (m : Int) ∧ Hid (refGo f l (i + 1) fr m = refGo 8 l 0 8 1)) := by
            by_cases ht : m < j
            · exact .inl ⟨by omega, Lib.hid (by rw [hr2.out, ← hend.out, if_pos ht])⟩
            · exact .inr ⟨by omega, Lib.hid (by rw [hr2.out, ← hend.out, if_neg ht])⟩
          rcases hor with ⟨h8, hc, hne⟩ | h8 <;> rcases hcs with ⟨t1, hnew⟩ | ⟨t1, hnew⟩
          all_goals
            go_wp2_with fail
            go_round
            case rel => first
              | exact ⟨f, i + 1, i, j, rfl, rfl, by go_num, by omega, by omega, by omega, by omega, hnew⟩
              | exact ⟨f, i + 1, fr, m, rfl, rfl, by go_num, by omega, by omega, by omega, by omega, hnew⟩
            case measure => simp [intOf]; omega
    · have hfin : Hid (refGo 8 l 0 8 1 = (fr, m)) := Lib.hid (by rw [← hr.out, refGo_end _ _ _ _ _ (by omega)])
      have hge : (8 : Int) ≤ (i : Int) := by omega
      clear hr
      obtain ⟨hbe, he8⟩ := run_bd h
      have hL : Hid (sixL l = sixGo 8 l (runL l).1 (runL l).2 0) := rfl
      have hfm := Lib.hid (hfin.out.symm.trans hrr.out)
      generalize (runL l).1 = b at hL hbe hfm
      generalize (runL l).2 = e at hL hbe he8 hfm
      clear hrr hfin
      go_wp2_with fail
      go_loopw [7, 8] (fun sv iv wr => ∃ (f i : Nat) (t : ByteArray), sv = .string t ∧ iv = .int .i64 i ∧ i ≤ 8 ∧ 8 ≤ i + f ∧ t.size ≤ 6 * i ∧ Hid (t.toList ++ sixGo f l b e i = sixL l) ∧ Hid (LastR t b e i) ∧ (b < e → i ≤ b ∨ e ≤ i) ∧ Below w.heap.size w wr ∧ Hid (∀ i, i < 8 → wr.cell? ⟨w.heap.size, i, none⟩ = some (.int .u16 ((pc l i : Nat) : Int)))) (fun _ i _ => 8 - (intOf i).toNat)
      case atStart => exact ⟨8, 0, _, rfl, rfl, by omega, by omega, Nat.zero_le _, Lib.hid (by rw [hL.out, show (ByteArray.mk #[]).toList = [] from toList_mk _]; rfl), Lib.hid (.inl ⟨rfl, by rw [show (ByteArray.mk #[]).toList = [] from toList_mk _]; rfl⟩), by omega, hbel0, hcell⟩
      case round =>
        obtain ⟨f, i, t, rfl, rfl, hi, hf, hts, hr, hlast, hout, hbel, hcl⟩ := hrel
        clear hbel0 hlt0 hcell hL
        by_cases hlt : i < 8
        · obtain ⟨f, rfl⟩ : ∃ g, f = g + 1 := ⟨f - 1, by omega⟩
          have hltI : (i : Int) < 8 := by omega
          by_cases hA : i = b ∧ b < e
          · have hfm2 : fr = b ∧ m = e - b := by
              have := hfm.out; rw [if_pos hA.2] at this; exact ⟨congrArg Prod.fst this, congrArg Prod.snd this⟩
            have g1 : ((i : Int) == (fr : Int)) = true := by rw [hfm2.1, hA.1]; simp
            have g2 : (i : Int) + (m : Int) = (e : Int) := by rw [hfm2.2, hA.1]; omega
            have hnew : Hid ((t ++ ⟨#[58, 58]⟩).toList ++ sixGo f l b e e = sixL l) := Lib.hid (by rw [← hr.out, sixGo, if_pos hlt, if_pos hA, toList_append, show (ByteArray.mk #[58, 58]).toList = [58, 58] from toList_mk _]; simp)
            have hl2 : Hid (LastR (t ++ ⟨#[58, 58]⟩) b e e) := Lib.hid (by
              obtain ⟨h0, hc⟩ := last_byte (t := t ++ ⟨#[58, 58]⟩) (r := t.toList ++ [58]) (c := 58) (by rw [toList_append, show (ByteArray.mk #[58, 58]).toList = [58, 58] from toList_mk _]; simp)
              exact .inr ⟨by omega, h0, by rw [hc]; exact ⟨fun _ => ⟨rfl, hA.2⟩, fun _ => rfl⟩⟩)
            have hz : (t ++ ⟨#[58, 58]⟩ : ByteArray).size = t.size + 2 := ByteArray.size_append
            have hie : i < e := by omega
            have hmI : (m : Int) ≤ 8 := by omega
            replace hz := Lib.hid hz
            replace g2 := Lib.hid g2
            clear hA hfm2 hlast
            go_wp2_with fail
            go_roundw
            case rel => exact ⟨f, e, _, rfl, by rw [g2.out], by omega, by omega, by have := hz.out; omega, hnew, hl2, fun _ => .inr (Nat.le_refl _), hbel, hcl⟩
            case measure => have := g2.out; simp [intOf]; omega
          · have hne : ((i : Int) == (fr : Int)) = false := by
              have := hfm.out
              simp only [beq_eq_false_iff_ne, ne_eq]
              intro hq
              have hq2 : i = fr := by omega
              by_cases hlt3 : b < e
              · rw [if_pos hlt3] at this; exact hA ⟨hq2.trans (congrArg Prod.fst this), hlt3⟩
              · rw [if_neg hlt3] at this; have := congrArg Prod.fst this; simp at this; omega
            have hc := hcl.out i hlt
            have hpl := (h.at i hlt).1
            have hplI : IntKind.i64.wrap ((pc l i : Nat) : Int) = ((pc l i : Nat) : Int) := IntWalk.i64_in _ (by omega)
            obtain ⟨hr0, hd0, hx0, hdl⟩ := hexF_last 3 (pc l i)
            replace hpl := Lib.hid hpl
            have hx4 := hexL_len (pc l i)
            have hnext : ¬ (i + 1 = e ∧ b < e) := by
              rintro ⟨q1, q2⟩
              rcases hout q2 with q3 | q3
              · exact hA ⟨by omega, q2⟩
              · omega
            have hsep : (0 < i ∧ (i ≠ e ∨ e = b)) ∨ ¬ (0 < i ∧ (i ≠ e ∨ e = b)) := Classical.em _
            have hcs : (t.toList.isEmpty = true ∧ Hid ((if 0 < i ∧ (i ≠ e ∨ e = b) then [58] else ([] : List UInt8)) = [])) ∨ (∃ h0 : 0 < t.size, (!t.toList.isEmpty) = true ∧ ((t[t.size - 1].toNat : Int) != 58) = false ∧ Hid ((if 0 < i ∧ (i ≠ e ∨ e = b) then [58] else ([] : List UInt8)) = [])) ∨
                (∃ h0 : 0 < t.size, (!t.toList.isEmpty) = true ∧ ((t[t.size - 1].toNat : Int) != 58) = true ∧ Hid ((if 0 < i ∧ (i ≠ e ∨ e = b) then [58] else ([] : List UInt8)) = [58])) := by
              rcases hlast.out with ⟨q0, qe⟩ | ⟨q0, h0, qi⟩
              · exact .inl ⟨qe, Lib.hid (by rw [if_neg (by omega)])⟩
              · have hem : (!t.toList.isEmpty) = true := by
                  cases ht0 : t.toList with
                  | nil => have := congrArg List.length ht0; rw [size_toList, List.length_nil] at this; omega
                  | cons x r => rfl
                by_cases q5 : t[t.size - 1].toNat = 58
                · obtain ⟨q6, q7⟩ := qi.1 q5
                  exact .inr (.inl ⟨h0, hem, by rw [q5]; rfl, Lib.hid (if_neg (fun ⟨_, q8⟩ => q8.elim (fun q9 => q9 q6) (fun q9 => absurd q7 (by rw [q9]; exact Nat.lt_irrefl b))))⟩)
                · exact .inr (.inr ⟨h0, hem, by simp only [bne_iff_ne, ne_eq]; omega, Lib.hid (if_pos ⟨q0, by
                    by_cases q6 : i = e
                    · have : ¬ b < e := fun q7 => q5 (qi.2 ⟨q6, q7⟩)
                      omega
                    · exact .inl q6⟩)⟩)
            have hstep : Hid (sixGo (f + 1) l b e i = (if 0 < i ∧ (i ≠ e ∨ e = b) then [58] else ([] : List UInt8)) ++ hexL (pc l i) ++ sixGo f l b e (i + 1)) := Lib.hid (by rw [sixGo, if_pos hlt, if_neg hA])
            have hout2 : b < e → i + 1 ≤ b ∨ e ≤ i + 1 := by
              intro q2
              rcases hout q2 with q3 | q3
              · by_cases q4 : i = b
                · exact absurd ⟨q4, q2⟩ hA
                · exact .inl (by omega)
              · exact .inr (by omega)
            have d58 : (ByteArray.mk #[58]).toList = [58] := toList_mk _
            have n58 : (ByteArray.mk #[58]).size = 1 := rfl
            replace d58 := Lib.hid d58
            replace n58 := Lib.hid n58
            replace hx0 := Lib.hid hx0
            replace hnext := Lib.hid hnext
            have hts2 : t.size ≤ 48 := by omega
            replace hts := Lib.hid hts
            replace hlt := Lib.hid hlt
            replace hi := Lib.hid hi
            replace hf := Lib.hid hf
            replace hx4 := Lib.hid hx4
            replace hdl := Lib.hid hdl
            replace hout2 := Lib.hid hout2
            clear hA hsep hlast hout
            rcases hcs with ⟨q1, hif⟩ | ⟨h0, q1, q2, hif⟩ | ⟨h0, q1, q2, hif⟩
            all_goals
              go_wp2_with fail
              refine (hex10_four (pc l i) _ hpl.out).mono ?_
              rintro e' w3 ⟨th, rfl, hth, hb⟩
              have hzh : th.size ≤ 4 := by rw [← size_toList, hth.out]; exact hx4
              have hbl := hbel.next hb
              have hcl3 := Lib.hid (fun j (hj : j < 8) => (hb.cell (p := ⟨w.heap.size, j, none⟩) (World.block_lt_of_cell? wr _ (hcl.out j hj))).trans (hcl.out j hj))
              have hm1 : (t ++ th : ByteArray).size = t.size + th.size := ByteArray.size_append
              have hm2 : (t ++ ⟨#[58]⟩ ++ th : ByteArray).size = t.size + 1 + th.size := by rw [ByteArray.size_append, ByteArray.size_append, n58.out]
              replace hm1 := Lib.hid hm1
              replace hm2 := Lib.hid hm2
              have hN1 : (if 0 < i ∧ (i ≠ e ∨ e = b) then [58] else ([] : List UInt8)) = [] → Hid ((t ++ th).toList ++ sixGo f l b e (i + 1) = sixL l) := fun q => Lib.hid (by
                rw [← hr.out, hstep.out, q, toList_append, hth.out]; simp)
              have hN2 : (if 0 < i ∧ (i ≠ e ∨ e = b) then [58] else ([] : List UInt8)) = [58] → Hid ((t ++ ⟨#[58]⟩ ++ th).toList ++ sixGo f l b e (i + 1) = sixL l) := fun q => Lib.hid (by
                rw [← hr.out, hstep.out, q, toList_append, toList_append, d58.out, hth.out]; simp)
              have hK : ∀ x : ByteArray, Hid (LastR (x ++ th) b e (i + 1)) := fun x => Lib.hid (by
                obtain ⟨h1, h2⟩ := last_byte (t := x ++ th) (r := x.toList ++ hr0) (c := hexC hd0) (by rw [toList_append, hth.out]; show _ ++ hexF 4 _ = _; rw [hx0.out]; simp)
                exact .inr ⟨by omega, h1, ⟨fun h3 => absurd (by rw [← h2]; exact h3) (hexC_58 ⟨hd0, hdl.out⟩), fun h3 => absurd h3 hnext.out⟩⟩)
              replace hN1 := Lib.hid hN1
              replace hN2 := Lib.hid hN2
              replace hK := Lib.hid hK
              go_wp2_with fail
              go_roundw
              case rel => first
                | exact ⟨f, i + 1, _, rfl, by go_num, by have := hlt.out; omega, by have := hf.out; omega, by have := hm1.out; have := hts.out; omega, hN1.out hif.out, hK.out _, hout2.out, hbl, hcl3⟩
                | exact ⟨f, i + 1, _, rfl, by go_num, by have := hlt.out; omega, by have := hf.out; omega, by have := hm2.out; have := hts.out; omega, hN2.out hif.out, hK.out _, hout2.out, hbl, hcl3⟩
              case measure => have := hlt.out; simp [intOf]; omega
        · have hfin : Hid (t.toList = sixL l) := Lib.hid (by rw [← hr.out, sixGo_end _ _ _ _ _ (by omega)]; simp)
          have hge2 : (8 : Int) ≤ (i : Int) := by omega
          go_wp2_with fail
          go_ret
          exact retS hfin.out hbel
end Go.Proofs.YtdlgpmihjecdlaaDoor
