/- The contracts of the references' Write for addresses of four bytes and of eight pieces, and for hosts. -/
import Derived.Test.YtceedfhealbdkaaDoorRefText
import Derived.Test.YtceedfhealbdkaaDoorHostW
namespace Go.Proofs.YtceedfhealbdkaaDoor
open Go.RowKit
set_option linter.unusedVariables false

theorem text09_int (z : Int) (w : World) (h0 : 0 ≤ z) (h1 : z < 256) : Calls Tryd.prog 26 #[.int .i64 z] w (RetS w (Lib.decDigits z.toNat)) := by
  obtain ⟨n, rfl⟩ := Int.eq_ofNat_of_zero_le h0
  exact text09_any 256 n w (by omega) (by omega)
theorem decDigits3 {t : ByteArray} {n : Nat} (h : t.toList = Lib.decDigits n) (hn : n < 256) : t.size ≤ 3 := by
  rw [← size_toList, h]; exact decDigits_small _ hn
set_option maxHeartbeats 1000000 in
theorem fourR_any (n : Nat) (hn : n < 4294967296) (w : World) :
    Calls Tryd.prog 15 #[.int .u32 (n : Int)] w (RetS w (fourL n)) := by
  have hnI : (n : Int) < 4294967296 := by omega
  have hbel : Below w.heap.size w w := Below.refl _ _
  go_enter Tryd.func15, Tryd.ntmps15
  go_wp2_with fail
  refine (text09_int _ _ (by omega) (by omega)).mono ?_
  rintro e w1 ⟨t1, rfl, ht1, hb⟩
  replace hbel := hbel.next hb
  clear hb
  have hz1 := decDigits3 ht1.out (by omega)
  go_wp2_with fail
  refine (text09_int _ _ (by omega) (by omega)).mono ?_
  rintro e w2 ⟨t2, rfl, ht2, hb⟩
  replace hbel := hbel.next hb
  clear hb
  have hz2 := decDigits3 ht2.out (by omega)
  go_wp2_with fail
  refine (text09_int _ _ (by omega) (by omega)).mono ?_
  rintro e w3 ⟨t3, rfl, ht3, hb⟩
  replace hbel := hbel.next hb
  clear hb
  have hz3 := decDigits3 ht3.out (by omega)
  go_wp2_with fail
  refine (text09_int _ _ (by omega) (by omega)).mono ?_
  rintro e w4 ⟨t4, rfl, ht4, hb⟩
  replace hbel := hbel.next hb
  clear hb
  have hz4 := decDigits3 ht4.out (by omega)
  go_wp2_with fail
  go_ret
  refine retS ?_ hbel
  have e1 : ((n : Int) / 16777216).toNat = n / 16777216 % 256 := by omega
  have e2 : ((n : Int) / 65536 % 256).toNat = n / 65536 % 256 := by omega
  have e3 : ((n : Int) / 256 % 256).toNat = n / 256 % 256 := by omega
  have e4 : ((n : Int) % 256).toNat = n % 256 := by omega
  have d : (ByteArray.mk #[46]).toList = [46] := toList_mk _
  simp only [toList_append, ht1.out, ht2.out, ht3.out, ht4.out, d, e1, e2, e3, e4, fourL, fourP, byte4]
  simp

/-- The reference's way to the longest run of noughts. -/
def refGo : Nat → List Nat → Nat → Nat → Nat → Nat × Nat
  | 0, _, _, fr, m => (fr, m)
  | f + 1, l, i, fr, m => if i < 8 then (if m < zrun (l.drop i) then refGo f l (i + 1) i (zrun (l.drop i)) else refGo f l (i + 1) fr m) else (fr, m)
theorem refGo_end (f : Nat) (l : List Nat) (i b e : Nat) (h : 8 ≤ i) : refGo f l i b e = (b, e) := by
  cases f with
  | zero => rfl
  | succ f => rw [refGo, if_neg (by omega)]
theorem refGo_congr {l m : List Nat} (h : ∀ i, zrun (l.drop i) = zrun (m.drop i)) : ∀ f i b e, refGo f l i b e = refGo f m i b e
  | 0, _, _, _ => rfl
  | f + 1, i, b, e => by simp only [refGo, h, refGo_congr h f]
theorem runGo_congr {l m : List Nat} (h : ∀ i, zrun (l.drop i) = zrun (m.drop i)) : ∀ f i b e, runGo f l i b e = runGo f m i b e
  | 0, _, _, _ => rfl
  | f + 1, i, b, e => by simp only [runGo, h, runGo_congr h f]
def bitN (x : Nat) : Nat := if x = 0 then 0 else 1
theorem zrun_bit (l : List Nat) : zrun (l.map bitN) = zrun l := by
  induction l with
  | nil => rfl
  | cons x r ih =>
    simp only [List.map_cons, zrun, ih, bitN]
    by_cases h : x = 0 <;> simp [h]
theorem ref_all : ∀ a b c d e f g h : Fin 2, refGo 8 [a.val, b.val, c.val, d.val, e.val, f.val, g.val, h.val] 0 8 1 =
    (if (runL [a.val, b.val, c.val, d.val, e.val, f.val, g.val, h.val]).1 < (runL [a.val, b.val, c.val, d.val, e.val, f.val, g.val, h.val]).2 then ((runL [a.val, b.val, c.val, d.val, e.val, f.val, g.val, h.val]).1, (runL [a.val, b.val, c.val, d.val, e.val, f.val, g.val, h.val]).2 - (runL [a.val, b.val, c.val, d.val, e.val, f.val, g.val, h.val]).1) else (8, 1)) := by decide +kernel
theorem run_all : ∀ a b c d e f g h : Fin 2, (runL [a.val, b.val, c.val, d.val, e.val, f.val, g.val, h.val]).1 ≤ (runL [a.val, b.val, c.val, d.val, e.val, f.val, g.val, h.val]).2 ∧ (runL [a.val, b.val, c.val, d.val, e.val, f.val, g.val, h.val]).2 ≤ 8 := by decide +kernel
theorem bitN_lt (x : Nat) : bitN x < 2 := by unfold bitN; split <;> decide
theorem ref_run {l : List Nat} (h : Six l) : refGo 8 l 0 8 1 = if (runL l).1 < (runL l).2 then ((runL l).1, (runL l).2 - (runL l).1) else (8, 1) := by
  have hd : ∀ i, zrun (l.drop i) = zrun ((l.map bitN).drop i) := fun i => by rw [← List.map_drop, zrun_bit]
  have h1 : runL l = runL (l.map bitN) := runGo_congr hd _ _ _ _
  rw [refGo_congr hd, h1]
  match l, h.len with
  | [a, b, c, d, e, f, g, x], _ => exact ref_all ⟨bitN a, bitN_lt a⟩ ⟨bitN b, bitN_lt b⟩ ⟨bitN c, bitN_lt c⟩ ⟨bitN d, bitN_lt d⟩ ⟨bitN e, bitN_lt e⟩ ⟨bitN f, bitN_lt f⟩ ⟨bitN g, bitN_lt g⟩ ⟨bitN x, bitN_lt x⟩
theorem run_bd {l : List Nat} (h : Six l) : (runL l).1 ≤ (runL l).2 ∧ (runL l).2 ≤ 8 := by
  have hd : ∀ i, zrun (l.drop i) = zrun ((l.map bitN).drop i) := fun i => by rw [← List.map_drop, zrun_bit]
  have h1 : runL l = runL (l.map bitN) := runGo_congr hd _ _ _ _
  rw [h1]
  match l, h.len with
  | [a, b, c, d, e, f, g, x], _ => exact run_all ⟨bitN a, bitN_lt a⟩ ⟨bitN b, bitN_lt b⟩ ⟨bitN c, bitN_lt c⟩ ⟨bitN d, bitN_lt d⟩ ⟨bitN e, bitN_lt e⟩ ⟨bitN f, bitN_lt f⟩ ⟨bitN g, bitN_lt g⟩ ⟨bitN x, bitN_lt x⟩

/-- How the text stands at piece i. -/
def LastR (t : ByteArray) (b e i : Nat) : Prop := (i = 0 ∧ t.toList.isEmpty = true) ∨ (0 < i ∧ ∃ h : 0 < t.size, (t[t.size - 1].toNat = 58 ↔ (i = e ∧ b < e)))
theorem hexC_58 : ∀ d : Fin 16, ¬ (hexC d.val).toNat = 58 := by decide +kernel
theorem hexF_last : ∀ f n, ∃ r d, hexF (f + 1) n = r ++ [hexC d] ∧ d < 16
  | f, n => by
    by_cases h : n < 16
    · exact ⟨[], n, by rw [hexF, if_pos h]; rfl, h⟩
    · exact ⟨hexF f (n / 16), n % 16, by rw [hexF, if_neg h], by omega⟩
theorem last_byte {t : ByteArray} {r : List UInt8} {c : UInt8} (h : t.toList = r ++ [c]) : ∃ h : 0 < t.size, t[t.size - 1] = c := by
  have hz := congrArg List.length h
  rw [size_toList, List.length_append] at hz
  have h0 : 0 < t.size := by simp at hz; omega
  refine ⟨h0, ?_⟩
  have : t.toList[t.size - 1]? = some t[t.size - 1] := by rw [List.getElem?_eq_getElem (by rw [size_toList]; omega), toList_get t (t.size - 1) (by omega)]
  rw [h, List.getElem?_append_right (by simp at hz; omega)] at this
  have e : t.size - 1 - r.length = 0 := by simp at hz; omega
  rw [e] at this
  exact (Option.some.inj this).symm

end Go.Proofs.YtceedfhealbdkaaDoor
