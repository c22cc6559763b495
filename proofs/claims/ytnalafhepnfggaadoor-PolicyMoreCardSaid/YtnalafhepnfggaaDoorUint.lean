/- strconv.AppendUint at base 10 and, below 65536, at base 16, onto bytes of the call's own. -/
import Derived.Test.YtnalafhepnfggaaDoorBase
import Derived.Test.YtnalafhepnfggaaDoorShelf
import Derived.Lib.LaidTab
import Derived.Lib.Builder
import Derived.Laws.BitsLemmas
namespace Go.Proofs.YtnalafhepnfggaaDoor
open Go.RowKit
set_option linter.unusedVariables false

/-- What strconv's and bits' tables hold. -/
def Tabs (w : World) : Prop := Lib.TabIs Tryd.prog w "internal/strconv.uint64pow10" .u64 Lib.pow10Tab ∧ w.cell? ⟨5, 15, none⟩ = some (.int .u8 4)
theorem pow10_at : Tryd.prog.globalNamed "internal/strconv.uint64pow10" = some 1 := by kernel_rfl
theorem Tabs.next {w w' : World} (h : Tabs w) (hb : Below w.heap.size w w') : Tabs w' := by
  refine ⟨?_, (hb.cell (World.block_lt_of_cell? w _ h.2)).trans h.2⟩
  have h1 := h.1
  unfold Lib.TabIs World.var? at h1 ⊢
  rw [pow10_at] at h1 ⊢
  simp only [Option.bind_some] at h1 ⊢
  have hlt : 1 < w.heap.size := by
    rcases Nat.lt_or_ge 1 w.heap.size with h' | h'
    · exact h'
    · rw [Array.getElem?_eq_none h'] at h1; cases h1
  rw [hb.block _ hlt]
  exact h1
theorem Tabs.alloc {w : World} (h : Tabs w) (o : Obj) : Tabs (w.alloc o) := h.next ((Below.refl _ _).alloc (Nat.le_refl _) o)

theorem ownB_cells {w : World} {B : Nat} {E : TypeId} {v : Value} {l : List UInt8} : OwnB w B E v l ↔ w.ownsRow B E 1 v l.length (Lib.byteCells l) := by
  have : l.map byteV = Lib.byteCells l := rfl
  unfold OwnB; rw [this]

theorem owns_below {w w' : World} {B K size n : Nat} {E : TypeId} {v : Value} {xs : List Value} (h : w.ownsRow B E size v n xs) (hb : Below K w w') (hK : w.heap.size ≤ K) : w'.ownsRow B E size v n xs := by
  refine ⟨h.1, ?_⟩
  rcases h.2 with hn | ⟨g, cap, cur, rfl, hg, hh, rest⟩
  · exact .inl hn
  · exact .inr ⟨g, cap, cur, rfl, hg, by rw [hb.block g (by have := (Array.getElem?_eq_some_iff.1 hh).1; omega)]; exact hh, rest⟩
/-- A number of 64 bits. -/
def U64 (u : Nat) : Prop := u < 18446744073709551616
theorem appendUint10i_any (B u : Nat) (ui : Int) (hui : ui = (u : Int)) (hu : U64 u) (v : Value) (l : List UInt8) (w : World) (h : OwnB w B 5 v l) (ht : Tabs w) (hB : B ≤ w.heap.size) (hl : l.length ≤ 1099511627776) :
    Calls Tryd.prog 47 #[v, .int .u64 ui, .int .i64 10] w fun e w' => ∃ v', e = .returned v' ∧ OwnB w' B 5 v' (l ++ Lib.decDigits u) ∧ Below B w w' := by
  subst hui
  refine (Tryd.internal_strconv_AppendUint_10 B l.length u hu v (Lib.byteCells l) w (ownB_cells.1 h) hB (by omega) ht.1).mono ?_
  rintro e w' ⟨v', rfl, ho, hb, _⟩
  refine ⟨v', rfl, ownB_cells.2 ?_, hb⟩
  rw [List.length_append]
  have : Lib.byteCells (l ++ Lib.decDigits u) = Lib.byteCells l ++ Lib.byteCells (Lib.decDigits u) := by simp [Lib.byteCells]
  rw [this]; exact ho
set_option maxHeartbeats 400000 in
theorem appendUint10_any (B u : Nat) (ui : Int) (hui : ui = (u : Int)) (hu : U64 u) (v : Value) (l : List UInt8) (w : World) (h : OwnB w B 5 v l) (ht : Tabs w) (hB : B ≤ w.heap.size) (hl : l.length ≤ 1099511627776) :
    Calls Tryd.prog 29 #[v, .int .u64 ui, .int .i64 10] w fun e w' => ∃ v', e = .returned v' ∧ OwnB w' B 5 v' (l ++ Lib.decDigits u) ∧ Below B w w' := by
  subst hui
  go_enter Tryd.func29, Tryd.ntmps29
  go_wp2_with fail
  refine (appendUint10i_any B u _ rfl hu v l _ h ht hB hl).mono ?_
  rintro e w1 ⟨v', rfl, ho, hb⟩
  go_wp2_with fail
  go_ret
  exact ⟨_, rfl, ho, hb⟩

set_option maxHeartbeats 400000 in
theorem trailing64_any (w : World) (h : w.cell? ⟨5, 15, none⟩ = some (.int .u8 4)) :
    Calls Tryd.prog 87 #[.int .u64 16] w fun e w' => e = .returned (.int .i64 4) ∧ w = w' := by
  have e : (IntKind.u64.wrap (bits BinOp.and IntKind.u64 16 (IntKind.u64.wrap (-16)) * 285870213051353865) / 288230376151711744).toNat = 15 := by decide +kernel
  have h' : w.cell? ⟨5, (IntKind.u64.wrap (bits BinOp.and IntKind.u64 16 (IntKind.u64.wrap (-16)) * 285870213051353865) / 288230376151711744).toNat, none⟩ = some (.int .u8 4) := by rw [e]; exact h
  clear e h
  go_enter Tryd.func87, Tryd.ntmps87
  go_wp2_with fail
  go_ret
  exact ⟨rfl, rfl⟩
set_option maxHeartbeats 400000 in
theorem trailing_any (w : World) (h : w.cell? ⟨5, 15, none⟩ = some (.int .u8 4)) :
    Calls Tryd.prog 80 #[.int .u64 16] w fun e w' => e = .returned (.int .i64 4) ∧ w = w' := by
  go_enter Tryd.func80, Tryd.ntmps80
  go_wp2_with fail
  refine (trailing64_any _ h).mono ?_
  rintro e w1 ⟨rfl, rfl⟩
  go_wp2_with fail
  go_ret
  exact ⟨rfl, rfl⟩
set_option maxHeartbeats 400000 in
theorem power16_any (w : World) :
    Calls Tryd.prog 79 #[.int .i64 16] w fun e w' => e = .returned (.bool true) ∧ w = w' := by
  have e : (bits BinOp.and IntKind.i64 16 15 == 0) = true := by decide +kernel
  go_enter Tryd.func79, Tryd.ntmps79
  go_wp2_with fail
  go_ret
  exact ⟨rfl, rfl⟩
theorem uintInfo : (Tryd.prog.info? 5).map (fun i => (i.zero, i.size, i.bytes)) = some (some (.int .u8 0), 1, 1) := by kernel_rfl
/-- A digit of base 16. -/
def hexC (d : Nat) : UInt8 := UInt8.ofNat (if d < 10 then 48 + d else 87 + d)
/-- The digits of base 16, f at most. -/
def hexF : Nat → Nat → List UInt8
  | 0, _ => []
  | f + 1, n => if n < 16 then [hexC n] else hexF f (n / 16) ++ [hexC (n % 16)]
def hexL (n : Nat) : List UInt8 := hexF 4 n
theorem digits_at : ∀ d : Fin 16, (([48, 49, 50, 51, 52, 53, 54, 55, 56, 57, 97, 98, 99, 100, 101, 102] : List UInt8)[d.val]?) = some (hexC d.val) := by decide +kernel

/-- Block g is an array of 65 bytes; from place j on it holds these. -/
def Arr65 (w : World) (g j : Nat) (D : List UInt8) : Prop := ∃ arr : Array Value, w.heap[g]? = some (.cells arr 103 (0, 0)) ∧ arr.size = 65 ∧ arr.toList.drop j = Lib.byteCells D
theorem Arr65.cell {w : World} {g j : Nat} {D : List UInt8} (h : Arr65 w g j D) (i : Nat) (hi : i < 65) : (∃ x, w.cell? ⟨g, i, none⟩ = some x) ∧ w.frozen? ⟨g, i, none⟩ = false := by
  obtain ⟨arr, hb, hs, _⟩ := h
  exact ⟨⟨arr[i], by rw [Lib.cell_of_heap hb, Array.getElem?_eq_getElem (by omega)]⟩, Lib.frozen_of_heap hb i⟩
theorem Arr65.set {w : World} {g j : Nat} {D : List UInt8} (h : Arr65 w g (j + 1) D) (hj : j < 65) (c : UInt8) : Arr65 (w.setCell ⟨g, j, none⟩ (.int .u8 (c.toNat : Int))) g j (c :: D) := by
  obtain ⟨arr, hb, hs, hd⟩ := h
  refine ⟨arr.setIfInBounds j (.int .u8 (c.toNat : Int)), by simp [World.setCell, Array.getElem?_modify, hb], by simpa using hs, ?_⟩
  rw [Array.toList_setIfInBounds, List.drop_eq_getElem_cons (by simp; omega), List.getElem_set_self, List.drop_set_of_lt (by omega), hd]
  rfl
theorem Arr65.news {w : World} {g j : Nat} {D : List UInt8} (h : Arr65 w g j D) (hj : j ≤ 65) : D.length = 65 - j ∧ ∀ i u, (Lib.byteCells D)[i]? = some u → w.cell? ((⟨g, j, none⟩ : Addr).add i) = some u := by
  obtain ⟨arr, hb, hs, hd⟩ := h
  refine ⟨?_, fun i u hu => ?_⟩
  · have := congrArg List.length hd
    rw [Lib.byteCells_length, List.length_drop, Array.length_toList, hs] at this
    omega
  · have e : (⟨g, j, none⟩ : Addr).add i = ⟨g, j + i, none⟩ := by unfold Addr.add; split <;> simp_all
    rw [e, Lib.cell_of_heap hb, ← hu, ← hd, List.getElem?_drop, Array.getElem?_toList]
theorem u64_wraps (n : Int) (h₀ : 0 ≤ n) (h₁ : n < 2 ^ 64) : IntKind.u64.wrap n = n := by
  simp [IntKind.wrap, IntKind.bits, IntKind.signed]; omega
theorem u64_and15 (x : Nat) (h : x < 65536) : bits .and .u64 (x : Int) 15 = (x : Int) % 16 := bits_mask .u64 64 (by decide) u64_wraps 4 (by decide) (x : Int) (by omega) (by omega)
theorem hexF_big {f n : Nat} (h : 16 ≤ n) : hexF (f + 1) n = hexF f (n / 16) ++ [hexC (n % 16)] := by rw [hexF, if_neg (by omega)]
theorem hexF_small {f n : Nat} (h : n < 16) : hexF (f + 1) n = [hexC n] := by rw [hexF, if_pos h]
def digs36 : ByteArray := ⟨#[48, 49, 50, 51, 52, 53, 54, 55, 56, 57, 97, 98, 99, 100, 101, 102, 103, 104, 105, 106, 107, 108, 109, 110, 111, 112, 113, 114, 115, 116, 117, 118, 119, 120, 121, 122]⟩
theorem digs36_at : ∀ d : Fin 16, digs36[d.val]'(by have := d.isLt; show d.val < 36; omega) = hexC d.val := by decide +kernel

theorem zero65 (w : World) : (zeroValue 103).run Tryd.prog w = .ok (.agg (Array.replicate 65 (.int .u8 0))) w := by kernel_rfl
theorem slice65 (g f : Nat) (hf : f < 4) (w : World) : (Instr.sliceAt 103 (.pointer (some ⟨g, 0, none⟩)) (some (.int .i64 ((f : Int) + 1 + 61 - 1))) none none).run Tryd.prog w = .ok (.slice (some ⟨g, f + 61, none⟩) (4 - f) (4 - f)) w := by
  have ha : Tryd.prog.arrayLen 103 = 65 := by kernel_rfl
  have hs : (sizeOf (Tryd.prog.elem 103)).run Tryd.prog w = .ok 1 w := by kernel_rfl
  rw [run_sliceAt_array_l w 103 ⟨g, 0, none⟩ (by kernel_rfl) .i64 _ (by omega) (by rw [ha]; omega), hs]
  simp only [Result.andThen_ok, slicedAt, ha]
  have e1 : ((f : Int) + 1 + 61 - 1).toNat = f + 61 := by omega
  have e2 : 65 - (f + 61) = 4 - f := by omega
  have e3 : ¬ 65 = f + 61 := by omega
  have e4 : (⟨g, 0, none⟩ : Addr).add ((f + 61) * 1) = ⟨g, f + 61, none⟩ := by unfold Addr.add; rw [if_neg (by omega)]; simp
  rw [e1, e2, if_neg e3, e4]
set_option maxRecDepth 100000 in
set_option maxHeartbeats 1000000 in
theorem formatBits16_any (B u : Nat) (hu : u < 65536) (v : Value) (l : List UInt8) (w : World) (h : OwnB w B 5 v l) (ht : w.cell? ⟨5, 15, none⟩ = some (.int .u8 4)) (hB : B ≤ w.heap.size) (hl : l.length ≤ 1099511627776) :
    Calls Tryd.prog 65 #[v, .int .u64 (u : Int), .int .i64 16, .bool false, .bool true] w fun e w' => ∃ v', e = .returned (.tuple #[v', .string ⟨#[]⟩]) ∧ OwnB w' B 5 v' (l ++ hexL u) ∧ Below B w w' := by
  have z65 := zero65
  have hlt := World.block_lt_of_cell? w _ ht
  have ht2 : (w.alloc (.cells (Array.replicate 65 (.int .u8 0)) 103)).cell? ⟨5, 15, none⟩ = some (.int .u8 4) := by
    rw [World.cell?_alloc_past _ _ _ hlt]; exact ht
  have ht := Lib.hid ht2
  go_enter Tryd.func65, Tryd.ntmps65
  go_wp2_with (first
    | (go_at_call 79; refine (power16_any _).mono ?_; rintro e w' ⟨rfl, rfl⟩)
    | (go_at_call 80; refine (trailing_any _ ht.out).mono ?_; rintro e w' ⟨rfl, rfl⟩))
  have harr0 : Arr65 (w.alloc (.cells (Array.replicate 65 (.int .u8 0)) 103)) w.heap.size 65 [] := ⟨_, heap_alloc_new w _, by simp, by simp [Lib.byteCells]⟩
  have hbel0 : Below w.heap.size w (w.alloc (.cells (Array.replicate 65 (.int .u8 0)) 103)) := (Below.refl _ _).alloc (Nat.le_refl _) _
  have hsz0 : w.heap.size + 1 ≤ (w.alloc (.cells (Array.replicate 65 (.int .u8 0)) 103)).heap.size := by simp
  clear ht2 ht z65 hlt
  generalize w.alloc (.cells (Array.replicate 65 (.int .u8 0)) 103) = wa at harr0 hbel0 hsz0 ⊢
  go_loopw [1, 13] (fun s1 s13 wr => ∃ (uu f : Nat) (D : List UInt8), s1 = .int .u64 uu ∧ s13 = .int .i64 ((f + 61 : Nat) : Int) ∧ 1 ≤ f ∧ f ≤ 4 ∧ uu < 65536 ∧ Hid (uu < 16 ^ f) ∧ Hid (hexL u = hexF f uu ++ D) ∧ Arr65 wr w.heap.size (f + 61) D ∧ Below w.heap.size w wr ∧ w.heap.size + 1 ≤ wr.heap.size) (fun _ i _ => (intOf i).toNat)
  case atStart => exact ⟨u, 4, [], rfl, rfl, by omega, by omega, hu, Lib.hid (by omega), Lib.hid (by simp [hexL]), harr0, hbel0, hsz0⟩
  case round =>
    obtain ⟨uu, f, D, rfl, rfl, hf1, hf4, huu, hpow, hD, harr, hbel, hsz⟩ := hrel
    clear harr0 hbel0 hsz0
    obtain ⟨f, rfl⟩ : ∃ g, f = g + 1 := ⟨f - 1, by omega⟩
    by_cases hbig : 16 ≤ uu
    · have hf0 : 1 ≤ f := by
        rcases Nat.eq_zero_or_pos f with h0 | h0
        · have := hpow.out; rw [h0] at this; omega
        · exact h0
      have e := u64_and15 uu huu
      have e16 : (uu : Int) % 16 = ((uu % 16 : Nat) : Int) := by omega
      rw [e16] at e
      have hm : uu % 16 < 16 := Nat.mod_lt _ (by decide)
      have hpow2 : Hid (uu / 16 < 16 ^ f) := Lib.hid (by
        have := hpow.out
        rw [Nat.pow_succ] at this
        exact Nat.div_lt_of_lt_mul (by omega))
      have hD2 : Hid (hexL u = hexF f (uu / 16) ++ (hexC (uu % 16) :: D)) := Lib.hid (by rw [hD.out, hexF_big hbig]; simp)
      obtain ⟨⟨x, hc⟩, hfz⟩ := harr.cell (f + 61) (by omega)
      have hset := Arr65.set (j := f + 61) harr (by omega) (hexC (uu % 16))
      have hset2 : Arr65 (wr.setCell ⟨w.heap.size, f + 61, none⟩ (.int .u8 ((digs36[uu % 16]'(by show uu % 16 < 36; omega)).toNat : Int))) w.heap.size (f + 61) (hexC (uu % 16) :: D) := by
        rw [digs36_at ⟨uu % 16, hm⟩]; exact hset
      have hbigI : (16 : Int) ≤ (uu : Int) := by omega
      replace e16 := Lib.hid e16
      replace hset2 := Lib.hid hset2
      clear hset
      go_wp2_with fail
      go_roundw
      case rel => exact ⟨uu / 16, f, hexC (uu % 16) :: D, by go_num, by go_num, hf0, by omega, by omega, hpow2, hD2, hset2.out, hbel.setCell (Nat.le_refl _) _, by simp; omega⟩
      case measure => simp [intOf]; omega
    · have hsm : uu < 16 := by omega
      have hD2 : Hid (hexL u = hexC uu :: D) := Lib.hid (by rw [hD.out, hexF_small hsm]; rfl)
      obtain ⟨⟨x, hc⟩, hfz⟩ := harr.cell (f + 61) (by omega)
      have hset := Arr65.set (j := f + 61) harr (by omega) (hexC uu)
      have hset2 : Arr65 (wr.setCell ⟨w.heap.size, f + 61, none⟩ (.int .u8 ((digs36[uu]'(by show uu < 36; omega)).toNat : Int))) w.heap.size (f + 61) (hexC uu :: D) := by
        rw [digs36_at ⟨uu, hsm⟩]; exact hset
      have hsmI : (uu : Int) < (16 : Int) := by omega
      replace hset2 := Lib.hid hset2
      clear hset
      have hown := owns_below h hbel (Nat.le_refl _)
      have hsl := slice65 w.heap.size f (by omega)
      obtain ⟨hDl, hnews⟩ := hset2.out.news (by omega)
      have hbel2 := hbel.setCell (p := ⟨w.heap.size, f + 61, none⟩) (Nat.le_refl _) (.int .u8 ((digs36[uu]'(by show uu < 36; omega)).toNat : Int))
      have hown2 := owns_below h hbel2 (Nat.le_refl _)
      replace hnews := Lib.hid hnews
      replace hDl := Lib.hid hDl
      clear hset2 hown
      obtain ⟨i0, hi, hz0, hz1, hz2⟩ := info_parts uintInfo
      go_wp2_with (at_builtin; refine wpList_append_own _ rfl _ _ 56 rfl B 5 i0 (.int .u8 0) 1 1 Tryd.underlying56 hi hz0 hz1 hz2 rfl (by decide) v l.length _ rfl hown2 ⟨w.heap.size, f + 61, none⟩ (4 - f) (4 - f) (Lib.byteCells (hexC uu :: D)) rfl (by rw [Lib.byteCells_length, hDl.out]; omega) hnews.out (by intro y hy; obtain ⟨t, _, rfl⟩ := List.mem_map.1 hy; rfl) (by unfold maxLen; omega) (by omega) (by simp; omega) ?_; intro v' w2 hown' hgrow _)
      go_ret2
      refine ⟨v', rfl, ?_, (hbel2.mono hB).grown hgrow (by simp; omega) (fun k hk => (hown2.lt k hk).1)⟩
      rw [ownB_cells, hD2.out, List.length_append]
      have e1 : Lib.byteCells (l ++ hexC uu :: D) = Lib.byteCells l ++ Lib.byteCells (hexC uu :: D) := by simp [Lib.byteCells]
      have e2 : 65 - (f + 61) = 4 - f := by omega
      rw [e1, hDl.out, e2]
      exact hown'
set_option maxHeartbeats 400000 in
theorem appendUint16i_any (B u : Nat) (hu : u < 65536) (v : Value) (l : List UInt8) (w : World) (h : OwnB w B 5 v l) (ht : w.cell? ⟨5, 15, none⟩ = some (.int .u8 4)) (hB : B ≤ w.heap.size) (hl : l.length ≤ 1099511627776) :
    Calls Tryd.prog 47 #[v, .int .u64 (u : Int), .int .i64 16] w fun e w' => ∃ v', e = .returned v' ∧ OwnB w' B 5 v' (l ++ hexL u) ∧ Below B w w' := by
  go_enter Tryd.func47, Tryd.ntmps47
  go_wp2_with fail
  refine (formatBits16_any B u hu v l _ h ht hB hl).mono ?_
  rintro e w1 ⟨v', rfl, ho, hb⟩
  go_wp2_with fail
  go_ret
  exact ⟨_, rfl, ho, hb⟩
set_option maxHeartbeats 400000 in
theorem appendUint16_any (B u : Nat) (ui : Int) (hui : ui = (u : Int)) (hu : u < 65536) (v : Value) (l : List UInt8) (w : World) (h : OwnB w B 5 v l) (ht : Tabs w) (hB : B ≤ w.heap.size) (hl : l.length ≤ 1099511627776) :
    Calls Tryd.prog 29 #[v, .int .u64 ui, .int .i64 16] w fun e w' => ∃ v', e = .returned v' ∧ OwnB w' B 5 v' (l ++ hexL u) ∧ Below B w w' := by
  subst hui
  go_enter Tryd.func29, Tryd.ntmps29
  go_wp2_with fail
  refine (appendUint16i_any B u hu v l _ h ht.2 hB hl).mono ?_
  rintro e w1 ⟨v', rfl, ho, hb⟩
  go_wp2_with fail
  go_ret
  exact ⟨_, rfl, ho, hb⟩
end Go.Proofs.YtnalafhepnfggaaDoor
