/- strings.IndexAny at any text and the letters e, E; strings.Cut at a separator of one byte, however long the text. -/
import Derived.Test.YtbejimncmfeggaaDoorNumH
import Derived.Laws.RangeAny
import Derived.Laws.Runes
import Derived.Lib.OthersKept
import Derived.Deep.WholeRow
import Derived.Shelf.RegionOpenPlain
import Derived.Deep.RegionHeld3
namespace Go.Proofs.YtbejimncmfeggaaDoor
open Go.RowKit
set_option linter.unusedVariables false
set_option linter.unusedSimpArgs false

theorem indexByte_cut (c : UInt8) (l : List UInt8) : (Lib.indexByte l c = -1 ∧ cutC c l = (l, [], false)) ∨ ∃ i : Nat, Lib.indexByte l c = (i : Int) ∧ i < l.length ∧ cutC c l = (l.take i, l.drop (i + 1), true) := by
  induction l with
  | nil => exact .inl ⟨rfl, rfl⟩
  | cons d r ih =>
    unfold Lib.indexByte cutC
    by_cases h : d = c
    · rw [if_pos (by simpa using h), if_pos h]
      exact .inr ⟨0, rfl, by simp, by simp⟩
    · rw [if_neg (by simpa using h), if_neg h]
      rcases ih with ⟨h1, h2⟩ | ⟨i, h1, hi, h2⟩
      · rw [h1, h2]; exact .inl ⟨rfl, rfl⟩
      · rw [h1, h2]
        have hn : ¬ (((i : Int) == -1) = true) := by rw [beq_iff_eq]; omega
        rw [if_neg hn]
        exact .inr ⟨i + 1, by omega, by simp; omega, by simp⟩
set_option maxRecDepth 100000 in
set_option maxHeartbeats 1000000 in
theorem slcut_long (s : ByteArray) (c : UInt8) (w : World) (hs : s.size ≤ 140737488355328) :
    Calls Tryd.prog 62 #[.string s, .string ⟨#[c]⟩] w (RetT w (cutC c s.toList).1 (cutC c s.toList).2.1 (cutC c s.toList).2.2) := by
  have hsz := Lib.hid (size_toList s)
  rcases indexByte_cut c s.toList with ⟨h1, h2⟩ | ⟨i, h1, hi, h2⟩
  · have hix := Lib.hid (fun w => Tryd.stringslite_Index_one s c w)
    rw [← ByteArray.toList_eq, h1] at hix
    rw [h2]
    replace h2 := Lib.hid h2
    replace h1 := Lib.hid h1
    go_enter Tryd.func62, Tryd.ntmps62
    go_wp2_with (go_at_call 71; refine (hix.out _).mono ?_; rintro e w' ⟨rfl, rfl⟩)
    go_ret3
    exact ⟨s, ⟨#[]⟩, 0, rfl, Lib.hid rfl, Lib.hid (toList_mk []), rfl⟩
  · have hix := Lib.hid (fun w => Tryd.stringslite_Index_one s c w)
    rw [← ByteArray.toList_eq, h1] at hix
    have hle : i + 1 ≤ s.size := by have := hsz.out; omega
    have mixed : Tryd.prog.follows .mixedOrders = true := by kernel_rfl
    have c0 : (0 : Int) ≤ (i : Int) + 1 := by omega
    have c1 : (i : Int) ≤ (s.size : Int) := by omega
    have c2 : (i : Int) + 1 ≤ (s.size : Int) := by omega
    have c3 : IntKind.i64.wrap ((i : Int) + 1) = (i : Int) + 1 := IntWalk.i64_in _ (by omega)
    have hA : Hid ((s.extract 0 i).toList = s.toList.take i) := Lib.hid (by rw [toList_extract]; rfl)
    have hB : Hid ((s.extract (i + 1) s.size).toList = s.toList.drop (i + 1)) := Lib.hid (by rw [toList_from])
    rw [h2]
    replace h2 := Lib.hid h2
    replace h1 := Lib.hid h1
    replace hi := Lib.hid hi
    go_enter Tryd.func62, Tryd.ntmps62
    go_wp2_with (go_at_call 71; refine (hix.out _).mono ?_; rintro e w' ⟨rfl, rfl⟩)
    go_region_o
    go_wp2_with fail
    go_ret3
    exact ⟨_, _, 1, rfl, hA, hB, rfl⟩
set_option maxRecDepth 100000 in
set_option maxHeartbeats 1000000 in
theorem cut_long (s : ByteArray) (c : UInt8) (w : World) (hs : s.size ≤ 140737488355328) :
    Calls Tryd.prog 52 #[.string s, .string ⟨#[c]⟩] w (RetT w (cutC c s.toList).1 (cutC c s.toList).2.1 (cutC c s.toList).2.2) := by
  have hc := Lib.hid (fun w => slcut_long s c w hs)
  go_enter Tryd.func52, Tryd.ntmps52
  go_wp2_with (go_at_call 62; refine (hc.out _).mono ?_; rintro e w' ⟨ta, tb, n, rfl, h1, h2, rfl⟩)
  go_ret3
  exact ⟨ta, tb, n, rfl, h1, h2, rfl⟩
theorem decode_skip (s : ByteArray) (pos : Nat) (h : pos < s.size) (ha : 128 ≤ (s[pos]'h).toNat) : pos + (Utf8.decode s pos).2 ≤ s.size ∧ ∀ j (hj : pos + j < s.size), j < (Utf8.decode s pos).2 → 128 ≤ (s[pos + j]'hj).toNat := by
  have hn : ¬ (s[pos]'h).toNat < 128 := by omega
  have hget : ∀ k (hk : pos + k < s.size), s.get! (pos + k) = s[pos + k]'hk := fun k hk => by
    simp [ByteArray.get!, getElem!_pos, hk]
    rfl
  have key : ∀ n, (∀ k, 1 ≤ k → k < n → (pos + k < s.size ∧ (s.get! (pos + k)).toNat / 64 = 2)) → 1 ≤ n → pos + n ≤ s.size ∧ ∀ j (hj : pos + j < s.size), j < n → 128 ≤ (s[pos + j]'hj).toNat := by
    intro n hk h1
    refine ⟨?_, ?_⟩
    · by_cases e : n = 1
      · omega
      · have := (hk (n - 1) (by omega) (by omega)).1; omega
    · intro j hj hjn
      by_cases e : j = 0
      · subst e; exact ha
      · have := (hk j (by omega) hjn).2
        rw [hget j hj] at this
        omega
  simp only [Utf8.decode, get_at s pos h, hn, if_false]
  repeat' split
  all_goals
    refine key _ ?_ (by simp)
    intro k k1 k2
    first
      | omega
      | (rename_i hc _
         simp only [Bool.and_eq_true, decide_eq_true_eq, beq_iff_eq] at hc
         have : k = 1 ∨ k = 2 ∨ k = 3 := by omega
         rcases this with rfl | rfl | rfl <;> first | omega | simp_all)
theorem below_iterAt {B k : Nat} {a w : World} (h : Below B a w) (hk : B ≤ k) (s : ByteArray) (p : Nat) : Below B a (w.iterAt k s p) :=
  ⟨h.os, h.tape, h.output, by simp only [World.iterAt, Array.size_setIfInBounds]; exact h.size, fun j hj => by
    simp only [World.iterAt]
    rw [Array.getElem?_setIfInBounds_ne (by omega)]
    exact h.block j hj⟩
theorem decode_eE : ∀ i : Fin 2, (Utf8.decode ⟨#[101, 69]⟩ i.val) = (if i.val = 0 then 101 else 69, 1) := by decide
theorem eE_size : (⟨#[101, 69]⟩ : ByteArray).size = 2 := rfl
set_option maxRecDepth 100000 in
set_option maxHeartbeats 2000000 in
theorem indexRune_err (w : World) :
    Calls Tryd.prog 59 #[.string ⟨#[101, 69]⟩, .int .i32 65533] w fun e w' => e = .returned (.int .i64 (-1)) ∧ Below w.heap.size w w' := by
  go_enter Tryd.func59, Tryd.ntmps59
  go_wp2_with fail
  go_loopg [5, 6] 2 (fun g _ _ wx => ∃ i : Nat, i + g = 2 ∧ wx = w.iter ⟨#[101, 69]⟩ i)
  case atStart => exact ⟨0, rfl, rfl⟩
  case round =>
    obtain ⟨i, hig, rfl⟩ := hrel
    cases gk with
    | zero =>
      obtain rfl : i = 2 := by omega
      have hnx := fun ty => run_next_end (P := Tryd.prog) w ⟨#[101, 69]⟩ 2 ty (by decide)
      go_wp2_with fail
      go_ret
      exact ⟨rfl, (Below.refl _ _).alloc (Nat.le_refl _) _⟩
    | succ g =>
      have hi : i = 0 ∨ i = 1 := by omega
      rcases hi with rfl | rfl
      · have hnx : ∀ ty, (Instr.next (.pointer (some ⟨w.heap.size, 0, none⟩)) true ty).run Tryd.prog (w.iter ⟨#[101, 69]⟩ 0) = .ok (.tuple #[.bool true, .int .i64 0, .int .i32 101]) (w.iter ⟨#[101, 69]⟩ 1) := fun ty => run_next_ascii (P := Tryd.prog) w ⟨#[101, 69]⟩ 0 ty (by decide) (by decide)
        go_wp2_with fail
        go_roundg g
        case measure => omega
        case rel => exact ⟨1, by omega, rfl⟩
      · have hnx : ∀ ty, (Instr.next (.pointer (some ⟨w.heap.size, 0, none⟩)) true ty).run Tryd.prog (w.iter ⟨#[101, 69]⟩ 1) = .ok (.tuple #[.bool true, .int .i64 1, .int .i32 69]) (w.iter ⟨#[101, 69]⟩ 2) := fun ty => run_next_ascii (P := Tryd.prog) w ⟨#[101, 69]⟩ 1 ty (by decide) (by decide)
        go_wp2_with fail
        go_roundg g
        case measure => omega
        case rel => exact ⟨2, by omega, rfl⟩
set_option maxRecDepth 100000 in
set_option maxHeartbeats 2000000 in
theorem indexRune_bad (r : Int) (w : World) (h0 : 128 ≤ r) (h1 : r ≤ 2147483647) (hv : Lib.validRune r = false) :
    Calls Tryd.prog 59 #[.string ⟨#[101, 69]⟩, .int .i32 r] w fun e w' => e = .returned (.int .i64 (-1)) ∧ Below w.heap.size w w' := by
  have hne : (r == 65533) = false := by
    simp only [beq_eq_false_iff_ne, ne_eq]
    rintro rfl
    exact absurd hv (by decide)
  have hva := Lib.hid (fun w => Tryd.utf8_ValidRune r w)
  rw [hv] at hva
  replace hv := Lib.hid hv
  go_enter Tryd.func59, Tryd.ntmps59
  go_wp2_with (go_at_call 67; refine (hva.out _).mono ?_; rintro e w' ⟨rfl, rfl⟩)
  go_ret
  exact ⟨rfl, Below.refl _ _⟩
set_option maxRecDepth 100000 in
set_option maxHeartbeats 2000000 in
theorem indexRune_good (r : Int) (w : World) (h0 : 128 ≤ r) (h1 : r ≤ 2147483647) (hv : Lib.validRune r = true) (hne : (r == 65533) = false) :
    Calls Tryd.prog 59 #[.string ⟨#[101, 69]⟩, .int .i32 r] w fun e w' => e = .returned (.int .i64 (-1)) ∧ Below w.heap.size w w' := by
  have hval : Utf8.valid r = true := by
    unfold Lib.validRune at hv
    have := of_decide_eq_true hv
    unfold Utf8.valid
    simp only [Bool.or_eq_true, Bool.and_eq_true, decide_eq_true_eq]
    omega
  obtain ⟨z2, z4, zl⟩ := encode_facts r hval h0
  have hva := Lib.hid (fun w => Tryd.utf8_ValidRune r w)
  rw [hv] at hva
  have henc : ∀ w, (convert 21 9 (.int .i32 r)).run Tryd.prog w = .ok (.string (Utf8.encode r)) w := fun w => run_convert_int_string w _ _ _ r (by rw [Tryd.underlying21]; rfl) Tryd.underlying9
  generalize Utf8.encode r = rs at z2 z4 zl henc
  replace hv := Lib.hid hv
  replace hval := Lib.hid hval
  go_enter Tryd.func59, Tryd.ntmps59
  go_wp2_with (go_at_call 67; refine (hva.out _).mono ?_; rintro e wz ⟨rfl, rfl⟩)
  by_cases hz : rs.size = 2
  · obtain ⟨x, hx⟩ : ∃ x, rs[1]'(by omega) = x := ⟨_, rfl⟩
    have hx8 : 128 ≤ x.toNat := by
      have := zl (by omega)
      simp only [hz] at this
      rw [← hx]; exact this
    have hI : (rs.size : Int) = 2 := by omega
    have h1s : 1 < rs.size := by omega
    have hxn : (((⟨#[101, 69]⟩ : ByteArray)[1]'(by decide)).toNat == x.toNat) = false := by
      have e : ((⟨#[101, 69]⟩ : ByteArray)[1]'(by decide)).toNat = 69 := rfl
      rw [e]; simp only [beq_eq_false_iff_ne, ne_eq]; omega
    have hxn2 : ((((⟨#[101, 69]⟩ : ByteArray)[1]'(by decide)).toNat : Int) == (x.toNat : Int)) = false := by
      have e : ((⟨#[101, 69]⟩ : ByteArray)[1]'(by decide)).toNat = 69 := rfl
      rw [e]; simp only [beq_eq_false_iff_ne, ne_eq]; omega
    have mixed : Tryd.prog.follows .mixedOrders = true := by kernel_rfl
    have hw2 : IntKind.i64.wrap 2 = 2 := by decide
    have hexx : (⟨#[101, 69]⟩ : ByteArray).extract 2 2 = ⟨#[]⟩ := by apply eq_of_toList; rw [toList_extract]; rw [show (⟨#[101, 69]⟩ : ByteArray).toList = [101, 69] from toList_mk [101, 69]]; exact (toList_mk []).symm
    have hib : Hid (∀ w, Calls Tryd.prog 66 #[.string ⟨#[]⟩, .int .u8 (x.toNat : Int)] w fun e w' => e = .returned (.int .i64 (-1)) ∧ w' = w) := Lib.hid (fun w => Tryd.strings_IndexByte ⟨#[]⟩ (x.toNat : Int) w)
    replace zl := Lib.hid zl
    go_step3
    go_wp2_with fail
    go_loopg [9] 0 (fun g iv wx => iv = .int .i64 1 ∧ wx = wz)
    case atStart => exact ⟨rfl, rfl⟩
    case round =>
      obtain ⟨rfl, rfl⟩ := hrel
      go_wp2_with fail
      go_step3
      go_wp2_with fail
      go_region_o
      go_wp2_with fail
      refine wp_region_noPanic ?_
      refine wp_region_held_drew (S := fun w' => w' = wr.drew.drew) (by kernel_rfl) (rfl) (fun hHeld => ?_)
      refine wpAnyH_take (i := 0) (v := ?_) rfl (by kernel_rfl) (by kernel_rfl) (by kernel_rfl) (fun _ _ _ h => h) (Or.inl ⟨by rfl, ?_⟩) hHeld ?_
      rotate_left
      · first | (intro w hSw; (try dsimp only at hSw); go_simp; done) | (intro w hSw; (try dsimp only at hSw); go_simp; with_reducible rfl)
      try simp only [Act.put, List.setIfInBounds_toArray, List.set_cons_zero, List.set_cons_succ]
      refine wpAnyH_take (i := 1) (v := ?_) rfl (by kernel_rfl) (by kernel_rfl) (by kernel_rfl) (fun _ _ _ h => h) (Or.inl ⟨by rfl, ?_⟩) hHeld ?_
      rotate_left
      · first | (intro w hSw; (try dsimp only at hSw); go_simp; done) | (intro w hSw; (try dsimp only at hSw); go_simp; with_reducible rfl)
      try simp only [Act.put, List.setIfInBounds_toArray, List.set_cons_zero, List.set_cons_succ]
      refine wpAnyH_take (i := 2) (v := ?_) rfl (by kernel_rfl) (by kernel_rfl) (by kernel_rfl) (fun _ _ _ h => h) (Or.inl ⟨by rfl, ?_⟩) hHeld ?_
      rotate_left
      · first | (intro w hSw; (try dsimp only at hSw); go_simp; done) | (intro w hSw; (try dsimp only at hSw); go_simp; with_reducible rfl)
      try simp only [Act.put, List.setIfInBounds_toArray, List.set_cons_zero, List.set_cons_succ]
      refine wpAnyH_take (i := 3) (v := ?_) rfl (by kernel_rfl) (by kernel_rfl) (by kernel_rfl) (fun _ _ _ h => h) (Or.inl ⟨by rfl, ?_⟩) hHeld ?_
      rotate_left
      · first | (intro w hSw; (try dsimp only at hSw); go_simp; done) | (intro w hSw; (try dsimp only at hSw); go_simp; with_reducible rfl)
      try simp only [Act.put, List.setIfInBounds_toArray, List.set_cons_zero, List.set_cons_succ]
      refine wpAnyH_take (i := 4) (v := ?_) rfl (by kernel_rfl) (by kernel_rfl) (by kernel_rfl) (fun _ _ _ h => h) (Or.inl ⟨by rfl, ?_⟩) hHeld ?_
      rotate_left
      · first | (intro w hSw; (try dsimp only at hSw); go_simp; done) | (intro w hSw; (try dsimp only at hSw); go_simp; with_reducible rfl)
      try simp only [Act.put, List.setIfInBounds_toArray, List.set_cons_zero, List.set_cons_succ]
      refine wpAnyH_take (i := 5) (v := ?_) rfl (by kernel_rfl) (by kernel_rfl) (by kernel_rfl) (fun _ _ _ h => h) (Or.inl ⟨by rfl, ?_⟩) hHeld ?_
      rotate_left
      · first | (intro w hSw; (try dsimp only at hSw); go_simp; done) | (intro w hSw; (try dsimp only at hSw); go_simp; with_reducible rfl)
      try simp only [Act.put, List.setIfInBounds_toArray, List.set_cons_zero, List.set_cons_succ]
      refine wpAnyH_take (i := 6) (v := ?_) rfl (by kernel_rfl) (by kernel_rfl) (by kernel_rfl) (fun _ _ _ h => h) (Or.inl ⟨by rfl, ?_⟩) hHeld ?_
      rotate_left
      · first | (intro w hSw; (try dsimp only at hSw); go_simp; done) | (intro w hSw; (try dsimp only at hSw); go_simp; with_reducible rfl)
      try simp only [Act.put, List.setIfInBounds_toArray, List.set_cons_zero, List.set_cons_succ]
      refine wpAnyH_ready (rs := [7]) (by kernel_rfl) (by simp) ?_
      refine AllReadyH.cons rfl (fun K hK => ?_) AllReadyH.nil
      go_simp
      refine (hib.out _).mono ?_
      rintro e wz ⟨rfl, rfl⟩
      go_wp2_with fail
      refine hK.out _ _ (rfl) (fun hHeld => ?_)
      clear hK K
      try simp only [Act.put, List.setIfInBounds_toArray, List.set_cons_zero, List.set_cons_succ]
      refine wpAnyH_take (i := 8) (v := ?_) rfl (by kernel_rfl) (by kernel_rfl) (by kernel_rfl) (fun _ _ _ h => h) (Or.inl ⟨by rfl, ?_⟩) hHeld ?_
      rotate_left
      · first | (intro w hSw; (try dsimp only at hSw); go_simp; done) | (intro w hSw; (try dsimp only at hSw); go_simp; with_reducible rfl)
      try simp only [Act.put, List.setIfInBounds_toArray, List.set_cons_zero, List.set_cons_succ]
      refine wpAnyH_done (by kernel_rfl) ?_ _
      refine NoPanic.normal ?_
      go_wp2_with fail
      go_ret
      exact ⟨rfl, (Below.refl _ _).drew.drew⟩
  · have h3 : 3 ≤ rs.size := by omega
    have hI : (2 : Int) ≤ (rs.size : Int) - 1 := by omega
    have hw : IntKind.i64.wrap ((rs.size : Int) - 1) = (rs.size : Int) - 1 := IntWalk.i64_in _ (by omega)
    replace zl := Lib.hid zl
    go_step3
    go_wp2_with fail
    go_loopg [9] 0 (fun g iv wx => iv = .int .i64 ((rs.size : Int) - 1) ∧ wx = wz)
    case atStart => exact ⟨rfl, rfl⟩
    case round =>
      obtain ⟨rfl, rfl⟩ := hrel
      go_wp2_with fail
      rw [Exit.noGoto_ret]
      go_ret
      exact ⟨rfl, Below.refl _ _⟩
theorem indexRune_high (r : Int) (w : World) (h0 : 128 ≤ r) (h1 : r ≤ 2147483647) :
    Calls Tryd.prog 59 #[.string ⟨#[101, 69]⟩, .int .i32 r] w fun e w' => e = .returned (.int .i64 (-1)) ∧ Below w.heap.size w w' := by
  cases hv : Lib.validRune r
  · exact indexRune_bad r w h0 h1 hv
  · cases hne : (r == 65533)
    · exact indexRune_good r w h0 h1 hv hne
    · obtain rfl : r = 65533 := by simpa using hne
      exact indexRune_err w
def eEL : List UInt8 := [101, 69]
theorem noAny_more {l : List UInt8} {i n : Nat} (h : Lib.NoAny l eEL i) (hk : ∀ j, j < n → ∀ b, l[i + j]? = some b → 128 ≤ b.toNat) : Lib.NoAny l eEL (i + n) := fun j b hj hb => by
  by_cases e : j < i
  · exact h j b e hb
  · have h8 := hk (j - i) (by omega) b (by rw [show i + (j - i) = j by omega]; exact hb)
    simp only [eEL, List.contains_cons, List.contains_nil, Bool.or_false, Bool.or_eq_false_iff, beq_eq_false_iff_ne, ne_eq]
    constructor <;> (rintro rfl; revert h8; decide)
set_option maxRecDepth 1000000 in
set_option maxHeartbeats 8000000 in
theorem indexAny_short (s : ByteArray) (w : World) (h8 : s.size ≤ 8) :
    Calls Tryd.prog 50 #[.string s, .string ⟨#[101, 69]⟩] w fun e w' => e = .returned (.int .i64 (Lib.indexAny s.data.toList eEL)) ∧ Below w.heap.size w w' := by
  have h8z : decide ((8 : Int) < (s.size : Int)) = false := decide_eq_false (by omega)
  have hsa : Hid (∀ w, Calls Tryd.prog 60 #[.int .i64 (s.size : Int)] w fun e w' => e = .returned (.bool false) ∧ w' = w) := Lib.hid (fun w => by have := Tryd.strings_shouldUseASCIISet (s.size : Int) w; rw [h8z] at this; exact this)
  clear h8z
  have h8I : (s.size : Int) ≤ 8 := by omega
  go_enter Tryd.func50, Tryd.ntmps50
  go_wp2_with (go_at_call 60; refine (hsa.out _).mono ?_; rintro e wz ⟨rfl, rfl⟩)
  go_loopg [9, 10] s.size (fun g _ _ wx => ∃ i : Nat, i + g = s.size ∧ wx.heap[wz.heap.size]? = some (.stringIter s i) ∧ Below wz.heap.size wz wx ∧ Lib.NoAny s.data.toList eEL i)
  case atStart => exact ⟨0, by omega, World.iter_heap _ _ _, (Below.refl _ _).alloc (Nat.le_refl _) _, Lib.NoAny.zero _ _⟩
  case round =>
    obtain ⟨i, hig, hk, hbel, hno⟩ := hrel
    have HN := Lib.hid hno
    clear hno
    by_cases hi : i < s.size
    · obtain ⟨x, hx⟩ : ∃ x : UInt8, s[i]'hi = x := ⟨_, rfl⟩
      have hxl := Lib.hid (show s.data.toList[i]? = some x by rw [← hx]; exact Lib.data_getElem? s i hi)
      by_cases h128 : x.toNat < 128
      · have hnx := fun ty => Lib.run_next_ascii_at (P := Tryd.prog) wr wz.heap.size s i ty hk hi (by rw [hx]; exact h128)
        rw [hx] at hnx
        have hk2 := Lib.hid (Lib.iterAt_heap wr wz.heap.size s i (i + 1) hk)
        have hb2 := Lib.hid (below_iterAt hbel (Nat.le_refl _) s (i + 1))
        replace hx := Lib.hid hx
        have hcon := Lib.contains_iff_indexByte eEL x
        have hback : ((x.toNat : Int)).toNat.toUInt8 = x := by simp
        have hir := Lib.hid (fun w => Tryd.strings_IndexRune_ascii ⟨#[101, 69]⟩ (x.toNat : Int) w (by omega) (by omega))
        rw [hback] at hir
        replace hback := Lib.hid hback
        replace hir : Hid (∀ w, Calls Tryd.prog 59 #[.string ⟨#[101, 69]⟩, .int .i32 (x.toNat : Int)] w fun e w' => e = .returned (.int .i64 (Lib.indexByte eEL x)) ∧ w' = w) := hir
        generalize Lib.indexByte eEL x = q at hcon hir
        cases hin : eEL.contains x
        · rw [hin] at hcon
          have hlt : q < 0 := by have := of_decide_eq_false hcon.symm; omega
          clear hcon
          replace hin := Lib.hid hin
          go_wp2_with (go_at_call 59; refine (hir.out _).mono ?_; rintro e wy ⟨rfl, rfl⟩)
          go_roundg (s.size - (i + 1))
          case measure => omega
          case rel => exact ⟨i + 1, by omega, hk2.out, hb2.out, HN.out.succ hxl.out hin.out⟩
        · rw [hin] at hcon
          have hge : 0 ≤ q := of_decide_eq_true hcon.symm
          clear hcon
          replace hin := Lib.hid hin
          go_wp2_with (go_at_call 59; refine (hir.out _).mono ?_; rintro e wy ⟨rfl, rfl⟩)
          go_ret
          exact ⟨by rw [Lib.indexAny_hit HN.out hxl.out hin.out]; rfl, hb2.out⟩
      · have hxx : 128 ≤ (s[i]'hi).toNat := by rw [hx]; omega
        have hd := decode_high s i hi hxx
        have hle := decode_le s i
        obtain ⟨hz, hsk⟩ := decode_skip s i hi hxx
        have hnx := fun ty => Lib.run_next_any_at (P := Tryd.prog) wr wz.heap.size s i ty hk hi
        have hnew := Lib.hid (noAny_more (n := (Utf8.decode s i).2) HN.out (fun j hj b hb => by
          have hlt : i + j < s.size := by omega
          have := Lib.data_getElem? s (i + j) hlt
          rw [this] at hb
          rw [← Option.some.inj hb]; exact hsk j hlt hj))
        clear hsk
        generalize hr : (Utf8.decode s i).1 = r at hd hle hnx
        generalize hn : (Utf8.decode s i).2 = n at hd hz hnx hnew
        replace hr := Lib.hid hr
        replace hn := Lib.hid hn
        have hk2 := Lib.iterAt_heap wr wz.heap.size s i (i + n) hk
        have hb2 := Lib.hid (below_iterAt hbel (Nat.le_refl _) s (i + n))
        have hir := Lib.hid (fun w => indexRune_high (r : Int) w (by omega) (by omega))
        replace hd := Lib.hid hd
        replace hle := Lib.hid hle
        replace hk2 := Lib.hid hk2
        clear hxx h128
        go_wp2_with (go_at_call 59; refine (hir.out _).mono ?_; rintro e wy ⟨rfl, hby⟩)
        go_roundg (s.size - (i + n))
        case measure => have := hd.out; omega
        case rel =>
          have hlt : wz.heap.size < (wr.iterAt wz.heap.size s (i + n)).heap.size := (Array.getElem?_eq_some_iff.1 hk2.out).1
          exact ⟨i + n, by omega, by rw [hby.block _ hlt]; exact hk2.out, hb2.out.trans (hby.mono (Nat.le_of_lt hlt)), hnew.out⟩
    · obtain rfl : i = s.size := by omega
      have hnx := fun ty => Lib.run_next_end_at (P := Tryd.prog) wr wz.heap.size s s.size ty hk hi
      go_wp2_with fail
      go_ret
      exact ⟨by rw [Lib.indexAny_none (by rw [← Lib.size_eq]; exact HN.out)]; rfl, hbel⟩
set_option maxRecDepth 1000000 in
set_option maxHeartbeats 8000000 in
theorem indexAny_long (s : ByteArray) (w : World) (h8 : 8 < s.size) (hs : s.size ≤ 140737488355328) :
    Calls Tryd.prog 50 #[.string s, .string ⟨#[101, 69]⟩] w fun e w' => e = .returned (.int .i64 (Lib.indexAny s.data.toList eEL)) ∧ Below w.heap.size w w' := by
  have hz116 := zero_of_info (P := Tryd.prog) (t := 64) (v := .agg (Array.replicate 256 (.bool false))) (n := 256) (by kernel_rfl)
  have h8z : decide ((8 : Int) < (s.size : Int)) = true := decide_eq_true (by omega)
  have hsa : Hid (∀ w, Calls Tryd.prog 60 #[.int .i64 (s.size : Int)] w fun e w' => e = .returned (.bool true) ∧ w' = w) := Lib.hid (fun w => by have := Tryd.strings_shouldUseASCIISet (s.size : Int) w; rw [h8z] at this; exact this)
  clear h8z
  obtain ⟨set, hset⟩ : ∃ c, Lib.setCells eEL = c := ⟨_, rfl⟩
  have hM : Hid (∀ w, Calls Tryd.prog 44 #[.string ⟨#[101, 69]⟩] w fun e w' => e = .returned (.tuple #[.agg set, .bool true]) ∧ w' = w.alloc (.cells set 64)) := Lib.hid (fun w => by
    rw [← hset]
    exact Tryd.strings_makeASCIISet hz116.1 ⟨#[101, 69]⟩ w (by decide) (fun j b hb => by
      have : b ∈ ([101, 69] : List UInt8) := List.mem_of_getElem? hb
      simp at this
      rcases this with rfl | rfl <;> decide))
  have hsz : set.size = 256 := by rw [← hset]; exact Lib.setCells_size _
  have h1c : set.all (·.oneCell') = true := by rw [← hset]; exact Lib.setCells_one _
  have hat : ∀ x : UInt8, set[x.toNat]? = some (.bool (eEL.contains x)) := fun x => by rw [← hset]; exact Lib.setCells_at _ x
  have hsc : (storeCells ⟨w.heap.size + 1, 0, none⟩ set.toList 0).run Tryd.prog ((w.alloc (.cells set 64)).alloc (.cells (Array.replicate 256 (.bool false)) 64)) = .ok () ((w.alloc (.cells set 64)).alloc (.cells set 64)) := by
    have := run_storeCells_new (P := Tryd.prog) (w.alloc (.cells set 64)) 64 (Array.replicate 256 (.bool false)) set (by rw [hsz]; exact hz116.2) (by rw [hsz, Array.size_replicate]) h1c
    simpa using this
  have hv := hz116.1
  have HC : Hid (∀ x : UInt8, ((w.alloc (.cells set 64)).alloc (.cells set 64)).cell? ⟨w.heap.size + 1, x.toNat, none⟩ = some (.bool (eEL.contains x))) := Lib.hid (fun x => by
    rw [World.cell?_alloc_at _ _ _ _ (by simp), hat])
  have hbW : Below w.heap.size w ((w.alloc (.cells set 64)).alloc (.cells set 64)) := ((Below.refl _ _).alloc (Nat.le_refl _) _).alloc (by simp) _
  replace hat := Lib.hid hat
  replace hset := Lib.hid hset
  replace h1c := Lib.hid h1c
  replace hz116 := Lib.hid hz116
  go_enter Tryd.func50, Tryd.ntmps50
  go_wp2_with (first
    | (go_at_call 60; refine (hsa.out _).mono ?_; rintro e wz ⟨rfl, rfl⟩)
    | (go_at_call 44; refine (hM.out _).mono ?_; rintro e wz ⟨rfl, rfl⟩))
  generalize (wz.alloc (.cells set 64)).alloc (.cells set 64) = W2 at HC hbW ⊢
  clear hsc hv
  go_loopg [8] s.size (fun g s8 wx => ∃ i : Nat, i + g = s.size ∧ s8 = .int .i64 i ∧ wx = W2 ∧ Hid (Lib.NoAny s.data.toList eEL i))
  case atStart => exact ⟨0, by omega, rfl, rfl, Lib.hid (Lib.NoAny.zero _ _)⟩
  case round =>
    obtain ⟨i, hig, rfl, rfl, HN⟩ := hrel
    by_cases hi : i < s.size
    · have hiz : (i : Int) < (s.size : Int) := by omega
      obtain ⟨x, hx⟩ : ∃ x : UInt8, s[i]'hi = x := ⟨_, rfl⟩
      have hxl := Lib.hid (show s.data.toList[i]? = some x by rw [← hx]; exact Lib.data_getElem? s i hi)
      have hcx := HC.out x
      have hwr : IntKind.i64.wrap ((i : Int) + 1) = (i : Int) + 1 := IntWalk.i64_in _ (by omega)
      cases hin : eEL.contains x
      all_goals
        rw [hin] at hcx
        have hct := Lib.hid (Tryd.asciiSet_contains _ x _ _ hcx)
        replace hin := Lib.hid hin
        clear hcx
      · go_wp2_with (go_at_call 55; refine hct.out.mono ?_; rintro e wy ⟨rfl, rfl⟩)
        go_roundg (s.size - (i + 1))
        case measure => omega
        case rel => exact ⟨i + 1, by omega, by go_num, rfl, Lib.hid (HN.out.succ hxl.out hin.out)⟩
      · go_wp2_with (go_at_call 55; refine hct.out.mono ?_; rintro e wy ⟨rfl, rfl⟩)
        go_ret
        exact ⟨by rw [Lib.indexAny_hit HN.out hxl.out hin.out]; rfl, hbW⟩
    · obtain rfl : i = s.size := by omega
      have hiz : ¬ ((s.size : Int) < (s.size : Int)) := by omega
      go_wp2_with fail
      go_ret
      exact ⟨by rw [Lib.indexAny_none (by rw [← Lib.size_eq]; exact HN.out)]; rfl, hbW⟩
theorem anyE_all (s : ByteArray) (hs : s.size ≤ 140737488355328) : AnyE s := by
  intro w
  by_cases h : s.size ≤ 8
  · refine (indexAny_short s w h).mono ?_
    rintro e w' ⟨rfl, hb⟩
    exact ⟨by rw [ByteArray.toList_eq]; rfl, hb⟩
  · refine (indexAny_long s w (by omega) hs).mono ?_
    rintro e w' ⟨rfl, hb⟩
    exact ⟨by rw [ByteArray.toList_eq]; rfl, hb⟩
end Go.Proofs.YtbejimncmfeggaaDoor
