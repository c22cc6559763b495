/- The walk of SrcsetWords. -/
import Derived.Test.YtbejimncmfeggaaDoorSrcK
import Derived.Test.YtbejimncmfeggaaDoorSrcR
import Derived.Test.YtbejimncmfeggaaDoorRefText
import Derived.Deep.DeepCutAuto
namespace Go.Proofs.YtbejimncmfeggaaDoor
open Go.RowKit
set_option linter.unusedVariables false
set_option linter.unusedSimpArgs false

/-- Rows that stand where they were put. -/
structure Boxes (w0 w : World) (l : List (Nat × Array Value)) : Prop where
  below : Below w0.heap.size w0 w
  box : ∀ p ∈ l, w.heap[p.1]? = some (.cells p.2 27 (0, 0))
theorem Boxes.next {w0 w w' : World} {l : List (Nat × Array Value)} (h : Boxes w0 w l) (hb : Below w.heap.size w w') : Boxes w0 w' l :=
  ⟨h.below.next hb, fun p hp => (hb.block _ (Array.getElem?_eq_some_iff.1 (h.box p hp)).1).trans (h.box p hp)⟩
theorem Boxes.alloc {w0 w : World} {l : List (Nat × Array Value)} (h : Boxes w0 w l) (o : Obj) : Boxes w0 (w.alloc o) l := h.next ((Below.refl _ _).alloc (Nat.le_refl _) o)
theorem Boxes.push {w0 w : World} {l : List (Nat × Array Value)} (h : Boxes w0 w l) (cs : Array Value) : Boxes w0 (w.alloc (.cells cs 27)) ((w.heap.size, cs) :: l) :=
  ⟨(h.alloc _).below, fun p hp => by
    rcases List.mem_cons.1 hp with rfl | hp
    · exact heap_alloc_new w _
    · exact (h.alloc _).box p hp⟩
theorem Boxes.sub {w0 w : World} {l l' : List (Nat × Array Value)} (h : Boxes w0 w l) (hs : ∀ p ∈ l', p ∈ l) : Boxes w0 w l' := ⟨h.below, fun p hp => h.box p (hs p hp)⟩
theorem describe_case (ws : List ByteArray) (n : Nat) (hn : ws.length = n) (o : Option DSt) (st : DSt) (p : Bool) (hs : o.getD d0 = st) (hp : o.isSome = p) (hd : descL (ws.map (·.toList)) = o) (v : Value) (w : World) (hr : ReadS w v ws) (hz : ∀ x ∈ ws, x.size ≤ 1000000) (hl : n ≤ 1000000) :
    Calls Tryd.prog 11 #[v] w fun e w' => ∃ pb nb cb, e = .returned (.tuple #[.agg (candC e0 (.slice pb nb cb) st), .bool p]) ∧ Below w.heap.size w w' := by
  subst hn
  refine (describe_any v ws w hr hz hl).mono ?_
  rintro e w' (⟨hn, rfl, hb⟩ | ⟨st', wv, h, rfl, ho, hb⟩)
  · have := hn.out
    rw [hd] at this
    subst this
    subst hs; subst hp
    exact ⟨none, 0, 0, rfl, hb⟩
  · have := h.out
    rw [hd] at this
    subst this
    subst hs; subst hp
    obtain ⟨pb, cb, rfl, -⟩ := ho.read
    exact ⟨pb, _, cb, rfl, hb⟩
theorem dgl_size {m n : Nat} (hm : m ≤ 10) (hn : n ≤ 9223372036854775807) : (dgl m n).length ≤ 29 := by
  unfold dgl
  rw [List.length_append, List.length_replicate, digL_ten]
  have := decDigits_le 18 n (Nat.lt_of_le_of_lt hn (by decide))
  omega
set_option maxRecDepth 100000 in
set_option maxHeartbeats 20000000 in
theorem srcsetWords_walk (a b : Int) (w : World) (wa : (Lit.int .i64 a).wf = true) (wb : (Lit.int .i64 b).wf = true) :
    Calls Tryd.prog 5 #[.int .i64 a, .int .i64 b] w (RetB w true) := by
  have hB : Below w.heap.size w w := Below.refl _ _
  have wa2 := bounds_i64 wa
  clear wa wb
  go_enter Tryd.func5, Tryd.ntmps5
  go_wp2_with fail
  refine (small19_any _).mono ?_
  rintro e w1 ⟨rfl, hb⟩
  replace hB := hB.next hb
  clear hb
  by_cases hout : a < 0 ∨ b < 0 ∨ 10 < b
  · have hway : a < 0 ∨ (0 ≤ a ∧ b < 0) ∨ (0 ≤ a ∧ 0 ≤ b ∧ 10 < b) := by omega
    clear hout
    rcases hway with q1 | ⟨q1, q2⟩ | ⟨q1, q2, q3⟩
    all_goals
      go_wp2_with fail
      go_ret
      exact ⟨rfl, hB⟩
  obtain ⟨n, rfl⟩ : ∃ n : Nat, a = (n : Int) := ⟨a.toNat, by omega⟩
  obtain ⟨m, rfl⟩ : ∃ m : Nat, b = (m : Int) := ⟨b.toNat, by omega⟩
  have hn : n ≤ 9223372036854775807 := by omega
  have hm : m ≤ 10 := by omega
  have q1 : (0 : Int) ≤ (n : Int) := by omega
  have q2 : (0 : Int) ≤ (m : Int) := by omega
  have q3 : (m : Int) ≤ 10 := by omega
  have hsz := dgl_size hm hn
  clear hout wa2
  go_wp2_with fail
  refine (text13_any (n : Int) _ (by omega) (by omega)).mono ?_
  rintro e w2 ⟨t, rfl, ht, hb⟩
  replace hB := hB.next hb
  clear hb
  have ht2 : Hid (t.toList = digL 10 n) := Lib.hid (by rw [ht.out, itoa_pos, digL_ten])
  clear ht
  go_wp2_with fail
  go_loop [6, 7] (fun sv iv => ∃ (k : Nat) (S : ByteArray), iv = .int .i64 k ∧ sv = .string S ∧ k ≤ m ∧ Hid (S.toList = dgl k n)) (fun _ iv => m - (intOf iv).toNat)
  case atStart => exact ⟨0, t, rfl, rfl, Nat.zero_le _, Lib.hid (by rw [ht2.out]; rfl)⟩
  case round =>
    obtain ⟨k, S, rfl, rfl, hk, hS⟩ := hrel
    have hSz : S.size ≤ 29 := by
      rw [← size_toList, hS.out]
      exact dgl_size (by omega) hn
    by_cases hkm : k < m
    · have hkI : (k : Int) < (m : Int) := by omega
      have hnew : Hid ((⟨#[48]⟩ ++ S : ByteArray).toList = dgl (k + 1) n) := Lib.hid (by
        rw [toList_append, hS.out, show (ByteArray.mk #[48]).toList = [48] from toList_mk _]
        unfold dgl
        rw [List.replicate_succ]; rfl)
      go_wp2_with fail
      go_round
      case rel => exact ⟨k + 1, _, by go_num, rfl, by omega, hnew⟩
      case measure => simp [intOf]; omega
    · have hkI : (m : Int) ≤ (k : Int) := by omega
      obtain rfl : k = m := by omega
      have eS : ∀ c : UInt8, (S ++ ⟨#[c]⟩ : ByteArray).toList = dgl k n ++ [c] := fun c => by rw [toList_append, hS.out, show (ByteArray.mk #[c]).toList = [c] from toList_mk _]
      have zS : ∀ c : UInt8, (S ++ ⟨#[c]⟩ : ByteArray).size ≤ 1000000 := fun c => by rw [ByteArray.size_append]; show S.size + 1 ≤ _; omega
      have zS0 : S.size ≤ 1000000 := by omega
      have zI : (S.size : Int) = ((dgl k n).length : Int) := by rw [← hS.out, size_toList]
      obtain ⟨st1, hst1⟩ : ∃ st, Hid ((if 0 < n then some (stW n) else none : Option DSt).getD d0 = st) := ⟨_, Lib.hid rfl⟩
      obtain ⟨st2, hst2⟩ : ∃ st, Hid ((if 0 < n then some (stH n) else none : Option DSt).getD d0 = st) := ⟨_, Lib.hid rfl⟩
      obtain ⟨st3, hst3⟩ : ∃ st, Hid ((if (dgl k n).length ≤ 15 then some (stX n) else none : Option DSt).getD d0 = st) := ⟨_, Lib.hid rfl⟩
      obtain ⟨p1, hp1⟩ : ∃ p, Hid ((if 0 < n then some (stW n) else none : Option DSt).isSome = p) := ⟨_, Lib.hid rfl⟩
      obtain ⟨p2, hp2⟩ : ∃ p, Hid ((if 0 < n then some (stH n) else none : Option DSt).isSome = p) := ⟨_, Lib.hid rfl⟩
      obtain ⟨p3, hp3⟩ : ∃ p, Hid ((if (dgl k n).length ≤ 15 then some (stX n) else none : Option DSt).isSome = p) := ⟨_, Lib.hid rfl⟩
      have hn0 : Hid ((none : Option DSt).getD d0 = d0) := Lib.hid rfl
      have hnS : Hid ((none : Option DSt).isSome = false) := Lib.hid rfl
      replace zI := Lib.hid zI
      replace eS := Lib.hid eS
      replace zS := Lib.hid zS
      have hX : Boxes w w2 [] := ⟨hB, fun p hp => by cases hp⟩
      clear hsz ht2
      go_wp2_with fail
      replace hX := hX.alloc (.cells #[.string (S ++ (⟨#[119]⟩ : ByteArray))] 9)
      have hr0 : ReadS (w2.alloc (.cells #[.string (S ++ (⟨#[119]⟩ : ByteArray))] 9)) (.slice (some ⟨w2.heap.size, 0, none⟩) 1 1) [(S ++ (⟨#[119]⟩ : ByteArray))] := builtAt w2 9 [(S ++ (⟨#[119]⟩ : ByteArray))] 1 w2.heap.size rfl
      have hz0 : ∀ x ∈ [(S ++ (⟨#[119]⟩ : ByteArray))], x.size ≤ 1000000 := by
        intro x hx
        simp only [List.mem_cons, List.not_mem_nil, or_false] at hx
        subst hx
        exact zS.out 119
      have hd0 : descL ([(S ++ (⟨#[119]⟩ : ByteArray))].map (·.toList)) = (if 0 < n then some (stW n) else none) := by
        simp only [List.map_cons, List.map_nil, eS.out 119]
        exact desc_w hn
      refine (describe_case [(S ++ (⟨#[119]⟩ : ByteArray))] 1 rfl _ st1 p1 hst1.out hp1.out hd0 _ _ hr0 hz0 (by decide)).mono ?_
      rintro e w3 ⟨pb0, nb0, cb0, rfl, hb⟩
      replace hX := hX.next hb
      clear hb hr0 hz0 hd0
      go_wp2_with (refine wpList_store_newC rfl 27 _ _ rfl rfl (candC e0 (.slice pb0 nb0 cb0) st1) 27 _ _ rfl rfl rfl (candInfo _ _ _) rfl (candCells _ _ _ _ _) ?_)
      replace hX := (hX.push (candC e0 (.slice pb0 nb0 cb0) st1)).alloc (.cells #[.string (S ++ (⟨#[104]⟩ : ByteArray)), .string (S ++ (⟨#[119]⟩ : ByteArray))] 9)
      have hr1 : ReadS ((w3.alloc (.cells (candC e0 (.slice pb0 nb0 cb0) st1) 27)).alloc (.cells #[.string (S ++ (⟨#[104]⟩ : ByteArray)), .string (S ++ (⟨#[119]⟩ : ByteArray))] 9)) (.slice (some ⟨(w3.heap.size + 1), 0, none⟩) 2 2) [(S ++ (⟨#[104]⟩ : ByteArray)), (S ++ (⟨#[119]⟩ : ByteArray))] := builtAt (w3.alloc (.cells (candC e0 (.slice pb0 nb0 cb0) st1) 27)) 9 [(S ++ (⟨#[104]⟩ : ByteArray)), (S ++ (⟨#[119]⟩ : ByteArray))] 2 (w3.heap.size + 1) (by simp)
      have hz1 : ∀ x ∈ [(S ++ (⟨#[104]⟩ : ByteArray)), (S ++ (⟨#[119]⟩ : ByteArray))], x.size ≤ 1000000 := by
        intro x hx
        simp only [List.mem_cons, List.not_mem_nil, or_false] at hx
        rcases hx with rfl | rfl
        · exact zS.out 104
        · exact zS.out 119
      have hd1 : descL ([(S ++ (⟨#[104]⟩ : ByteArray)), (S ++ (⟨#[119]⟩ : ByteArray))].map (·.toList)) = (if 0 < n then some (stH n) else none) := by
        simp only [List.map_cons, List.map_nil, eS.out 104, eS.out 119]
        exact desc_hw hn
      refine (describe_case [(S ++ (⟨#[104]⟩ : ByteArray)), (S ++ (⟨#[119]⟩ : ByteArray))] 2 rfl _ st2 p2 hst2.out hp2.out hd1 _ _ hr1 hz1 (by decide)).mono ?_
      rintro e w4 ⟨pb1, nb1, cb1, rfl, hb⟩
      replace hX := hX.next hb
      clear hb hr1 hz1 hd1
      go_wp2_with (refine wpList_store_newC rfl 27 _ _ rfl rfl (candC e0 (.slice pb1 nb1 cb1) st2) 27 _ _ rfl rfl rfl (candInfo _ _ _) rfl (candCells _ _ _ _ _) ?_)
      replace hX := (hX.push (candC e0 (.slice pb1 nb1 cb1) st2)).alloc (.cells #[.string (S ++ (⟨#[120]⟩ : ByteArray))] 9)
      have hr2 : ReadS ((w4.alloc (.cells (candC e0 (.slice pb1 nb1 cb1) st2) 27)).alloc (.cells #[.string (S ++ (⟨#[120]⟩ : ByteArray))] 9)) (.slice (some ⟨(w4.heap.size + 1), 0, none⟩) 1 1) [(S ++ (⟨#[120]⟩ : ByteArray))] := builtAt (w4.alloc (.cells (candC e0 (.slice pb1 nb1 cb1) st2) 27)) 9 [(S ++ (⟨#[120]⟩ : ByteArray))] 1 (w4.heap.size + 1) (by simp)
      have hz2 : ∀ x ∈ [(S ++ (⟨#[120]⟩ : ByteArray))], x.size ≤ 1000000 := by
        intro x hx
        simp only [List.mem_cons, List.not_mem_nil, or_false] at hx
        subst hx
        exact zS.out 120
      have hd2 : descL ([(S ++ (⟨#[120]⟩ : ByteArray))].map (·.toList)) = (if (dgl k n).length ≤ 15 then some (stX n) else none) := by
        simp only [List.map_cons, List.map_nil, eS.out 120]
        exact desc_x k n
      refine (describe_case [(S ++ (⟨#[120]⟩ : ByteArray))] 1 rfl _ st3 p3 hst3.out hp3.out hd2 _ _ hr2 hz2 (by decide)).mono ?_
      rintro e w5 ⟨pb2, nb2, cb2, rfl, hb⟩
      replace hX := hX.next hb
      clear hb hr2 hz2 hd2
      go_wp2_with (refine wpList_store_newC rfl 27 _ _ rfl rfl (candC e0 (.slice pb2 nb2 cb2) st3) 27 _ _ rfl rfl rfl (candInfo _ _ _) rfl (candCells _ _ _ _ _) ?_)
      replace hX := (hX.push (candC e0 (.slice pb2 nb2 cb2) st3)).alloc (.cells #[.string (S ++ (⟨#[119]⟩ : ByteArray)), .string (S ++ (⟨#[119]⟩ : ByteArray))] 9)
      have hr3 : ReadS ((w5.alloc (.cells (candC e0 (.slice pb2 nb2 cb2) st3) 27)).alloc (.cells #[.string (S ++ (⟨#[119]⟩ : ByteArray)), .string (S ++ (⟨#[119]⟩ : ByteArray))] 9)) (.slice (some ⟨(w5.heap.size + 1), 0, none⟩) 2 2) [(S ++ (⟨#[119]⟩ : ByteArray)), (S ++ (⟨#[119]⟩ : ByteArray))] := builtAt (w5.alloc (.cells (candC e0 (.slice pb2 nb2 cb2) st3) 27)) 9 [(S ++ (⟨#[119]⟩ : ByteArray)), (S ++ (⟨#[119]⟩ : ByteArray))] 2 (w5.heap.size + 1) (by simp)
      have hz3 : ∀ x ∈ [(S ++ (⟨#[119]⟩ : ByteArray)), (S ++ (⟨#[119]⟩ : ByteArray))], x.size ≤ 1000000 := by
        intro x hx
        simp only [List.mem_cons, List.not_mem_nil, or_false] at hx
        rcases hx with rfl | rfl
        · exact zS.out 119
        · exact zS.out 119
      have hd3 : descL ([(S ++ (⟨#[119]⟩ : ByteArray)), (S ++ (⟨#[119]⟩ : ByteArray))].map (·.toList)) = (none) := by
        simp only [List.map_cons, List.map_nil, eS.out 119]
        exact desc_ww hn
      refine (describe_case [(S ++ (⟨#[119]⟩ : ByteArray)), (S ++ (⟨#[119]⟩ : ByteArray))] 2 rfl _ d0 false hn0.out hnS.out hd3 _ _ hr3 hz3 (by decide)).mono ?_
      rintro e w6 ⟨pb3, nb3, cb3, rfl, hb⟩
      replace hX := hX.next hb
      clear hb hr3 hz3 hd3
      go_wp2_with (refine wpList_store_newC rfl 27 _ _ rfl rfl (candC e0 (.slice pb3 nb3 cb3) d0) 27 _ _ rfl rfl rfl (candInfo _ _ _) rfl (candCells _ _ _ _ _) ?_)
      replace hX := (hX.push (candC e0 (.slice pb3 nb3 cb3) d0)).alloc (.cells #[.string (S ++ (⟨#[120]⟩ : ByteArray)), .string (S ++ (⟨#[120]⟩ : ByteArray))] 9)
      have hr4 : ReadS ((w6.alloc (.cells (candC e0 (.slice pb3 nb3 cb3) d0) 27)).alloc (.cells #[.string (S ++ (⟨#[120]⟩ : ByteArray)), .string (S ++ (⟨#[120]⟩ : ByteArray))] 9)) (.slice (some ⟨(w6.heap.size + 1), 0, none⟩) 2 2) [(S ++ (⟨#[120]⟩ : ByteArray)), (S ++ (⟨#[120]⟩ : ByteArray))] := builtAt (w6.alloc (.cells (candC e0 (.slice pb3 nb3 cb3) d0) 27)) 9 [(S ++ (⟨#[120]⟩ : ByteArray)), (S ++ (⟨#[120]⟩ : ByteArray))] 2 (w6.heap.size + 1) (by simp)
      have hz4 : ∀ x ∈ [(S ++ (⟨#[120]⟩ : ByteArray)), (S ++ (⟨#[120]⟩ : ByteArray))], x.size ≤ 1000000 := by
        intro x hx
        simp only [List.mem_cons, List.not_mem_nil, or_false] at hx
        rcases hx with rfl | rfl
        · exact zS.out 120
        · exact zS.out 120
      have hd4 : descL ([(S ++ (⟨#[120]⟩ : ByteArray)), (S ++ (⟨#[120]⟩ : ByteArray))].map (·.toList)) = (none) := by
        simp only [List.map_cons, List.map_nil, eS.out 120]
        exact desc_xx k n
      refine (describe_case [(S ++ (⟨#[120]⟩ : ByteArray)), (S ++ (⟨#[120]⟩ : ByteArray))] 2 rfl _ d0 false hn0.out hnS.out hd4 _ _ hr4 hz4 (by decide)).mono ?_
      rintro e w7 ⟨pb4, nb4, cb4, rfl, hb⟩
      replace hX := hX.next hb
      clear hb hr4 hz4 hd4
      go_wp2_with (refine wpList_store_newC rfl 27 _ _ rfl rfl (candC e0 (.slice pb4 nb4 cb4) d0) 27 _ _ rfl rfl rfl (candInfo _ _ _) rfl (candCells _ _ _ _ _) ?_)
      replace hX := (hX.push (candC e0 (.slice pb4 nb4 cb4) d0)).alloc (.cells #[.string (S ++ (⟨#[120]⟩ : ByteArray)), .string (S ++ (⟨#[119]⟩ : ByteArray))] 9)
      have hr5 : ReadS ((w7.alloc (.cells (candC e0 (.slice pb4 nb4 cb4) d0) 27)).alloc (.cells #[.string (S ++ (⟨#[120]⟩ : ByteArray)), .string (S ++ (⟨#[119]⟩ : ByteArray))] 9)) (.slice (some ⟨(w7.heap.size + 1), 0, none⟩) 2 2) [(S ++ (⟨#[120]⟩ : ByteArray)), (S ++ (⟨#[119]⟩ : ByteArray))] := builtAt (w7.alloc (.cells (candC e0 (.slice pb4 nb4 cb4) d0) 27)) 9 [(S ++ (⟨#[120]⟩ : ByteArray)), (S ++ (⟨#[119]⟩ : ByteArray))] 2 (w7.heap.size + 1) (by simp)
      have hz5 : ∀ x ∈ [(S ++ (⟨#[120]⟩ : ByteArray)), (S ++ (⟨#[119]⟩ : ByteArray))], x.size ≤ 1000000 := by
        intro x hx
        simp only [List.mem_cons, List.not_mem_nil, or_false] at hx
        rcases hx with rfl | rfl
        · exact zS.out 120
        · exact zS.out 119
      have hd5 : descL ([(S ++ (⟨#[120]⟩ : ByteArray)), (S ++ (⟨#[119]⟩ : ByteArray))].map (·.toList)) = (none) := by
        simp only [List.map_cons, List.map_nil, eS.out 120, eS.out 119]
        exact desc_xw hn
      refine (describe_case [(S ++ (⟨#[120]⟩ : ByteArray)), (S ++ (⟨#[119]⟩ : ByteArray))] 2 rfl _ d0 false hn0.out hnS.out hd5 _ _ hr5 hz5 (by decide)).mono ?_
      rintro e w8 ⟨pb5, nb5, cb5, rfl, hb⟩
      replace hX := hX.next hb
      clear hb hr5 hz5 hd5
      go_wp2_with (refine wpList_store_newC rfl 27 _ _ rfl rfl (candC e0 (.slice pb5 nb5 cb5) d0) 27 _ _ rfl rfl rfl (candInfo _ _ _) rfl (candCells _ _ _ _ _) ?_)
      replace hX := (hX.push (candC e0 (.slice pb5 nb5 cb5) d0)).alloc (.cells #[.string S] 9)
      have hr6 : ReadS ((w8.alloc (.cells (candC e0 (.slice pb5 nb5 cb5) d0) 27)).alloc (.cells #[.string S] 9)) (.slice (some ⟨(w8.heap.size + 1), 0, none⟩) 1 1) [S] := builtAt (w8.alloc (.cells (candC e0 (.slice pb5 nb5 cb5) d0) 27)) 9 [S] 1 (w8.heap.size + 1) (by simp)
      have hz6 : ∀ x ∈ [S], x.size ≤ 1000000 := by
        intro x hx
        simp only [List.mem_cons, List.not_mem_nil, or_false] at hx
        subst hx
        exact zS0
      have hd6 : descL ([S].map (·.toList)) = (none) := by
        simp only [List.map_cons, List.map_nil, hS.out]
        exact desc_d k n
      refine (describe_case [S] 1 rfl _ d0 false hn0.out hnS.out hd6 _ _ hr6 hz6 (by decide)).mono ?_
      rintro e w9 ⟨pb6, nb6, cb6, rfl, hb⟩
      replace hX := hX.next hb
      clear hb hr6 hz6 hd6
      go_upto_region 16 with (refine wpList_store_newC rfl 27 _ _ rfl rfl (candC e0 (.slice pb6 nb6 cb6) d0) 27 _ _ rfl rfl rfl (candInfo _ _ _) rfl (candCells _ _ _ _ _) ?_)
      go_cut [22, 23] (fun s22 s23 wx => s23 = .bool false ∧ Boxes w wx [(w5.heap.size, candC e0 (.slice pb2 nb2 cb2) st3), (w4.heap.size, candC e0 (.slice pb1 nb1 cb1) st2), (w3.heap.size, candC e0 (.slice pb0 nb0 cb0) st1)])
      case first => as_aux_lemma =>
        go_wp2_with fail
        replace hX := (hX.push (candC e0 (.slice pb6 nb6 cb6) d0)).alloc (.cells #[.string (S ++ (⟨#[87]⟩ : ByteArray))] 9)
        have hr7 : ReadS ((w9.alloc (.cells (candC e0 (.slice pb6 nb6 cb6) d0) 27)).alloc (.cells #[.string (S ++ (⟨#[87]⟩ : ByteArray))] 9)) (.slice (some ⟨(w9.heap.size + 1), 0, none⟩) 1 1) [(S ++ (⟨#[87]⟩ : ByteArray))] := builtAt (w9.alloc (.cells (candC e0 (.slice pb6 nb6 cb6) d0) 27)) 9 [(S ++ (⟨#[87]⟩ : ByteArray))] 1 (w9.heap.size + 1) (by simp)
        have hz7 : ∀ x ∈ [(S ++ (⟨#[87]⟩ : ByteArray))], x.size ≤ 1000000 := by
          intro x hx
          simp only [List.mem_cons, List.not_mem_nil, or_false] at hx
          subst hx
          exact zS.out 87
        have hd7 : descL ([(S ++ (⟨#[87]⟩ : ByteArray))].map (·.toList)) = (none) := by
          simp only [List.map_cons, List.map_nil, eS.out 87]
          exact desc_cap k n
        refine (describe_case [(S ++ (⟨#[87]⟩ : ByteArray))] 1 rfl _ d0 false hn0.out hnS.out hd7 _ _ hr7 hz7 (by decide)).mono ?_
        rintro e w10 ⟨pb7, nb7, cb7, rfl, hb⟩
        replace hX := hX.next hb
        clear hb hr7 hz7 hd7
        go_wp2_with (refine wpList_store_newC rfl 27 _ _ rfl rfl (candC e0 (.slice pb7 nb7 cb7) d0) 27 _ _ rfl rfl rfl (candInfo _ _ _) rfl (candCells _ _ _ _ _) ?_)
        go_meet
        exact ⟨rfl, (hX.alloc _).sub (fun p hp => by simp only [List.mem_cons, List.not_mem_nil, or_false] at hp ⊢; rcases hp with rfl | rfl | rfl <;> simp only [true_or, or_true])⟩
      case rest =>
        obtain ⟨rfl, hX⟩ := hcut
        have hwa : (p1 = true ∧ p2 = true ∧ (0 : Int) < (n : Int) ∧ Hid (st1 = stW n) ∧ Hid (st2 = stH n)) ∨ (p1 = false ∧ p2 = false ∧ (n : Int) ≤ 0) := by
          by_cases h : 0 < n
          · exact .inl ⟨by rw [← hp1.out, if_pos h]; rfl, by rw [← hp2.out, if_pos h]; rfl, by omega, Lib.hid (by rw [← hst1.out, if_pos h]; rfl), Lib.hid (by rw [← hst2.out, if_pos h]; rfl)⟩
          · exact .inr ⟨by rw [← hp1.out, if_neg h]; rfl, by rw [← hp2.out, if_neg h]; rfl, by omega⟩
        have hwb : (p3 = true ∧ (S.size : Int) ≤ 15 ∧ Hid (st3 = stX n) ∧ Hid ((FloatKind.f64.format.order (floatOfInt .f64 (n : Int)) (floatOfInt .f64 (n : Int)) == some .eq) = true)) ∨ (p3 = false ∧ (15 : Int) < (S.size : Int)) := by
          by_cases h : (dgl k n).length ≤ 15
          · exact .inl ⟨by rw [← hp3.out, if_pos h]; rfl, by rw [zI.out]; omega, Lib.hid (by rw [← hst3.out, if_pos h]; rfl), Lib.hid (order_same (noNaN_toldI (lt53 h)))⟩
          · exact .inr ⟨by rw [← hp3.out, if_neg h]; rfl, by rw [zI.out]; omega⟩
        clear hst1 hst2 hst3 hp1 hp2 hp3 hn0 hnS eS zS
        have g12 := hX.box _ (List.mem_cons_self ..)
        have g10 := hX.box _ (List.mem_cons_of_mem _ (List.mem_cons_self ..))
        have g8 := hX.box _ (List.mem_cons_of_mem _ (List.mem_cons_of_mem _ (List.mem_cons_self ..)))
        dsimp only at g8 g10 g12
        have xg8_2 := (cell_of_row _ _ 2 _ _ _ g8).trans (show (candC e0 (.slice pb0 nb0 cb0) st1)[2]? = some (.bool st1.hw) from rfl)
        have xg8_3 := (cell_of_row _ _ 3 _ _ _ g8).trans (show (candC e0 (.slice pb0 nb0 cb0) st1)[3]? = some (.int .i64 st1.w) from rfl)
        have xg8_4 := (cell_of_row _ _ 4 _ _ _ g8).trans (show (candC e0 (.slice pb0 nb0 cb0) st1)[4]? = some (.bool st1.hh) from rfl)
        have xg8_6 := (cell_of_row _ _ 6 _ _ _ g8).trans (show (candC e0 (.slice pb0 nb0 cb0) st1)[6]? = some (.bool st1.hd) from rfl)
        have xg10_3 := (cell_of_row _ _ 3 _ _ _ g10).trans (show (candC e0 (.slice pb1 nb1 cb1) st2)[3]? = some (.int .i64 st2.w) from rfl)
        have xg10_5 := (cell_of_row _ _ 5 _ _ _ g10).trans (show (candC e0 (.slice pb1 nb1 cb1) st2)[5]? = some (.int .i64 st2.h) from rfl)
        have xg10_4 := (cell_of_row _ _ 4 _ _ _ g10).trans (show (candC e0 (.slice pb1 nb1 cb1) st2)[4]? = some (.bool st2.hh) from rfl)
        have xg12_6 := (cell_of_row _ _ 6 _ _ _ g12).trans (show (candC e0 (.slice pb2 nb2 cb2) st3)[6]? = some (.bool st3.hd) from rfl)
        have xg12_7 := (cell_of_row _ _ 7 _ _ _ g12).trans (show (candC e0 (.slice pb2 nb2 cb2) st3)[7]? = some (.float .f64 st3.d) from rfl)
        have xg12_2 := (cell_of_row _ _ 2 _ _ _ g12).trans (show (candC e0 (.slice pb2 nb2 cb2) st3)[2]? = some (.bool st3.hw) from rfl)
        replace hX := Lib.hid hX
        clear g8 g10 g12
        rcases hwa with ⟨rfl, rfl, qn, h1, h2⟩ | ⟨rfl, rfl, qn⟩
        · obtain rfl := h1.out
          obtain rfl := h2.out
          simp only [stW] at xg8_2 xg8_3 xg8_4 xg8_6
          simp only [stH] at xg10_3 xg10_5 xg10_4
          rcases hwb with ⟨rfl, qs, h3, ho⟩ | ⟨rfl, qs⟩
          · obtain rfl := h3.out
            simp only [stX] at xg12_6 xg12_7 xg12_2
            replace ho := ho.out
            go_upto_region 19 with fail
            refine wp_region_lit ?_
            simp only [List.append]
            go_wp2_with fail
            all_goals
              go_ret
              exact ⟨rfl, hX.out.below⟩
          · go_upto_region 19 with fail
            refine wp_region_lit ?_
            simp only [List.append]
            go_wp2_with fail
            all_goals
              go_ret
              exact ⟨rfl, hX.out.below⟩
        · rcases hwb with ⟨rfl, qs, h3, ho⟩ | ⟨rfl, qs⟩
          · obtain rfl := h3.out
            simp only [stX] at xg12_6 xg12_7 xg12_2
            replace ho := ho.out
            go_upto_region 19 with fail
            refine wp_region_lit ?_
            simp only [List.append]
            go_wp2_with fail
            all_goals
              go_ret
              exact ⟨rfl, hX.out.below⟩
          · go_upto_region 19 with fail
            refine wp_region_lit ?_
            simp only [List.append]
            go_wp2_with fail
            all_goals
              go_ret
              exact ⟨rfl, hX.out.below⟩
end Go.Proofs.YtbejimncmfeggaaDoor
