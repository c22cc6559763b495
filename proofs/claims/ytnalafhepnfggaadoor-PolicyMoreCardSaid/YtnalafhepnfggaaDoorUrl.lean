/- Addresses as values; the contract of serial.Path. -/
import Derived.Test.YtnalafhepnfggaaDoorHostW
import Derived.Test.YtnalafhepnfggaaDoorBuilder
namespace Go.Proofs.YtnalafhepnfggaaDoor
open Go.RowKit
set_option linter.unusedVariables false

/-- An address. -/
structure UrlS where
  scheme : ByteArray
  user : ByteArray
  pass : ByteArray
  host : HostS
  hasPort : Bool
  port : Int
  flatP : Bool
  flat : ByteArray
  pathA : Option Addr
  pathC : Nat
  path : List ByteArray
  hasQuery : Bool
  query : ByteArray
  hasFrag : Bool
  frag : ByteArray
/-- .. as a value. -/
def urlC (u : UrlS) : Array Value := #[.string u.scheme, .string u.user, .string u.pass, .int .i64 u.host.kind, .string u.host.name, .int .u32 (u.host.four : Int), .int .u16 ((pc u.host.six 0 : Nat) : Int), .int .u16 ((pc u.host.six 1 : Nat) : Int), .int .u16 ((pc u.host.six 2 : Nat) : Int), .int .u16 ((pc u.host.six 3 : Nat) : Int), .int .u16 ((pc u.host.six 4 : Nat) : Int), .int .u16 ((pc u.host.six 5 : Nat) : Int), .int .u16 ((pc u.host.six 6 : Nat) : Int), .int .u16 ((pc u.host.six 7 : Nat) : Int),
  .bool u.hasPort, .int .i64 u.port, .bool u.flatP, .string u.flat, .slice u.pathA u.path.length u.pathC, .bool u.hasQuery, .string u.query, .bool u.hasFrag, .string u.frag]
/-- The path's text. -/
def pathT (l : List ByteArray) : List UInt8 := l.flatMap fun t => 47 :: t.toList
def pathX (u : UrlS) : List UInt8 := if u.flatP then u.flat.toList else pathT u.path
/-- The path's cells can be read in this world. -/
def PathIn (w : World) (u : UrlS) : Prop := 0 < u.path.length → ∃ g o, u.pathA = some ⟨g, o, none⟩ ∧ ∀ i (h : i < u.path.length), w.cell? ⟨g, o + i, none⟩ = some (.string u.path[i])
theorem PathIn.below {w w' : World} {K : Nat} {u : UrlS} (h : PathIn w u) (hb : Below K w w') (hK : w.heap.size ≤ K) : PathIn w' u := by
  intro h0
  obtain ⟨g, o, e, hc⟩ := h h0
  refine ⟨g, o, e, fun i hi => ?_⟩
  have := World.block_lt_of_cell? w _ (hc i hi)
  rw [hb.cell (by simp at this ⊢; omega)]
  exact hc i hi
theorem pathT_snoc {l : List ByteArray} {k : Nat} (h : k < l.length) : pathT (l.take (k + 1)) = pathT (l.take k) ++ 47 :: l[k].toList := by
  unfold pathT; rw [List.take_succ_eq_append_getElem h, List.flatMap_append]; simp
theorem pathT_le (l : List ByteArray) (k : Nat) : (pathT (l.take k)).length ≤ (pathT l).length := by
  have : pathT l = pathT (l.take k) ++ pathT (l.drop k) := by unfold pathT; rw [← List.flatMap_append, List.take_append_drop]
  rw [this, List.length_append]; omega

set_option maxRecDepth 100000 in
set_option maxHeartbeats 1000000 in
theorem path_any (u : UrlS) (w : World) (hp : PathIn w u) (hl : (pathT u.path).length ≤ 549755813888) (hn : u.path.length ≤ maxLen) :
    Calls Tryd.prog 37 #[.agg (urlC u)] w (RetS w (pathX u)) := by
  have hb1 : Below w.heap.size w (w.alloc (.cells (urlC u) 31)) := (Below.refl _ _).alloc (Nat.le_refl _) _
  have hb2 : Below (w.heap.size + 1) (w.alloc (.cells (urlC u) 31)) ((w.alloc (.cells (urlC u) 31)).alloc (.cells #[.pointer none, .slice none 0 0] 64)) := (Below.refl _ _).alloc (by simp) _
  have hbl : Bld ((w.alloc (.cells (urlC u) 31)).alloc (.cells #[.pointer none, .slice none 0 0] 64)) (w.heap.size + 1) (w.heap.size + 1) [] := by
    have := Bld.fresh (w.alloc (.cells (urlC u) 31)); simpa using this
  have hX : Hid (pathX u = if u.flatP then u.flat.toList else pathT u.path) := rfl
  unfold maxLen at hn
  replace hp := Lib.hid hp
  unfold urlC at hb1 hb2 hbl ⊢
  cases hop : u.flatP
  · rw [hop] at hX hb1 hb2 hbl
    replace hop := Lib.hid hop
    go_enter Tryd.func37, Tryd.ntmps37
    go_wp2_with fail
    have hbw := hb1.trans (hb2.mono (by omega))
    go_loopw [13] (fun iv wr => ∃ k : Nat, iv = .int .i64 k ∧ k ≤ u.path.length ∧ Bld wr (w.heap.size + 1) (w.heap.size + 1) (pathT (u.path.take k)) ∧ Below w.heap.size w wr ∧ w.heap.size + 1 ≤ wr.heap.size) (fun i _ => u.path.length - (intOf i).toNat)
    case atStart => exact ⟨0, rfl, Nat.zero_le _, hbl, hbw, by simp⟩
    case round =>
      obtain ⟨k, rfl, hk, hbld, hbel, hsz⟩ := hrel
      clear hb1 hb2 hbl hbw
      have hle := pathT_le u.path k
      by_cases hlt : k < u.path.length
      · obtain ⟨g, o, hpa, hcc⟩ := hp.out (by omega)
        have x1 := hcc k hlt
        have b1 := World.block_lt_of_cell? w _ x1
        have y1 : wr.cell? ⟨g, o + k, none⟩ = some (.string u.path[k]) := (hbel.cell (by simpa using b1)).trans x1
        have hle2 := pathT_le u.path (k + 1)
        have hsn := pathT_snoc hlt
        have hz : (pathT (u.path.take k)).length + (1 + u.path[k].size) ≤ 549755813888 := by
          rw [hsn, List.length_append] at hle2; simp [size_toList] at hle2; omega
        have hltI : (k : Int) < (u.path.length : Int) := by omega
        replace hsn := Lib.hid hsn
        clear hcc x1 b1 hle hle2
        rw [hpa]
        go_wp2_with fail
        refine (writeByte_any _ _ _ 47 _ rfl _ hbld (by omega) hsz).mono ?_
        rintro e w3 ⟨rfl, hbld3, hb3⟩
        have hs3 := hb3.size
        go_wp2_with fail
        refine (writeString_any _ _ _ u.path[k] _ hbld3 (by simp; omega) (by omega) (by omega)).mono ?_
        rintro e w4 ⟨rfl, hbld4, hb4⟩
        have hs4 := hb4.size
        go_wp2_with fail
        go_roundw
        case rel => exact ⟨k + 1, by go_num, by omega, by rw [hsn.out]; simpa using hbld4, (hbel.trans (hb3.mono (by omega))).trans (hb4.mono (by omega)), by omega⟩
        case measure => simp [intOf]; omega
      · have hfin : Hid (pathX u = pathT (u.path.take k)) := Lib.hid (by rw [hX.out, List.take_of_length_le (by omega)]; rfl)
        have hgeI : (u.path.length : Int) ≤ (k : Int) := by omega
        go_wp2_with fail
        refine (builderString_any _ _ _ _ hbld hsz).mono ?_
        rintro e w3 ⟨t, rfl, ht, hb3⟩
        go_wp2_with fail
        go_ret
        exact retS (ht.out.trans hfin.out.symm) (hbel.trans (hb3.mono (by omega)))
  · rw [hop] at hX hb1
    replace hop := Lib.hid hop
    clear hb2 hbl
    go_enter Tryd.func37, Tryd.ntmps37
    go_wp2_with fail
    go_ret
    exact retS (by rw [hX.out]; rfl) hb1
end Go.Proofs.YtnalafhepnfggaaDoor
