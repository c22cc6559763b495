/- The contract of serial.Write. -/
import Derived.Test.YtnalafhepnfggaaDoorUrl
import Derived.Deep.Cut
import Derived.Lib.AppendIntMem
import Derived.Deep.CutRange
namespace Go.Proofs.YtnalafhepnfggaaDoor
open Go.RowKit
set_option linter.unusedVariables false

def whoL (u : UrlS) : List UInt8 := if u.user.toList = [] ∧ u.pass.toList = [] then [] else if u.pass.toList = [] then u.user.toList ++ [64] else u.user.toList ++ [58] ++ u.pass.toList ++ [64]
def optB (b : Bool) (l : List UInt8) : List UInt8 := if b then l else []
def portL (u : UrlS) : List UInt8 := optB u.hasPort ([58] ++ Lib.itoa u.port)
def firstE : List ByteArray → Bool
  | [] => false
  | t :: _ => t.toList.isEmpty
theorem bool_or (b : Bool) : b = false ∨ b = true := by cases b <;> simp
/-- Does a path begin so that it would look like a host? -/
def dotB (u : UrlS) : Bool := !u.flatP && (decide (2 ≤ u.path.length) && firstE u.path)
def aheadX (u : UrlS) : List UInt8 := if u.host.kind = 0 then optB (dotB u) [47, 46] else [47, 47] ++ whoL u ++ hostL u.host ++ portL u
def writeX (u : UrlS) (f : Bool) : List UInt8 := u.scheme.toList ++ [58] ++ aheadX u ++ pathX u ++ optB u.hasQuery ([63] ++ u.query.toList) ++ optB (u.hasFrag && f) ([35] ++ u.frag.toList)

/-- No piece of the address is too long. -/
structure UrlFit (u : UrlS) : Prop where
  scheme : u.scheme.size ≤ 34359738368
  user : u.user.size ≤ 34359738368
  pass : u.pass.size ≤ 34359738368
  name : u.host.name.size ≤ 34359738368
  flat : u.flat.size ≤ 34359738368
  query : u.query.size ≤ 34359738368
  frag : u.frag.size ≤ 34359738368
  path : (pathT u.path).length ≤ 34359738368
  pieces : u.path.length ≤ maxLen
  port : -9223372036854775808 ≤ u.port ∧ u.port ≤ 9223372036854775807
  host : HostOk u.host

theorem Bld.keep {w w' : World} {B b : Nat} {l : List UInt8} (h : Bld w B b l) (hb : Below w.heap.size w w') : Bld w' B b l := by
  have key : ∀ p, Lib.BuilderAt 64 5 B b p (Lib.byteCells l) w → Lib.BuilderAt 64 5 B b p (Lib.byteCells l) w' := by
    rintro p ⟨hB, v, hblk, hown, hne⟩
    exact ⟨hB, v, by rw [hb.block b (heap_lt hblk)]; exact hblk, owns_below hown hb (Nat.le_refl _), hne⟩
  rcases h with h | h
  · exact .inl (key _ h)
  · exact .inr (key _ h)
/-- The world in the middle of Write: the builder's bytes, and the address in its box. -/
structure InW (w wx : World) (u : UrlS) (P : List UInt8) : Prop where
  bld : Bld wx (w.heap.size + 1) (w.heap.size + 1) P
  below : Below w.heap.size w wx
  blk : wx.heap[w.heap.size]? = some (.cells (urlC u) 31 (0, 0))
  size : w.heap.size + 2 ≤ wx.heap.size
theorem InW.write {w wx w' : World} {u : UrlS} {P Q : List UInt8} (h : InW w wx u P) (hb : Below (w.heap.size + 1) wx w') (hq : Bld w' (w.heap.size + 1) (w.heap.size + 1) Q) : InW w w' u Q :=
  ⟨hq, h.below.trans (hb.mono (by omega)), (hb.block _ (by omega)).trans h.blk, by have := hb.size; have := h.size; omega⟩
theorem InW.box {w wx : World} {u : UrlS} {P : List UInt8} (h : InW w wx u P) (i : Nat) : wx.cell? ⟨w.heap.size, i, none⟩ = (urlC u)[i]? := cell_of_row _ _ _ _ _ _ h.blk
theorem urlInfo : (Tryd.prog.info? 31).map (·.size) = some 23 := by kernel_rfl
theorem InW.keep {w wx w' : World} {u : UrlS} {P : List UInt8} (h : InW w wx u P) (hb : Below wx.heap.size wx w') : InW w w' u P :=
  h.write (hb.mono (by have := h.size; omega)) (h.bld.keep hb)
theorem InW.cast {w wx : World} {u : UrlS} {P Q : List UInt8} (h : InW w wx u P) (e : P = Q) : InW w wx u Q := e ▸ h

theorem itoa_any (n : Int) (h0 : -9223372036854775808 ≤ n) (h1 : n ≤ 9223372036854775807) (w : World) (ht : Tabs w) :
    Calls Tryd.prog 36 #[.int .i64 n] w (RetS w (Lib.itoa n)) := by
  refine (Tryd.strconv_Itoa n h0 h1 w ht.1).mono ?_
  rintro e w' ⟨rfl, k, os, rfl⟩
  exact retS_mk rfl (Lib.below_grow _ w (Nat.le_refl _) k os)
theorem dec_len : ∀ (k u : Nat), u < 10 ^ (k + 1) → (Lib.decDigits u).length ≤ k + 1
  | 0, u, h => by rw [Lib.decDigits, dif_pos (by omega)]; simp
  | k + 1, u, h => by
    rw [Lib.decDigits]
    split
    · simp
    · have := dec_len k (u / 10) (by rw [Nat.pow_succ] at h; exact Nat.div_lt_of_lt_mul (by omega))
      rw [List.length_append]; simp; omega
theorem itoa_len (n : Int) (h0 : -9223372036854775808 ≤ n) (h1 : n ≤ 9223372036854775807) : (Lib.itoa n).length ≤ 40 := by
  unfold Lib.itoa
  split
  · have := dec_len 19 n.natAbs (by omega)
    simp; omega
  · have := dec_len 19 n.toNat (by omega)
    omega

set_option maxRecDepth 100000 in
set_option maxHeartbeats 1000000 in
theorem who_any (u : UrlS) (w : World) (h1 : u.user.size ≤ 34359738368) (h2 : u.pass.size ≤ 34359738368) :
    Calls Tryd.prog 35 #[.agg (urlC u)] w (RetS w (whoL u)) := by
  have hb1 : Below w.heap.size w (w.alloc (.cells (urlC u) 31)) := (Below.refl _ _).alloc (Nat.le_refl _) _
  unfold urlC at hb1 ⊢
  have hcs : (u.user.toList.isEmpty = true ∧ u.pass.toList.isEmpty = true ∧ Hid (whoL u = [])) ∨ (u.user.toList.isEmpty = false ∧ u.pass.toList.isEmpty = true ∧ Hid (whoL u = u.user.toList ++ [64])) ∨ (u.pass.toList.isEmpty = false ∧ Hid (whoL u = u.user.toList ++ [58] ++ u.pass.toList ++ [64])) := by
    cases hu : u.user.toList <;> cases hp : u.pass.toList
    · exact .inl ⟨rfl, rfl, Lib.hid (by simp [whoL, hu, hp])⟩
    · exact .inr (.inr ⟨rfl, Lib.hid (by simp [whoL, hu, hp])⟩)
    · exact .inr (.inl ⟨rfl, rfl, Lib.hid (by simp [whoL, hu, hp])⟩)
    · exact .inr (.inr ⟨rfl, Lib.hid (by simp [whoL, hu, hp])⟩)
  rcases hcs with ⟨e1, e2, e3⟩ | ⟨e1, e2, e3⟩ | ⟨e2, e3⟩
  · go_enter Tryd.func35, Tryd.ntmps35
    go_wp2_with fail
    go_ret
    exact retS ((toList_mk []).trans e3.out.symm) hb1
  · go_enter Tryd.func35, Tryd.ntmps35
    go_wp2_with fail
    go_ret
    exact retS (by rw [e3.out, toList_append, show (ByteArray.mk #[64]).toList = [64] from toList_mk _]) hb1
  · cases hu : u.user.toList.isEmpty
    all_goals
      go_enter Tryd.func35, Tryd.ntmps35
      go_wp2_with fail
      go_ret
      exact retS (by rw [e3.out, toList_append, toList_append, toList_append, show (ByteArray.mk #[64]).toList = [64] from toList_mk _, show (ByteArray.mk #[58]).toList = [58] from toList_mk _]) hb1
theorem first_piece (l : List ByteArray) (h : 0 < l.length) : firstE l = l[0].toList.isEmpty := by
  cases l with
  | nil => simp at h
  | cons t r => rfl
theorem urlC_at (u : UrlS) : (urlC u)[0]? = some (.string u.scheme) ∧ (urlC u)[1]? = some (.string u.user) ∧ (urlC u)[2]? = some (.string u.pass) ∧ (urlC u)[3]? = some (.int .i64 u.host.kind) ∧ (urlC u)[4]? = some (.string u.host.name) ∧ (urlC u)[5]? = some (.int .u32 (u.host.four : Int)) ∧ (urlC u)[6]? = some (.int .u16 ((pc u.host.six 0 : Nat) : Int)) ∧ (urlC u)[7]? = some (.int .u16 ((pc u.host.six 1 : Nat) : Int)) ∧ (urlC u)[8]? = some (.int .u16 ((pc u.host.six 2 : Nat) : Int)) ∧ (urlC u)[9]? = some (.int .u16 ((pc u.host.six 3 : Nat) : Int)) ∧ (urlC u)[10]? = some (.int .u16 ((pc u.host.six 4 : Nat) : Int)) ∧ (urlC u)[11]? = some (.int .u16 ((pc u.host.six 5 : Nat) : Int)) ∧ (urlC u)[12]? = some (.int .u16 ((pc u.host.six 6 : Nat) : Int)) ∧ (urlC u)[13]? = some (.int .u16 ((pc u.host.six 7 : Nat) : Int)) ∧ (urlC u)[14]? = some (.bool u.hasPort) ∧ (urlC u)[15]? = some (.int .i64 u.port) ∧ (urlC u)[16]? = some (.bool u.flatP) ∧ (urlC u)[17]? = some (.string u.flat) ∧ (urlC u)[18]? = some (.slice u.pathA u.path.length u.pathC) ∧ (urlC u)[19]? = some (.bool u.hasQuery) ∧ (urlC u)[20]? = some (.string u.query) ∧ (urlC u)[21]? = some (.bool u.hasFrag) ∧ (urlC u)[22]? = some (.string u.frag) :=
  ⟨rfl, rfl, rfl, rfl, rfl, rfl, rfl, rfl, rfl, rfl, rfl, rfl, rfl, rfl, rfl, rfl, rfl, rfl, rfl, rfl, rfl, rfl, rfl⟩
theorem urlC_fold (u : UrlS) : (#[.string u.scheme, .string u.user, .string u.pass, .int .i64 u.host.kind, .string u.host.name, .int .u32 (u.host.four : Int), .int .u16 ((pc u.host.six 0 : Nat) : Int), .int .u16 ((pc u.host.six 1 : Nat) : Int), .int .u16 ((pc u.host.six 2 : Nat) : Int), .int .u16 ((pc u.host.six 3 : Nat) : Int), .int .u16 ((pc u.host.six 4 : Nat) : Int), .int .u16 ((pc u.host.six 5 : Nat) : Int), .int .u16 ((pc u.host.six 6 : Nat) : Int), .int .u16 ((pc u.host.six 7 : Nat) : Int), .bool u.hasPort, .int .i64 u.port, .bool u.flatP, .string u.flat, .slice u.pathA u.path.length u.pathC, .bool u.hasQuery, .string u.query, .bool u.hasFrag, .string u.frag] : Array Value) = urlC u := rfl
theorem whoL_len (u : UrlS) (h1 : u.user.size ≤ 34359738368) (h2 : u.pass.size ≤ 34359738368) : (whoL u).length ≤ 68719476738 := by
  unfold whoL; split
  · simp
  · split <;> simp only [List.length_append, List.length_cons, List.length_nil, size_toList] <;> omega
theorem hostL_len (h : HostS) (hn : h.name.size ≤ 34359738368) : (hostL h).length ≤ 34359738368 := by
  have h1 := fourL_len h.four
  have h2 := sixL_len h.six
  unfold hostL; split
  · rw [size_toList]; exact hn
  · split
    · omega
    · split <;> simp <;> omega
theorem aheadX_len (u : UrlS) (fit : UrlFit u) : (aheadX u).length ≤ 103079215300 := by
  have h1 := whoL_len u fit.user fit.pass
  have h2 := hostL_len u.host fit.name
  have h3 := itoa_len u.port fit.port.1 fit.port.2
  unfold aheadX portL optB; split
  · split <;> simp
  · split <;> simp <;> omega

set_option maxRecDepth 100000 in
set_option maxHeartbeats 4000000 in
theorem write_any (u : UrlS) (f : Bool) (w : World) (hp : PathIn w u) (fit : UrlFit u) (ht : Tabs w) :
    Calls Tryd.prog 22 #[.agg (urlC u), .bool f] w (RetS w (writeX u f)) := by
  have hI : InW w ((w.alloc (.cells (urlC u) 31)).alloc (.cells #[.pointer none, .slice none 0 0] 64)) u [] := by
    refine ⟨?_, ((Below.refl _ _).alloc (Nat.le_refl _) _).alloc (by simp) _, heap_alloc2_old w _ _, by simp⟩
    have := Bld.fresh (w.alloc (.cells (urlC u) 31)); simpa using this
  have f1 := fit.scheme
  have f2 := fit.query
  have f3 := fit.frag
  have f4 := fit.path
  have f5 := fit.flat
  have hwl := whoL_len u fit.user fit.pass
  have hhl := hostL_len u.host fit.name
  have hal := aheadX_len u fit
  have hpx : (pathX u).length ≤ 34359738368 := by
    unfold pathX; split
    · rw [size_toList]; exact f5
    · exact f4
  replace hp := Lib.hid hp
  have hX : Hid (writeX u f = u.scheme.toList ++ [58] ++ aheadX u ++ pathX u ++ optB u.hasQuery ([63] ++ u.query.toList) ++ optB (u.hasFrag && f) ([35] ++ u.frag.toList)) := rfl
  obtain ⟨x0, x1, x2, x3, x4, x5, x6, x7, x8, x9, x10, x11, x12, x13, x14, x15, x16, x17, x18, x19, x20, x21, x22⟩ := urlC_at u
  go_enter Tryd.func22, Tryd.ntmps22
  go_wp2_with fail
  refine (writeString_any _ _ _ _ _ hI.bld (by simp) (by omega) (by have := hI.size; omega)).mono ?_
  rintro e w1 ⟨rfl, hbq, hbb⟩
  replace hI := hI.write hbb hbq
  clear hbq hbb
  rw [List.nil_append] at hI
  go_wp2_with fail
  refine (writeByte_any _ _ _ 58 _ rfl _ hI.bld (by rw [size_toList]; omega) (by have := hI.size; omega)).mono ?_
  rintro e w2 ⟨rfl, hbq, hbb⟩
  replace hI := hI.write hbb hbq
  clear hbq hbb
  have hbx := hI.box
  go_upto_if 13 with (fail)
  go_cut [] (fun wx => InW w wx u (u.scheme.toList ++ [58] ++ aheadX u))
  case first => as_aux_lemma =>
    clear hbx
    by_cases hk : u.host.kind = 0
    · have k1 : (u.host.kind != 0) = false := by simp [hk]
      have hdot : (u.flatP = true ∧ dotB u = false) ∨ (u.flatP = false ∧ (u.path.length : Int) < 2 ∧ dotB u = false) ∨ (u.flatP = false ∧ (2 : Int) ≤ (u.path.length : Int) ∧ ∃ g o t, u.pathA = some ⟨g, o, none⟩ ∧ w2.cell? ⟨g, o, none⟩ = some (.string t) ∧ t.toList.isEmpty = dotB u) := by
        unfold dotB
        cases hfl : u.flatP
        · by_cases h2 : 2 ≤ u.path.length
          · have hpw := hp.out.below hI.below (Nat.le_refl _)
            obtain ⟨g, o, e1, hc⟩ := hpw (by omega)
            have h0 := hc 0 (by omega)
            refine .inr (.inr ⟨rfl, by omega, g, o, u.path[0], e1, h0, ?_⟩)
            rw [first_piece u.path (by omega)]; simp [h2]
          · exact .inr (.inl ⟨rfl, by omega, by simp [h2]⟩)
        · exact .inl ⟨rfl, rfl⟩
      have hah : Hid (aheadX u = optB (dotB u) [47, 46]) := Lib.hid (by unfold aheadX; rw [if_pos hk])
      clear hk
      have hbx := hI.box
      rcases hdot with ⟨d1, d2⟩ | ⟨d1, d2, d3⟩ | ⟨d1, d2, g, o, t0, d3, d4, d5⟩
      · replace d2 := Lib.hid d2
        go_wp2_with fail
        go_meet
        exact hI.cast (by rw [hah.out, d2.out]; simp [optB])
      · replace d3 := Lib.hid d3
        go_wp2_with fail
        go_meet
        exact hI.cast (by rw [hah.out, d3.out]; simp [optB])
      · rcases bool_or (dotB u) with hd | hd
        · rw [hd] at d5
          replace hd := Lib.hid hd
          go_wp2_with fail
          go_meet
          exact hI.cast (by rw [hah.out, hd.out]; simp [optB])
        · rw [hd] at d5
          replace hd := Lib.hid hd
          go_wp2_with fail
          refine (writeString_any _ _ _ ⟨#[47, 46]⟩ _ hI.bld (by simp only [List.length_append, List.length_nil, List.length_cons, size_toList]; omega) (by decide) (by have := hI.size; omega)).mono ?_
          rintro e w3 ⟨rfl, hbq, hbb⟩
          replace hI := hI.write hbb hbq
          clear hbq hbb hbx
          go_wp2_with fail
          go_meet
          exact hI.cast (by rw [hah.out, hd.out, show (ByteArray.mk #[47, 46]).toList = [47, 46] from toList_mk _]; simp [optB])
    · have k1 : (u.host.kind != 0) = true := by simp [hk]
      have hah : Hid (aheadX u = [47, 47] ++ whoL u ++ hostL u.host ++ portL u) := Lib.hid (by unfold aheadX; rw [if_neg hk])
      clear hk
      have hbx := hI.box
      go_wp2_with fail
      refine (writeString_any _ _ _ ⟨#[47, 47]⟩ _ hI.bld (by simp only [List.length_append, List.length_nil, List.length_cons, size_toList]; omega) (by decide) (by have := hI.size; omega)).mono ?_
      rintro e w3 ⟨rfl, hbq, hbb⟩
      replace hI := hI.write hbb hbq
      rw [show (ByteArray.mk #[47, 47]).toList = [47, 47] from toList_mk _] at hI
      clear hbq hbb hbx
      have hbx := hI.box
      go_wp2_with (refine wpList_load_row rfl 31 _ rfl w.heap.size rfl _ (urlC u) _ _ hI.blk Tryd.underlying31 rfl urlInfo ?_)
      refine (who_any u _ fit.user fit.pass).mono ?_
      rintro e w4 ⟨t1, rfl, htt1, hbb⟩
      replace hI := hI.keep hbb
      have hts1 := sizeOfL htt1.out hwl
      clear hbb hbx
      go_wp2_with fail
      refine (writeString_any _ _ _ _ _ hI.bld (by simp only [List.length_append, List.length_nil, List.length_cons, size_toList]; omega) (by omega) (by have := hI.size; omega)).mono ?_
      rintro e w5 ⟨rfl, hbq, hbb⟩
      replace hI := hI.write hbb hbq
      clear hbq hbb
      have hbx := hI.box
      have htw := ht.next hI.below
      go_wp2_with fail
      refine (hostWrite_any u.host fit.host _ htw).mono ?_
      rintro e w6 ⟨t2, rfl, htt2, hbb⟩
      replace hI := hI.keep hbb
      have hts2 := sizeOfL htt2.out hhl
      clear hbb hbx htw
      go_wp2_with fail
      refine (writeString_any _ _ _ _ _ hI.bld (by simp only [List.length_append, List.length_nil, List.length_cons, size_toList]; omega) (by omega) (by have := hI.size; omega)).mono ?_
      rintro e w7 ⟨rfl, hbq, hbb⟩
      replace hI := hI.write hbb hbq
      clear hbq hbb
      rcases bool_or u.hasPort with hpt | hpt
      · have hbx := hI.box
        go_wp2_with fail
        go_meet
        exact hI.cast (by rw [hah.out, htt1.out, htt2.out]; simp [portL, optB, hpt])
      · have hpl : Hid (portL u = [58] ++ Lib.itoa u.port) := Lib.hid (by simp [portL, optB, hpt])
        have hbx := hI.box
        go_wp2_with fail
        refine (writeByte_any _ _ _ 58 _ rfl _ hI.bld (by simp only [List.length_append, List.length_nil, List.length_cons, size_toList]; omega) (by have := hI.size; omega)).mono ?_
        rintro e w3 ⟨rfl, hbq, hbb⟩
        replace hI := hI.write hbb hbq
        clear hbq hbb hbx
        have hbx := hI.box
        have htw := ht.next hI.below
        go_wp2_with fail
        refine (itoa_any u.port fit.port.1 fit.port.2 _ htw).mono ?_
        rintro e w3 ⟨t3, rfl, htt3, hbb⟩
        replace hI := hI.keep hbb
        have hts3 := sizeOfL htt3.out (itoa_len u.port fit.port.1 fit.port.2)
        clear hbb hbx
        go_wp2_with fail
        refine (writeString_any _ _ _ _ _ hI.bld (by simp only [List.length_append, List.length_nil, List.length_cons, size_toList]; omega) (by omega) (by have := hI.size; omega)).mono ?_
        rintro e w4 ⟨rfl, hbq, hbb⟩
        replace hI := hI.write hbb hbq
        clear hbq hbb
        go_wp2_with fail
        go_meet
        exact hI.cast (by rw [hah.out, htt1.out, htt2.out, htt3.out, hpl.out]; simp)
  case rest =>
    clear hI hbx
    replace hI := hcut
    clear hcut
    have hbx := hI.box
    have htw := ht.next hI.below
    go_wp2_with (refine wpList_load_row rfl 31 _ rfl w.heap.size rfl _ (urlC u) _ _ hI.blk Tryd.underlying31 rfl urlInfo ?_)
    refine (path_any u _ (hp.out.below hI.below (Nat.le_refl _)) (by omega) fit.pieces).mono ?_
    rintro e w3 ⟨t1, rfl, htt1, hbb⟩
    replace hI := hI.keep hbb
    have hts1 := sizeOfL htt1.out hpx
    clear hbb hbx htw
    go_wp2_with fail
    refine (writeString_any _ _ _ _ _ hI.bld (by simp only [List.length_append, List.length_nil, List.length_cons, size_toList]; omega) (by omega) (by have := hI.size; omega)).mono ?_
    rintro e w4 ⟨rfl, hbq, hbb⟩
    replace hI := hI.write hbb hbq
    rw [htt1.out] at hI
    clear hbq hbb htt1 hts1
    have hbx := hI.box
    go_upto_if 50 with (fail)
    go_cut [] (fun wx => InW w wx u (u.scheme.toList ++ [58] ++ aheadX u ++ pathX u ++ optB u.hasQuery ([63] ++ u.query.toList)))
    case first => as_aux_lemma =>
      rcases bool_or u.hasQuery with hq | hq
      · rw [hq]
        go_wp2_with fail
        go_meet
        exact hI.cast (by rw [hq]; simp [optB])
      · rw [hq]
        go_wp2_with fail
        refine (writeByte_any _ _ _ 63 _ rfl _ hI.bld (by simp only [List.length_append, List.length_nil, List.length_cons, size_toList]; omega) (by have := hI.size; omega)).mono ?_
        rintro e w5 ⟨rfl, hbq, hbb⟩
        replace hI := hI.write hbb hbq
        clear hbq hbb hbx
        have hbx := hI.box
        go_wp2_with fail
        refine (writeString_any _ _ _ _ _ hI.bld (by simp only [List.length_append, List.length_nil, List.length_cons, size_toList]; omega) (by omega) (by have := hI.size; omega)).mono ?_
        rintro e w6 ⟨rfl, hbq, hbb⟩
        replace hI := hI.write hbb hbq
        clear hbq hbb hbx
        go_wp2_with fail
        go_meet
        exact hI.cast (by rw [hq]; simp [optB])
    case rest =>
      clear hI hbx
      replace hI := hcut
      clear hcut
      have hbx := hI.box
      have hql : (optB u.hasQuery ([63] ++ u.query.toList)).length ≤ 34359738369 := by
        unfold optB; split <;> simp [size_toList] <;> omega
      go_upto_region 17 with fail
      go_cut [59] (fun s59 wx => s59 = .bool (u.hasFrag && f) ∧ InW w wx u (u.scheme.toList ++ [58] ++ aheadX u ++ pathX u ++ optB u.hasQuery ([63] ++ u.query.toList)))
      case first => as_aux_lemma =>
        rcases bool_or u.hasFrag with hq | hq
        · go_wp2_with fail
          go_meet
          exact ⟨by rw [hq]; rfl, hI⟩
        · go_wp2_with fail
          go_meet
          exact ⟨by rw [hq]; rfl, hI⟩
      case' rest =>
        clear hI hbx
        obtain ⟨rfl, hI⟩ := hcut
        have hbx := hI.box
      go_upto_if 59 with (fail)
      go_cut [] (fun wx => InW w wx u (writeX u f))
      case first => as_aux_lemma =>
        rcases bool_or (u.hasFrag && f) with hq | hq
        · rw [hq]
          go_wp2_with fail
          go_meet
          exact hI.cast (by rw [hX.out, hq]; simp [optB])
        · rw [hq]
          go_wp2_with fail
          refine (writeByte_any _ _ _ 35 _ rfl _ hI.bld (by simp only [List.length_append, List.length_nil, List.length_cons, size_toList]; omega) (by have := hI.size; omega)).mono ?_
          rintro e w5 ⟨rfl, hbq, hbb⟩
          replace hI := hI.write hbb hbq
          clear hbq hbb hbx
          have hbx := hI.box
          go_wp2_with fail
          refine (writeString_any _ _ _ _ _ hI.bld (by simp only [List.length_append, List.length_nil, List.length_cons, size_toList]; omega) (by omega) (by have := hI.size; omega)).mono ?_
          rintro e w6 ⟨rfl, hbq, hbb⟩
          replace hI := hI.write hbb hbq
          clear hbq hbb hbx
          go_wp2_with fail
          go_meet
          exact hI.cast (by rw [hX.out, hq]; simp [optB])
      case rest =>
        clear hI hbx
        replace hI := hcut
        clear hcut
        go_wp2_with fail
        refine (builderString_any _ _ _ _ hI.bld (by have := hI.size; omega)).mono ?_
        rintro e w7 ⟨t, rfl, htt, hbb⟩
        go_wp2_with fail
        go_ret
        exact retS htt.out (hI.below.trans (hbb.mono (by omega)))
end Go.Proofs.YtnalafhepnfggaaDoor
