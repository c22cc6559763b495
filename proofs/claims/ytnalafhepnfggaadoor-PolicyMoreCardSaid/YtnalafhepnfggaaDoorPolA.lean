/- The contract of policy.Allows. -/
import Derived.Test.YtnalafhepnfggaaDoorPolW
import Derived.Test.YtnalafhepnfggaaDoorMimeD
import Derived.Deep.MidRow
namespace Go.Proofs.YtnalafhepnfggaaDoor
open Go.RowKit
set_option linter.unusedVariables false
set_option linter.unusedSimpArgs false

/-- Two boxes, the call's first blocks. -/
structure Box2 (w wx : World) (A : Array Value) (TA : TypeId) (B : Array Value) (TB : TypeId) : Prop where
  below : Below w.heap.size w wx
  a : wx.heap[w.heap.size]? = some (.cells A TA (0, 0))
  b : wx.heap[w.heap.size + 1]? = some (.cells B TB (0, 0))
  size : w.heap.size + 2 ≤ wx.heap.size
theorem Box2.start (w : World) (A : Array Value) (TA : TypeId) (B : Array Value) (TB : TypeId) : Box2 w ((w.alloc (.cells A TA)).alloc (.cells B TB)) A TA B TB :=
  ⟨((Below.refl _ _).alloc (Nat.le_refl _) _).alloc (by simp) _, heap_alloc2_old w _ _, heap_new (by simp), by simp⟩
theorem Box2.keep {w wx w' : World} {A : Array Value} {TA : TypeId} {B : Array Value} {TB : TypeId} (h : Box2 w wx A TA B TB) (hb : Below wx.heap.size wx w') : Box2 w w' A TA B TB :=
  ⟨h.below.next hb, (hb.block _ (by have := h.size; omega)).trans h.a, (hb.block _ (by have := h.size; omega)).trans h.b, by have := hb.size; have := h.size; omega⟩
theorem host_range {w : World} {g : Nat} {u : UrlS} {T : TypeId} (h : w.heap[g]? = some (.cells (urlC u) T (0, 0))) : w.rangeAt g 3 (hostC u.host).toList := fun j v hv => by
  have e := cell_of_row w g (3 + j) _ _ _ h
  rw [e]
  match j, hv with
  | 0, hv => exact hv
  | 1, hv => exact hv
  | 2, hv => exact hv
  | 3, hv => exact hv
  | 4, hv => exact hv
  | 5, hv => exact hv
  | 6, hv => exact hv
  | 7, hv => exact hv
  | 8, hv => exact hv
  | 9, hv => exact hv
  | 10, hv => exact hv
  | n + 11, hv => exact absurd (List.getElem?_eq_some_iff.1 hv).1 (by show ¬ n + 11 < 11; omega)
theorem hostInfoL (h : HostS) : (Tryd.prog.info? 29).map (·.size) = some (hostC h).toList.length := by rw [hostInfo]; rfl
set_option maxRecDepth 100000 in
set_option maxHeartbeats 4000000 in
theorem allows_any (p : PolS) (u : UrlS) (w : World) (hp : PolIn w p) (hpu : PathIn w u) (fit : UrlFit u) (hz : (writeX u false).length ≤ 900000) (ht : Tabs w) (hm : ML w) :
    Calls Tryd.prog 8 #[.agg (polC p), .agg (urlC u)] w (RetB w (allowsA p.schemes.l p.hosts.l p.types.l u)) := by
  have hI := Box2.start w (polC p) 24 (urlC u) 31
  have x0 := (cell_of_row _ _ 0 _ _ _ hI.b).trans (show (urlC u)[0]? = some (.string u.scheme) from rfl)
  have hA : Hid (allowsA p.schemes.l p.hosts.l p.types.l u = (oneOf p.schemes.l u.scheme.toList && hostA p.hosts.l u.host && typeA p.types.l u)) := rfl
  go_enter Tryd.func8, Tryd.ntmps8
  go_wp2_with (refine wpList_load_row rfl 24 _ rfl w.heap.size rfl _ (polC p) _ _ hI.a Tryd.underlying24 rfl polInfo ?_)
  refine (schemeP_any p u.scheme _ (hp.below hI.below (Nat.le_refl _))).mono ?_
  rintro e w1 ⟨rfl, hb⟩
  replace hI := hI.keep hb
  clear hb x0
  have x0 := (cell_of_row _ _ 0 _ _ _ hI.b).trans (show (urlC u)[0]? = some (.string u.scheme) from rfl)
  obtain ⟨b1, hb1⟩ : ∃ b, oneOf p.schemes.l u.scheme.toList = b := ⟨_, rfl⟩
  rw [hb1] at hA ⊢
  replace hb1 := Lib.hid hb1
  cases b1
  · have hno : Hid (allowsA p.schemes.l p.hosts.l p.types.l u = false) := Lib.hid (by rw [hA.out]; rfl)
    go_wp2_with fail
    go_ret
    exact ⟨ret_bool hno.out.symm, hI.below⟩
  go_wp2_with (first
    | (refine wpList_load_row rfl 24 _ rfl w.heap.size rfl _ (polC p) _ _ hI.a Tryd.underlying24 rfl polInfo ?_)
    | (refine wpList_unguard (by rfl) ?_; refine wpList_load_row rfl 24 _ rfl w.heap.size rfl _ (polC p) _ _ hI.a Tryd.underlying24 rfl polInfo ?_)
    | (refine wpList_load_mid rfl 29 _ rfl (w.heap.size + 1) 3 rfl (hostC u.host).toList _ (host_range hI.b) Tryd.underlying29 rfl (hostInfoL _) ?_)
    | (refine wpList_unguard (by rfl) ?_; refine wpList_load_mid rfl 29 _ rfl (w.heap.size + 1) 3 rfl (hostC u.host).toList _ (host_range hI.b) Tryd.underlying29 rfl (hostInfoL _) ?_))
  refine (hostP_any p u.host _ (hp.below hI.below (Nat.le_refl _)) fit.host (ht.next hI.below)).mono ?_
  rintro e w2 ⟨rfl, hb⟩
  replace hI := hI.keep hb
  clear hb x0
  have x0 := (cell_of_row _ _ 0 _ _ _ hI.b).trans (show (urlC u)[0]? = some (.string u.scheme) from rfl)
  obtain ⟨b2, hb2⟩ : ∃ b, hostA p.hosts.l u.host = b := ⟨_, rfl⟩
  rw [hb2] at hA ⊢
  replace hb2 := Lib.hid hb2
  cases b2
  · have hno : Hid (allowsA p.schemes.l p.hosts.l p.types.l u = false) := Lib.hid (by rw [hA.out]; rfl)
    go_wp2_with fail
    go_ret
    exact ⟨ret_bool hno.out.symm, hI.below⟩
  by_cases hd : u.scheme.toList = dataW
  · have hdI : (u.scheme.toList == [100, 97, 116, 97]) = true := by rw [hd]; rfl
    have hdN : (u.scheme.toList != [100, 97, 116, 97]) = false := by rw [hd]; rfl
    have hT : Hid (allowsA p.schemes.l p.hosts.l p.types.l u = match dataU u with | none => false | some e => oneOf p.types.l e) := Lib.hid (by
      rw [hA.out]; unfold typeA; rw [if_pos hd]; rfl)
    clear hA
    replace hd := Lib.hid hd
    go_wp2_with (refine wpList_load_row rfl 31 _ rfl (w.heap.size + 1) rfl _ (urlC u) _ _ hI.b Tryd.underlying31 rfl urlInfo ?_)
    refine (data_any u _ (hpu.below hI.below (Nat.le_refl _)) fit hz (ht.next hI.below) (hm.next hI.below)).mono ?_
    rintro e w3 ⟨t, rfl, htx, hb⟩
    replace hI := hI.keep hb
    clear hb x0
    obtain ⟨o, ho⟩ : ∃ o, dataU u = o := ⟨_, rfl⟩
    rw [ho] at hT htx ⊢
    replace ho := Lib.hid ho
    cases o with
    | none =>
      have hno : Hid (allowsA p.schemes.l p.hosts.l p.types.l u = false) := hT
      go_wp2_with fail
      go_ret
      exact ⟨ret_bool hno.out.symm, hI.below⟩
    | some l =>
      have hyes : Hid (allowsA p.schemes.l p.hosts.l p.types.l u = oneOf p.types.l t.toList) := Lib.hid (by rw [hT.out, htx.out]; rfl)
      clear htx hT
      go_wp2_with (first
        | (refine wpList_load_row rfl 24 _ rfl w.heap.size rfl _ (polC p) _ _ hI.a Tryd.underlying24 rfl polInfo ?_)
        | (refine wpList_unguard (by rfl) ?_; refine wpList_load_row rfl 24 _ rfl w.heap.size rfl _ (polC p) _ _ hI.a Tryd.underlying24 rfl polInfo ?_))
      refine (typeP_any p t _ (hp.below hI.below (Nat.le_refl _))).mono ?_
      rintro e w4 ⟨rfl, hb⟩
      replace hI := hI.keep hb
      clear hb
      go_wp2_with fail
      go_ret
      exact ⟨ret_bool hyes.out.symm, hI.below⟩
  · have hdI : (u.scheme.toList == [100, 97, 116, 97]) = false := by simpa [dataW] using hd
    have hdN : (u.scheme.toList != [100, 97, 116, 97]) = true := by simpa [dataW] using hd
    have hyes : Hid (allowsA p.schemes.l p.hosts.l p.types.l u = true) := Lib.hid (by
      rw [hA.out]; unfold typeA; rw [if_neg hd]; rfl)
    replace hd := Lib.hid hd
    go_wp2_with fail
    go_ret
    exact ⟨ret_bool hyes.out.symm, hI.below⟩
end Go.Proofs.YtnalafhepnfggaaDoor
