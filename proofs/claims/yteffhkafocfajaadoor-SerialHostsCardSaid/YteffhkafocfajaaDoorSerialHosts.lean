/- The walk of SerialHosts. -/
import Derived.Test.YteffhkafocfajaaDoorLaws13
import Derived.Deep.RegionHeld3
import Derived.Lib.QuoteBits
namespace Go.Proofs.YteffhkafocfajaaDoor
open Go.RowKit
set_option linter.unusedVariables false

/-- Does a text begin with two slashes? -/
def twoB : List UInt8 → Bool
  | a :: b :: _ => a == 47 && b == 47
  | _ => false
/-- A piece that does not begin with a slash. -/
def noSl (t : ByteArray) : Bool := match t.toList with
  | a :: _ => a != 47
  | [] => true
def restL (u : UrlS) : List UInt8 := aheadX u ++ pathX u ++ optB u.hasQuery ([63] ++ u.query.toList) ++ optB u.hasFrag ([35] ++ u.frag.toList)
theorem rest_host (u : UrlS) (h : u.host.kind ≠ 0) : twoB (restL u) = true := by
  unfold restL aheadX; rw [if_neg h]; rfl
theorem rest_flat (u : UrlS) (h : u.host.kind = 0) (hf : u.flatP = true) : restL u = u.flat.toList ++ (optB u.hasQuery ([63] ++ u.query.toList) ++ optB u.hasFrag ([35] ++ u.frag.toList)) := by
  unfold restL aheadX; rw [if_pos h]; simp [dotB, hf, optB, pathX]
theorem twoB_quest (u : UrlS) : ∀ l : List UInt8, twoB (optB u.hasQuery ([63] ++ u.query.toList) ++ optB u.hasFrag ([35] ++ u.frag.toList)) = false ∧ twoB (47 :: (optB u.hasQuery ([63] ++ u.query.toList) ++ optB u.hasFrag ([35] ++ u.frag.toList))) = false := by
  intro l
  cases u.hasQuery <;> cases u.hasFrag
  · exact ⟨rfl, rfl⟩
  · cases h : u.frag.toList <;> exact ⟨rfl, rfl⟩
  · cases h : u.query.toList <;> exact ⟨rfl, rfl⟩
  · cases h : u.query.toList <;> exact ⟨rfl, rfl⟩
theorem rest_none (u : UrlS) (h : u.host.kind = 0) (hf : u.flatP = false) (hp : ∀ t ∈ u.path, noSl t = true) : twoB (restL u) = false := by
  unfold restL aheadX pathX; rw [if_pos h, hf, List.append_assoc]
  show twoB (optB (dotB u) [47, 46] ++ pathT u.path ++ _) = false
  have q := twoB_quest u []
  unfold dotB
  rw [hf]
  generalize optB u.hasQuery ([63] ++ u.query.toList) ++ optB u.hasFrag ([35] ++ u.frag.toList) = R at q ⊢
  match hm : u.path with
  | [] => simpa [optB, pathT] using q.1
  | [t] =>
    have ht := hp t (by rw [hm]; simp)
    unfold noSl at ht
    cases hl : t.toList with
    | nil => simpa [optB, pathT, hl] using q.2
    | cons a b =>
      rw [hl] at ht
      simp [optB, pathT, hl, twoB] at ht ⊢
      exact ht
  | t :: v :: r =>
    have ht := hp t (by rw [hm]; simp)
    unfold noSl at ht
    cases hl : t.toList with
    | nil => simp [optB, pathT, hl, twoB, firstE]
    | cons a b =>
      rw [hl] at ht
      simp [optB, pathT, hl, twoB, firstE] at ht ⊢
      exact ht
theorem twoB_take (r : ByteArray) (h : 2 ≤ r.size) : ((r.extract 0 2).toList == [47, 47]) = twoB r.toList := by
  rw [toList_extract, List.drop_zero]
  rw [← size_toList] at h
  match r.toList, h with
  | a :: b :: l, _ => simp [twoB]
theorem twoB_short (r : ByteArray) (h : r.size < 2) : twoB r.toList = false := by
  rw [← size_toList] at h
  match r.toList, h with
  | [], _ => rfl
  | [a], _ => rfl
theorem noSl_at (t : ByteArray) : (t.size = 0 ∧ noSl t = true) ∨ ∃ h : 0 < t.size, noSl t = !((t[0].toNat : Int) == 47) := by
  by_cases h : 0 < t.size
  · refine .inr ⟨h, ?_⟩
    unfold noSl
    rw [first_byte t h]
    dsimp only
    generalize t[0] = c
    by_cases hc : c = 47
    · rw [hc]; rfl
    · have h1 : (c == 47) = false := by simpa using hc
      have h2 : ((c.toNat : Int) == 47) = false := by
        have : ¬ ((c.toNat : Int) = 47) := fun e => hc (UInt8.toNat_inj.1 (by have : (47 : UInt8).toNat = 47 := rfl; omega))
        simpa using this
      rw [h2, bne, h1]
  · refine .inl ⟨by omega, ?_⟩
    unfold noSl
    have : t.toList = [] := List.length_eq_zero_iff.1 (by rw [size_toList]; omega)
    rw [this]

set_option maxRecDepth 100000 in
set_option maxHeartbeats 2000000 in
theorem serialHosts_walk (u : UrlS) (W : World) (hu : UrlIn W u) (ht : Tabs W) : Calls Tryd.prog 5 #[.agg (urlC u)] W (RetB W true) := by
  obtain ⟨x0, x1, x2, x3, x4, x5, x6, x7, x8, x9, x10, x11, x12, x13, x14, x15, x16, x17, x18, x19, x20, x21, x22⟩ := urlC_at u
  have hI := UIn.start W u
  go_enter Tryd.func5, Tryd.ntmps5
  go_wp2_with fail
  refine (small13_any _ (ht.next hI.below)).mono ?_
  rintro e w1 ⟨rfl, hb⟩
  replace hI := hI.keep hb
  clear hb
  go_wp2_with (refine wpList_load_row rfl 29 _ rfl W.heap.size rfl _ (urlC u) _ _ hI.blk Tryd.underlying29 rfl urlInfo ?_)
  refine (few_in u W _ hu hI).mono ?_
  rintro e w2 ⟨b, rfl, hf, hb⟩
  replace hI := hI.keep hb
  clear hb
  cases b
  · go_wp2_with fail
    go_ret
    exact ⟨rfl, hI.below⟩
  replace hf := hf rfl
  go_wp2_with (refine wpList_load_row rfl 29 _ rfl W.heap.size rfl _ (urlC u) _ _ hI.blk Tryd.underlying29 rfl urlInfo ?_)
  refine (write_in u true W _ hu hf ht hI).mono ?_
  rintro e w3 ⟨s, rfl, hs, hb⟩
  replace hI := hI.keep hb
  clear hb
  obtain ⟨r, hr⟩ : ∃ r : ByteArray, r.toList = restL u := ⟨⟨(restL u).toArray⟩, toList_mk _⟩
  obtain rfl : s = u.scheme ++ ⟨#[58]⟩ ++ r := toList_inj (by rw [hs.out, toList_append, toList_append, hr, show (ByteArray.mk #[58]).toList = [58] from toList_mk _]; simp [writeX, restL])
  clear hs
  have l1 := hf.scheme
  have n0 : (u.scheme ++ ⟨#[58]⟩ ++ r).size = u.scheme.size + 1 + r.size := by rw [ByteArray.size_append, ByteArray.size_append]; rfl
  have e1 : (u.scheme ++ ⟨#[58]⟩ ++ r).extract (u.scheme.size + 1) (u.scheme ++ ⟨#[58]⟩ ++ r).size = r := toList_inj (by
    rw [toList_extract, ← size_toList (_ ++ r), List.take_length, toList_append, toList_append, show (ByteArray.mk #[58]).toList = [58] from toList_mk _, show u.scheme.size + 1 = (u.scheme.toList ++ [58]).length by simp [size_toList]]; exact List.drop_left)
  have hrl : r.size ≤ 1099511627776 := by
    have l2 := aheadX_len u (fit_of hu hf)
    have l3 := hf.flat
    have l4 := hf.path
    have l5 := hf.query
    have l6 := hf.frag
    rw [← size_toList, hr]
    unfold restL pathX optB
    simp only [List.length_append]
    split <;> split <;> split <;> simp [size_toList] <;> omega
  generalize u.scheme ++ ⟨#[58]⟩ ++ r = s at *
  have n1 : (s.size : Int) = (u.scheme.size : Int) + 1 + (r.size : Int) := by omega
  have n2 : (u.scheme.size : Int) + 1 ≤ (s.size : Int) := by omega
  have n3 : (0 : Int) ≤ (u.scheme.size : Int) + 1 := by omega
  rw [n0] at e1
  have hbx := hI.box
  go_upto_region 10 with fail
  go_cut [8] (fun s8 wx => s8 = .bool (twoB r.toList) ∧ UIn W wx u)
  case first =>
    by_cases h2 : 2 ≤ r.size
    · have c1 : (2 : Int) ≤ (r.size : Int) := by omega
      have c2 := twoB_take r h2
      go_wp2_with fail
      go_meet
      exact ⟨by simp [hr], hI⟩
    · have c1 : (r.size : Int) < 2 := by omega
      have c2 := twoB_short r (by omega)
      replace c2 := Lib.hid c2
      go_wp2_with fail
      go_meet
      exact ⟨by rw [c2.out], hI⟩
  case rest =>
    clear hI hbx
    obtain ⟨rfl, hI⟩ := hcut
    have hbx := hI.box
    rw [hr]
    by_cases hk : u.host.kind = 0
    · have k1 : (u.host.kind != 0) = false := by simp [hk]
      have hrn : u.flatP = false → (∀ t ∈ u.path, noSl t = true) → twoB (restL u) = false := rest_none u hk
      have hrf : u.flatP = true → restL u = u.flat.toList ++ (optB u.hasQuery ([63] ++ u.query.toList) ++ optB u.hasFrag ([35] ++ u.frag.toList)) := rest_flat u hk
      generalize hB : twoB (restL u) = B at hrn ⊢
      replace hrn := Lib.hid hrn
      replace hrf := Lib.hid hrf
      replace hr := Lib.hid hr
      replace hB := Lib.hid hB
      replace hk := Lib.hid hk
      have hin : Hid (PathIn wc u) := Lib.hid (hu.path.below hI.below (Nat.le_refl _))
      have hpn := hu.n
      unfold maxLen at hpn
      have hpe : Hid (∀ t ∈ u.path, t.size ≤ maxLen) := Lib.hid hu.each
      clear hu
      go_wp2_with fail
      go_loop [9] (fun iv => ∃ k : Nat, iv = .int .i64 k ∧ k ≤ u.path.length ∧ Hid (∀ t ∈ u.path.take k, noSl t = true)) (fun i => u.path.length - (intOf i).toNat)
      case atStart => exact ⟨0, rfl, Nat.zero_le _, Lib.hid (fun t h => by cases h)⟩
      case round =>
        obtain ⟨k, rfl, hkl, hno⟩ := hrel
        by_cases hlt : k < u.path.length
        · obtain ⟨g, o, hpa, hcc⟩ := hin.out (by omega)
          have y1 := hcc k hlt
          have q1 : (k : Int) < (u.path.length : Int) := by omega
          have hsn : u.path.take (k + 1) = u.path.take k ++ [u.path[k]] := List.take_succ_eq_append_getElem hlt
          have hz := hpe.out _ (List.getElem_mem hlt)
          unfold maxLen at hz
          have hno2 : noSl u.path[k] = true → ∀ t ∈ u.path.take (k + 1), noSl t = true := by
            intro h1 t h2
            rw [hsn, List.mem_append] at h2
            rcases h2 with h2 | h2
            · exact hno.out t h2
            · rw [List.mem_singleton.1 h2]; exact h1
          generalize u.path[k] = t at y1 hz hno2
          replace hno2 := Lib.hid hno2
          clear hcc hsn
          rcases noSl_at t with ⟨z1, z2⟩ | ⟨z1, z2⟩
          · have z3 : (t.size : Int) = 0 := by omega
            replace z2 := Lib.hid z2
            go_wp2_with fail
            go_round
            case rel => exact ⟨k + 1, by go_num, by omega, Lib.hid (hno2.out z2.out)⟩
            case measure => simp [intOf]; omega
          · have z3 : (0 : Int) < (t.size : Int) := by omega
            cases hq : ((t[0].toNat : Int) == 47)
            · rw [hq] at z2
              replace z2 := Lib.hid z2
              go_wp2_with fail
              go_round
              case rel => exact ⟨k + 1, by go_num, by omega, Lib.hid (hno2.out z2.out)⟩
              case measure => simp [intOf]; omega
            · replace z2 := Lib.hid z2
              go_wp2_with fail
              go_ret
              exact ⟨rfl, hI.below⟩
        · have q1 : (u.path.length : Int) ≤ (k : Int) := by omega
          have hall : ∀ t ∈ u.path, noSl t = true := by
            have := hno.out
            rwa [List.take_of_length_le (by omega)] at this
          clear hlt hin
          rcases bool_or u.flatP with hfl | hfl
          · have hBf := hrn.out hfl hall
            rw [hBf]
            replace hall := Lib.hid hall
            replace hBf := Lib.hid hBf
            go_wp2_with fail
            go_ret
            exact ⟨rfl, hI.below⟩
          · have he := hrf.out hfl
            have m1 : u.flat.size ≤ r.size := by
              rw [← size_toList, ← size_toList, hr.out, he]; simp
            have m2 : r.extract 0 u.flat.size = u.flat := toList_inj (by rw [toList_extract, List.drop_zero, hr.out, he, ← size_toList]; exact List.take_left)
            have m3 : (u.flat.size : Int) ≤ (r.size : Int) := by omega
            have m4 : decide ((u.flat.size : Int) ≤ (r.size : Int)) = true := decide_eq_true m3
            have m5 : (0 : Int) ≤ (u.flat.size : Int) := by omega
            have hc0 := (hI.box 17).trans x17
            have hc6 := (hI.box 16).trans x16
            replace hall := Lib.hid hall
            replace he := Lib.hid he
            rw [hfl] at x16
            go_wp2_with fail
            clear hbx x0 x1 x2 x3 x4 x5 x6 x7 x8 x9 x10 x11 x12 x13 x14 x15 x16 x17 x18 x19 x20 x21 x22
            go_region_held3 (fun w' => w'.cell? ⟨W.heap.size, 17, none⟩ = some (.string u.flat)) (first | go_keep | (simp [go_sem])) (fail)
            go_wp2_with fail
            go_ret
            exact ⟨rfl, hI.below.drew⟩
    · have k1 : (u.host.kind != 0) = true := by simp [hk]
      rw [rest_host u hk]
      replace hk := Lib.hid hk
      go_wp2_with fail
      go_ret
      exact ⟨rfl, hI.below⟩
end Go.Proofs.YteffhkafocfajaaDoor
