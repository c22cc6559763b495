/- The contract of tamislaw23.Few. -/
import Derived.Test.YtnalafhepnfggaaDoorPolA
import Derived.Great.BuildSlice
namespace Go.Proofs.YtnalafhepnfggaaDoor
open Go.RowKit
set_option linter.unusedVariables false
set_option linter.unusedSimpArgs false

def polX (p : PolS) : Nat → StrsS | 0 => p.schemes | 1 => p.hosts | _ => p.types
/-- A policy has few entries. -/
structure FewPol (p : PolS) : Prop where
  s : p.schemes.l.length ≤ 20
  h : p.hosts.l.length ≤ 20
  t : p.types.l.length ≤ 20
def RetFewPol (w : World) (p : PolS) (e : Ending) (w' : World) : Prop := ∃ b : Bool, e = .returned (.bool b) ∧ (b = true → FewPol p) ∧ Below w.heap.size w w'
theorem retFewPol_no {w w' : World} {p : PolS} (hb : Below w.heap.size w w') : RetFewPol w p (.returned (.bool false)) w' := ⟨false, rfl, fun e => (by cases e), hb⟩
theorem retFewPol_yes {w w' : World} {p : PolS} (h : ∀ j, j < 3 → (polX p j).l.length ≤ 20) (hb : Below w.heap.size w w') : RetFewPol w p (.returned (.bool true)) w' :=
  ⟨true, rfl, fun _ => ⟨h 0 (by decide), h 1 (by decide), h 2 (by decide)⟩, hb⟩
set_option maxRecDepth 100000 in
set_option maxHeartbeats 2000000 in
theorem fewPol_any (p : PolS) (w : World) (hp : PolIn w p) : Calls Tryd.prog 6 #[.agg (polC p)] w (RetFewPol w p) := by
  have hB1 : Below w.heap.size w (w.alloc (.cells (polC p) 24)) := (Below.refl _ _).alloc (Nat.le_refl _) _
  have x0 : (w.alloc (.cells (polC p) 24)).cell? ⟨w.heap.size, 0, none⟩ = some (.slice p.schemes.a p.schemes.l.length p.schemes.c) := (World.cell?_alloc_at _ _ _ _ rfl).trans rfl
  have x1 : (w.alloc (.cells (polC p) 24)).cell? ⟨w.heap.size, 1, none⟩ = some (.slice p.hosts.a p.hosts.l.length p.hosts.c) := (World.cell?_alloc_at _ _ _ _ rfl).trans rfl
  have x2 : (w.alloc (.cells (polC p) 24)).cell? ⟨w.heap.size, 2, none⟩ = some (.slice p.types.a p.types.l.length p.types.c) := (World.cell?_alloc_at _ _ _ _ rfl).trans rfl
  go_enter Tryd.func6, Tryd.ntmps6
  go_wp2_with fail
  refine wp_gen13 (R := fun wx => Below w.heap.size w wx ∧ Hid (∀ k, k < 3 → wx.cell? ⟨w.heap.size + 1, k, none⟩ = some (.slice (polX p k).a (polX p k).l.length (polX p k).c))) ⟨hB1.alloc hB1.size _, Lib.hid ?_⟩ ?_
  · intro k hk
    have e := cell_of_row ((w.alloc (.cells (polC p) 24)).alloc (.cells #[.slice p.schemes.a p.schemes.l.length p.schemes.c, .slice p.hosts.a p.hosts.l.length p.hosts.c, .slice p.types.a p.types.l.length p.types.c] 22)) (w.heap.size + 1) k _ _ _ (heap_new (by simp))
    rw [e]
    match k, hk with
    | 0, _ => rfl
    | 1, _ => rfl
    | 2, _ => rfl
  rintro wx ⟨hB, hX⟩
  have hok : Hid (∀ k, k < 3 → StrsOk w (polX p k)) := Lib.hid (fun k hk => by
    match k, hk with
    | 0, _ => exact hp.schemes
    | 1, _ => exact hp.hosts
    | 2, _ => exact hp.types)
  clear x0 x1 x2 hB1
  generalize w.heap.size + 1 = g0 at hX ⊢
  go_loop [4, 5] (fun kv _ => ∃ k : Nat, kv = .int .i64 k ∧ k ≤ 3 ∧ Hid (∀ j, j < k → (polX p j).l.length ≤ 20)) (fun kv _ => 3 - (intOf kv).toNat)
  case atStart => exact ⟨0, rfl, by omega, Lib.hid (fun j hj => by omega)⟩
  case round =>
    obtain ⟨k, rfl, hk, hg⟩ := hrel
    by_cases hk3 : k < 3
    · have hkI : (k : Int) < 3 := by omega
      have cX := hX.out k hk3
      obtain ⟨hcells, hn, heach, -⟩ := hok.out k hk3
      have hnext : (polX p k).l.length ≤ 20 → Hid (∀ j, j < k + 1 → (polX p j).l.length ≤ 20) := fun h => Lib.hid (fun j hj => by
        by_cases e : j = k
        · subst e; exact h
        · exact hg.out j (by omega))
      replace hnext := Lib.hid hnext
      unfold maxLen at hn heach
      unfold StrsIn at hcells
      generalize polX p k = x at cX hcells hn heach hnext
      obtain ⟨pa, pc, l⟩ := x
      dsimp only at cX hcells hn heach
      replace hcells := Lib.hid hcells
      replace heach := Lib.hid heach
      go_wp2_with fail
      go_loop [5] (fun iv => ∃ i : Nat, iv = .int .i64 i ∧ i ≤ 30) (fun iv => 30 - (intOf iv).toNat)
      case atStart => exact ⟨0, rfl, by omega⟩
      case round =>
        obtain ⟨i, rfl, hi⟩ := hrel
        by_cases hin : i < l.length ∧ i < 30
        · obtain ⟨h1, h2⟩ := hin
          obtain ⟨g, o, rfl, hc⟩ := hcells.out (by omega)
          have c1 := (hB.cell (p := ⟨g, o + i, none⟩) (by have := World.block_lt_of_cell? w _ (hc i h1); simpa using this)).trans (hc i h1)
          clear hc
          have hez := heach.out l[i] (List.getElem_mem _)
          obtain ⟨e, he⟩ : ∃ e, l[i] = e := ⟨_, rfl⟩
          rw [he] at c1 hez
          replace he := Lib.hid he
          have h1I : (i : Int) < (l.length : Int) := by omega
          have h2I : (i : Int) < 30 := by omega
          by_cases h200 : 200 < e.size
          · have q : (200 : Int) < (e.size : Int) := by omega
            go_wp2_with fail
            go_ret
            exact retFewPol_no hB
          · have q : (e.size : Int) ≤ 200 := by omega
            go_wp2_with fail
            go_round
            case rel => exact ⟨i + 1, by go_num, by omega⟩
            case measure => simp [intOf]; omega
        · have hor : (l.length : Int) ≤ (i : Int) ∨ ((i : Int) < (l.length : Int) ∧ (30 : Int) ≤ (i : Int)) := by omega
          clear hin
          by_cases h20 : 20 < l.length
          · have q : (20 : Int) < (l.length : Int) := by omega
            rcases hor with r | ⟨r, r2⟩
            all_goals
              go_wp2_with fail
              go_ret
              exact retFewPol_no hB
          · have q : (l.length : Int) ≤ 20 := by omega
            have hnew := hnext.out (by show l.length ≤ 20; omega)
            have r : (l.length : Int) ≤ (i : Int) := by omega
            clear hor
            go_wp2_with fail
            go_round
            case rel => exact ⟨k + 1, by go_num, by omega, hnew⟩
            case measure => simp [intOf]; omega
    · have hge : (3 : Int) ≤ (k : Int) := by omega
      have hall : Hid (∀ j, j < 3 → (polX p j).l.length ≤ 20) := Lib.hid (fun j hj => hg.out j (by omega))
      go_wp2_with fail
      go_ret
      exact retFewPol_yes hall.out hB
end Go.Proofs.YtnalafhepnfggaaDoor
