/- The contract of tamislaw12.Few. -/
import Derived.Test.YtnalafhepnfggaaDoorUrl
namespace Go.Proofs.YtnalafhepnfggaaDoor
open Go.RowKit
set_option linter.unusedVariables false

/-- An address has few, and short, pieces. -/
structure FewP (u : UrlS) : Prop where
  n : u.path.length ≤ 50
  path : (pathT u.path).length ≤ 2050
  scheme : u.scheme.size ≤ 100
  user : u.user.size ≤ 500
  pass : u.pass.size ≤ 500
  flat : u.flat.size ≤ 1000
  query : u.query.size ≤ 1000
  frag : u.frag.size ≤ 1000
  name : u.host.name.size ≤ 500
/-- The call says yes only of such an address. -/
def RetFew (w : World) (u : UrlS) (e : Ending) (w' : World) : Prop := ∃ b : Bool, e = .returned (.bool b) ∧ (b = true → FewP u) ∧ Below w.heap.size w w'
theorem retFew_no {w w' : World} {u : UrlS} {b : Bool} (h : b = false) (hb : Below w.heap.size w w') : RetFew w u (.returned (.bool b)) w' := ⟨b, rfl, fun e => (by rw [h] at e; cases e), hb⟩
theorem retFew_yes {w w' : World} {u : UrlS} {b : Bool} (h : b = true → FewP u) (hb : Below w.heap.size w w') : RetFew w u (.returned (.bool b)) w' := ⟨b, rfl, h, hb⟩
theorem urlC_few (u : UrlS) : (urlC u)[0]? = some (.string u.scheme) ∧ (urlC u)[1]? = some (.string u.user) ∧ (urlC u)[2]? = some (.string u.pass) ∧ (urlC u)[4]? = some (.string u.host.name) ∧ (urlC u)[17]? = some (.string u.flat) ∧
    (urlC u)[18]? = some (.slice u.pathA u.path.length u.pathC) ∧ (urlC u)[20]? = some (.string u.query) ∧ (urlC u)[22]? = some (.string u.frag) := ⟨rfl, rfl, rfl, rfl, rfl, rfl, rfl, rfl⟩

set_option maxRecDepth 100000 in
set_option maxHeartbeats 2000000 in
theorem few_any (u : UrlS) (w : World) (hp : PathIn w u) (hn : u.path.length ≤ maxLen) (h0 : u.scheme.size ≤ maxLen) (h1 : u.user.size ≤ maxLen) (h2 : u.pass.size ≤ maxLen) (h3 : u.flat.size ≤ maxLen) (h4 : u.query.size ≤ maxLen) (h5 : u.frag.size ≤ maxLen) (h6 : u.host.name.size ≤ maxLen) (hps : ∀ t ∈ u.path, t.size ≤ maxLen) :
    Calls Tryd.prog 7 #[.agg (urlC u)] w (RetFew w u) := by
  have hb1 : Below w.heap.size w (w.alloc (.cells (urlC u) 31)) := (Below.refl _ _).alloc (Nat.le_refl _) _
  have hbx : ∀ i, (w.alloc (.cells (urlC u) 31)).cell? ⟨w.heap.size, i, none⟩ = (urlC u)[i]? := fun i => World.cell?_alloc_at _ _ _ _ rfl
  obtain ⟨x0, x1, x2, x4, x17, x18, x20, x22⟩ := urlC_few u
  have hpx := hp.below hb1 (Nat.le_refl _)
  unfold maxLen at hn h0 h1 h2 h3 h4 h5 h6 hps
  replace hps := Lib.hid hps
  replace hpx := Lib.hid hpx
  clear hp
  go_enter Tryd.func7, Tryd.ntmps7
  go_wp2_with fail
  go_loop [3, 4] (fun nv iv => ∃ k n : Nat, iv = .int .i64 k ∧ nv = .int .i64 n ∧ k ≤ u.path.length ∧ k ≤ 100 ∧ n ≤ 500 * k ∧ Hid ((pathT (u.path.take k)).length = k + n)) (fun _ i => 100 - (intOf i).toNat)
  case atStart => exact ⟨0, 0, rfl, rfl, Nat.zero_le _, by omega, by omega, Lib.hid (by simp [pathT])⟩
  case round =>
    obtain ⟨k, n, rfl, rfl, hk, hk1, hn5, hs⟩ := hrel
    by_cases hlt : k < u.path.length ∧ k < 100
    · obtain ⟨hl1, hl2⟩ := hlt
      obtain ⟨g, o, hpa, hcc⟩ := hpx.out (by omega)
      have y1 := hcc k hl1
      have q1 : (k : Int) < (u.path.length : Int) := by omega
      have q2 : (k : Int) < 100 := by omega
      have hsn := Lib.hid (pathT_snoc hl1)
      have hz := hps.out u.path[k] (List.getElem_mem hl1)
      clear hcc
      by_cases hbig : 500 < u.path[k].size
      · have q3 : (500 : Int) < (u.path[k].size : Int) := by omega
        go_wp2_with fail
        go_ret
        exact retFew_no rfl hb1
      · have q3 : (u.path[k].size : Int) ≤ 500 := by omega
        go_wp2_with fail
        go_round
        case rel => exact ⟨k + 1, n + u.path[k].size, by go_num, by go_num, by omega, by omega, by omega, Lib.hid (by rw [hsn.out, List.length_append, hs.out]; simp [size_toList]; omega)⟩
        case measure => simp [intOf]; omega
    · have hcs : (u.path.length : Int) ≤ (k : Int) ∨ (k : Int) < (u.path.length : Int) ∧ (100 : Int) ≤ (k : Int) := by omega
      have hpl : u.path.length ≤ 50 → (pathT u.path).length = u.path.length + n := by
        intro h
        have hke : k = u.path.length := by omega
        have := hs.out
        rw [List.take_of_length_le (by omega)] at this
        omega
      replace hpl := Lib.hid hpl
      clear hlt
      rcases hcs with q1 | ⟨q1, q2⟩
      · go_wp2_with fail
        all_goals
          go_ret
          first
            | exact retFew_no rfl hb1
            | (refine retFew_yes (fun hq => ?_) hb1
               simp only [decide_eq_true_eq] at hq
               have := hpl.out (by omega)
               refine ⟨?_, ?_, ?_, ?_, ?_, ?_, ?_, ?_, ?_⟩ <;> omega)
      · have q3 : (50 : Int) < (u.path.length : Int) := by omega
        go_wp2_with fail
        all_goals
          go_ret
          exact retFew_no (by simp) hb1
end Go.Proofs.YtnalafhepnfggaaDoor
