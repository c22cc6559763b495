/- The contracts of ascii.Trim, ascii.Strip and the reference's, over this seat's program. -/
import Derived.Test.YtbejimncmfeggaaDoorAscii
namespace Go.Proofs.YtbejimncmfeggaaDoor
open Go.RowKit
set_option linter.unusedVariables false

/-- What stands in front is dropped, as long as it is of p. -/
def dropZ (p : Int → Bool) (l : List UInt8) : List UInt8 := l.dropWhile fun c => p (c.toNat : Int)
/-- What stands at the end is dropped, as long as it is of p. -/
def rdropZ (p : Int → Bool) (l : List UInt8) : List UInt8 := (dropZ p l.reverse).reverse
def lowZ (c : Int) : Bool := decide (c ≤ 32)

theorem dropZ_yes {p : Int → Bool} {c : UInt8} {l : List UInt8} (h : p (c.toNat : Int) = true) : dropZ p (c :: l) = dropZ p l := by simp [dropZ, h]
theorem dropZ_no {p : Int → Bool} {c : UInt8} {l : List UInt8} (h : p (c.toNat : Int) = false) : dropZ p (c :: l) = c :: l := by simp [dropZ, h]
theorem rdropZ_yes {p : Int → Bool} {c : UInt8} {l : List UInt8} (h : p (c.toNat : Int) = true) : rdropZ p (l ++ [c]) = rdropZ p l := by simp [rdropZ, dropZ_yes h]
theorem rdropZ_no {p : Int → Bool} {c : UInt8} {l : List UInt8} (h : p (c.toNat : Int) = false) : rdropZ p (l ++ [c]) = l ++ [c] := by simp [rdropZ, dropZ_no h]

theorem extract1 (t : ByteArray) (h : 0 < t.size) : t.toList = t[0] :: (t.extract 1 t.size).toList := by
  have := drop_cons t 0 h
  rw [List.drop_zero] at this
  rw [this, toList_extract, take_all _ _ (Nat.le_refl _)]
theorem extractLast (t : ByteArray) (h : 0 < t.size) : t.toList = (t.extract 0 (t.size - 1)).toList ++ [t[t.size - 1]] := by
  have := take_snoc t (t.size - 1) (by omega)
  rw [toList_extract, List.drop_zero, ← this, take_all _ _ (by omega)]

set_option maxHeartbeats 400000 in
theorem without_any (f : Nat) (p : Int → Bool) (hf0 : ∀ (c : Int) (w : World), 0 ≤ c → c ≤ 255 → Calls Tryd.prog f #[.int .u8 c] w fun e w' => e = .returned (.bool (p c)) ∧ w = w')
    (hcf : ∀ args w, (callFunc f args).run Tryd.prog w = .ok (.enter f args) w)
    (s : ByteArray) (w : World) (hs : s.size ≤ 1099511627776) :
    Calls Tryd.prog 36 #[.string s, .func (.func f) #[] #[]] w (RetS w (rdropZ p (dropZ p s.toList))) := by
  have hf := Lib.hid hf0
  clear hf0
  go_enter Tryd.func36, Tryd.ntmps36
  go_wp2_with fail
  go_loop [0] (fun v => ∃ t : ByteArray, v = .string t ∧ t.size ≤ s.size ∧ Hid (dropZ p t.toList = dropZ p s.toList)) (fun v => szOf v)
  case atStart => exact ⟨s, rfl, Nat.le_refl _, rfl⟩
  case round =>
    obtain ⟨t, rfl, hts, ht⟩ := hrel
    by_cases hgo : ∃ h : 0 < t.size, p (t[0].toNat : Int) = true
    · obtain ⟨h0, hp⟩ := hgo
      have hne : (!t.toList.isEmpty) = true := by
        rw [extract1 t h0]; rfl
      have hx := Lib.hid (extract1 t h0)
      go_wp2_with ((with_reducible refine (hf.out _ _ (byte_nn _) (byte_le _)).mono ?_); rintro e w' ⟨rfl, rfl⟩)
      go_round
      case rel => exact ⟨_, rfl, by rw [← size_toList, toList_extract, List.length_drop, take_all _ _ (Nat.le_refl _), size_toList]; omega, by rw [← ht.out, hx.out, dropZ_yes hp]; rfl⟩
      case measure => simp [szOf]; omega
    · have hd : Hid (t.toList = dropZ p s.toList) := Lib.hid (by
        rw [← ht.out]
        by_cases h0 : 0 < t.size
        · rw [extract1 t h0, dropZ_no (by simpa using fun h => hgo ⟨h0, h⟩)]
        · rw [(toList_empty_iff t).2 (by omega)]; rfl)
      have hor : (∃ h0 : 0 < t.size, (!t.toList.isEmpty) = true ∧ p (t[0].toNat : Int) = false) ∨ t.toList.isEmpty = true := by
        by_cases h0 : 0 < t.size
        · exact .inl ⟨h0, by rw [extract1 t h0]; rfl, by simpa using fun h => hgo ⟨h0, h⟩⟩
        · exact .inr (by rw [(toList_empty_iff t).2 (by omega)]; rfl)
      clear hgo ht
      rcases hor with ⟨h0, hne, hp⟩ | hne
      all_goals
        go_wp2_with ((with_reducible refine (hf.out _ _ (byte_nn _) (byte_le _)).mono ?_); rintro e w' ⟨rfl, rfl⟩)
        go_loop [0] (fun v => ∃ u : ByteArray, v = .string u ∧ u.size ≤ t.size ∧ Hid (rdropZ p u.toList = rdropZ p t.toList)) (fun v => szOf v)
        case atStart => exact ⟨t, rfl, Nat.le_refl _, rfl⟩
        case round =>
          clear hne
          obtain ⟨u, rfl, hus, hu⟩ := hrel
          by_cases hgo : ∃ h : 0 < u.size, p (u[u.size - 1].toNat : Int) = true
          · obtain ⟨g0, gp⟩ := hgo
            have gne : (!u.toList.isEmpty) = true := by
              rw [extract1 u g0]; rfl
            have gx := Lib.hid (extractLast u g0)
            go_wp2_with ((with_reducible refine (hf.out _ _ (byte_nn _) (byte_le _)).mono ?_); rintro e w' ⟨rfl, rfl⟩)
            go_round
            case rel => exact ⟨_, rfl, by rw [← size_toList, toList_extract, List.length_drop, List.length_take, size_toList]; omega, Lib.hid (by rw [← hu.out, gx.out, rdropZ_yes gp])⟩
            case measure => simp [szOf]; omega
          · have ge : Hid (u.toList = rdropZ p (dropZ p s.toList)) := Lib.hid (by
              rw [← hd.out, ← hu.out]
              by_cases g0 : 0 < u.size
              · rw [extractLast u g0, rdropZ_no (by simpa using fun h => hgo ⟨g0, h⟩)]
              · rw [(toList_empty_iff u).2 (by omega)]; rfl)
            have gor : (∃ g0 : 0 < u.size, (!u.toList.isEmpty) = true ∧ p (u[u.size - 1].toNat : Int) = false) ∨ u.toList.isEmpty = true := by
              by_cases g0 : 0 < u.size
              · exact .inl ⟨g0, by rw [extract1 u g0]; rfl, by simpa using fun h => hgo ⟨g0, h⟩⟩
              · exact .inr (by rw [(toList_empty_iff u).2 (by omega)]; rfl)
            clear hgo hu
            rcases gor with ⟨g0, gne, gp⟩ | gne
            all_goals
              go_wp2_with ((with_reducible refine (hf.out _ _ (byte_nn _) (byte_le _)).mono ?_); rintro e w' ⟨rfl, rfl⟩)
              go_ret
              exact retS ge.out (Below.refl _ _)

def trimL (l : List UInt8) : List UInt8 := rdropZ lowZ (dropZ lowZ l)
def stripL (l : List UInt8) : List UInt8 := rdropZ blankZ (dropZ blankZ l)
set_option maxHeartbeats 400000 in
theorem strip_any (s : ByteArray) (w : World) (hs : s.size ≤ 1099511627776) :
    Calls Tryd.prog 22 #[.string s] w (RetS w (stripL s.toList)) := by
  go_enter Tryd.func22, Tryd.ntmps22
  go_wp2_with (go_at_call 36; refine (without_any 18 blankZ (fun c w _ _ => blank_any c w) (callFunc_enter Tryd.func18 (by kernel_rfl) rfl) s _ hs).mono ?_; rintro e w' ⟨t, rfl, ht, hb⟩)
  go_ret
  exact retS ht.out hb

end Go.Proofs.YtbejimncmfeggaaDoor
