/- The contracts of ascii.Trim, ascii.Strip and the reference's, over this seat's program. -/
import Derived.Test.YtdlgpmihjecdlaaDoorAscii
namespace Go.Proofs.YtdlgpmihjecdlaaDoor
open Go.RowKit
set_option linter.unusedVariables false

/-- What stands in front is dropped, as long as it is of p. -/
def dropZ (p : Int → Bool) (l : List UInt8) : List UInt8 := l.dropWhile fun c => p (c.toNat : Int)
/-- What stands at the end is dropped, as long as it is of p. -/
def rdropZ (p : Int → Bool) (l : List UInt8) : List UInt8 := (dropZ p l.reverse).reverse
def lowZ (c : Int) : Bool := decide (c ≤ 32)

theorem dropZ_yes {p : Int → Bool} {c : UInt8} {l : List UInt8} (h : p (c.toNat : Int) = true) : dropZ p (c :: l) = dropZ p l := by simp [dropZ, h]
theorem dropZ_no {p : Int → Bool} {c : UInt8} {l : List UInt8} (h : p (c.toNat : Int) = false) : dropZ p (c :: l) = c :: l := by simp [dropZ, h]
theorem rdropZ_yes {p : Int → Bool} {c : UInt8} {l : List UInt8} (h : p (c.toNat : Int) = true) : rdropZ p (l ++ [c]) = rdropZ p l := by simp [rdropZ, dropZ_yes h]
theorem rdropZ_no {p : Int → Bool} {c : UInt8} {l : List UInt8} (h : p (c.toNat : Int) = false) : rdropZ p (l ++ [c]) = l ++ [c] := by simp [rdropZ, dropZ_no h]

theorem extract1 (t : ByteArray) (h : 0 < t.size) : t.toList = t[0] :: (t.extract 1 t.size).toList := by
  have := drop_cons t 0 h
  rw [List.drop_zero] at this
  rw [this, toList_extract, take_all _ _ (Nat.le_refl _)]
theorem extractLast (t : ByteArray) (h : 0 < t.size) : t.toList = (t.extract 0 (t.size - 1)).toList ++ [t[t.size - 1]] := by
  have := take_snoc t (t.size - 1) (by omega)
  rw [toList_extract, List.drop_zero, ← this, take_all _ _ (by omega)]

set_option maxHeartbeats 400000 in
theorem without_any (f : Nat) (p : Int → Bool) (hf0 : ∀ (c : Int) (w : World), 0 ≤ c → c ≤ 255 → Calls Tryd.prog f #[.int .u8 c] w fun e w' => e = .returned (.bool (p c)) ∧ w = w')
    (hcf : ∀ args w, (callFunc f args).run Tryd.prog w = .ok (.enter f args) w)
    (s : ByteArray) (w : World) (hs : s.size ≤ 1099511627776) :
    Calls Tryd.prog 54 #[.string s, .func (.func f) #[] #[]] w (RetS w (rdropZ p (dropZ p s.toList))) := by
  have hf := Lib.hid hf0
  clear hf0
  go_enter Tryd.func54, Tryd.ntmps54
  go_wp2_with fail
  go_loop [0] (fun v => ∃ t : ByteArray, v = .string t ∧ t.size ≤ s.size ∧ Hid (dropZ p t.toList = dropZ p s.toList)) (fun v => szOf v)
  case atStart => exact ⟨s, rfl, Nat.le_refl _, rfl⟩
  case round =>
    obtain ⟨t, rfl, hts, ht⟩ := hrel
    by_cases hgo : ∃ h : 0 < t.size, p (t[0].toNat : Int) = true
    · obtain ⟨h0, hp⟩ := hgo
      have hne : (!t.toList.isEmpty) = true := by
        rw [extract1 t h0]; rfl
      have hx := Lib.hid (extract1 t h0)
      go_wp2_with ((with_reducible refine (hf.out _ _ (byte_nn _) (byte_le _)).mono ?_); rintro e w' ⟨rfl, rfl⟩)
      go_round
      case rel => exact ⟨_, rfl, by rw [← size_toList, toList_extract, List.length_drop, take_all _ _ (Nat.le_refl _), size_toList]; omega, by rw [← ht.out, hx.out, dropZ_yes hp]; rfl⟩
      case measure => simp [szOf]; omega
    · have hd : Hid (t.toList = dropZ p s.toList) := Lib.hid (by
        rw [← ht.out]
        by_cases h0 : 0 < t.size
        · rw [extract1 t h0, dropZ_no (by simpa using fun h => hgo ⟨h0, h⟩)]
        · rw [(toList_empty_iff t).2 (by omega)]; rfl)
      have hor : (∃ h0 : 0 < t.size, (!t.toList.isEmpty) = true ∧ p (t[0].toNat : Int) = false) ∨ t.toList.isEmpty = true := by
        by_cases h0 : 0 < t.size
        · exact .inl ⟨h0, by rw [extract1 t h0]; rfl, by simpa using fun h => hgo ⟨h0, h⟩⟩
        · exact .inr (by rw [(toList_empty_iff t).2 (by omega)]; rfl)
      clear hgo ht
      rcases hor with ⟨h0, hne, hp⟩ | hne
      all_goals
        go_wp2_with ((with_reducible refine (hf.out _ _ (byte_nn _) (byte_le _)).mono ?_); rintro e w' ⟨rfl, rfl⟩)
        go_loop [0] (fun v => ∃ u : ByteArray, v = .string u ∧ u.size ≤ t.size ∧ Hid (rdropZ p u.toList = rdropZ p t.toList)) (fun v => szOf v)
        case atStart => exact ⟨t, rfl, Nat.le_refl _, rfl⟩
        case round =>
          clear hne
          obtain ⟨u, rfl, hus, hu⟩ := hrel
          by_cases hgo : ∃ h : 0 < u.size, p (u[u.size - 1].toNat : Int) = true
          · obtain ⟨g0, gp⟩ := hgo
            have gne : (!u.toList.isEmpty) = true := by
              rw [extract1 u g0]; rfl
            have gx := Lib.hid (extractLast u g0)
            go_wp2_with ((with_reducible refine (hf.out _ _ (byte_nn _) (byte_le _)).mono ?_); rintro e w' ⟨rfl, rfl⟩)
            go_round
            case rel => exact ⟨_, rfl, by rw [← size_toList, toList_extract, List.length_drop, List.length_take, size_toList]; omega, Lib.hid (by rw [← hu.out, gx.out, rdropZ_yes gp])⟩
            case measure => simp [szOf]; omega
          · have ge : Hid (u.toList = rdropZ p (dropZ p s.toList)) := Lib.hid (by
              rw [← hd.out, ← hu.out]
              by_cases g0 : 0 < u.size
              · rw [extractLast u g0, rdropZ_no (by simpa using fun h => hgo ⟨g0, h⟩)]
              · rw [(toList_empty_iff u).2 (by omega)]; rfl)
            have gor : (∃ g0 : 0 < u.size, (!u.toList.isEmpty) = true ∧ p (u[u.size - 1].toNat : Int) = false) ∨ u.toList.isEmpty = true := by
              by_cases g0 : 0 < u.size
              · exact .inl ⟨g0, by rw [extract1 u g0]; rfl, by simpa using fun h => hgo ⟨g0, h⟩⟩
              · exact .inr (by rw [(toList_empty_iff u).2 (by omega)]; rfl)
            clear hgo hu
            rcases gor with ⟨g0, gne, gp⟩ | gne
            all_goals
              go_wp2_with ((with_reducible refine (hf.out _ _ (byte_nn _) (byte_le _)).mono ?_); rintro e w' ⟨rfl, rfl⟩)
              go_ret
              exact retS ge.out (Below.refl _ _)

def trimL (l : List UInt8) : List UInt8 := rdropZ lowZ (dropZ lowZ l)
def stripL (l : List UInt8) : List UInt8 := rdropZ blankZ (dropZ blankZ l)
set_option maxHeartbeats 400000 in
theorem strip_any (s : ByteArray) (w : World) (hs : s.size ≤ 1099511627776) :
    Calls Tryd.prog 29 #[.string s] w (RetS w (stripL s.toList)) := by
  go_enter Tryd.func29, Tryd.ntmps29
  go_wp2_with (go_at_call 54; refine (without_any 55 blankZ (fun c w _ _ => blank_any c w) (callFunc_enter Tryd.func55 (by kernel_rfl) rfl) s _ hs).mono ?_; rintro e w' ⟨t, rfl, ht, hb⟩)
  go_ret
  exact retS ht.out hb

set_option maxHeartbeats 400000 in
theorem stripr_any (s : ByteArray) (w : World) (hs : s.size ≤ 1099511627776) :
    Calls Tryd.prog 34 #[.string s] w (RetS w (stripL s.toList)) := by
  go_enter Tryd.func34, Tryd.ntmps34
  go_wp2_with fail
  go_loop [3] (fun v => ∃ j : Nat, v = .int .i64 j ∧ j ≤ s.size ∧ Hid (dropZ blankZ (s.toList.drop j) = dropZ blankZ s.toList)) (fun v => s.size - (intOf v).toNat)
  case atStart => exact ⟨0, rfl, Nat.zero_le _, rfl⟩
  case round =>
    obtain ⟨j, rfl, hj, ht⟩ := hrel
    by_cases hgo : ∃ h : j < s.size, blankZ (s[j].toNat : Int) = true
    · obtain ⟨h0, hp⟩ := hgo
      have hb0 := byte_nn s[j]
      have hb1 := byte_le s[j]
      have hx := Lib.hid (drop_cons s j h0)
      skip
      go_wp2_with (go_at_call 60; refine (blankr_any _ _).mono ?_; rintro e w' ⟨rfl, rfl⟩)
      go_round
      case rel => exact ⟨j + 1, by go_num, by omega, Lib.hid (by rw [← ht.out, hx.out, dropZ_yes hp])⟩
      case measure => simp [intOf]; omega
    · have hd : Hid (s.toList.drop j = dropZ blankZ s.toList) := Lib.hid (by
        rw [← ht.out]
        by_cases h0 : j < s.size
        · rw [drop_cons s j h0, dropZ_no (by simpa using fun h => hgo ⟨h0, h⟩)]
        · rw [drop_end s j (by omega)]; rfl)
      have hor : (∃ h0 : j < s.size, (0 : Int) ≤ (s[j].toNat : Int) ∧ (s[j].toNat : Int) ≤ (255 : Int) ∧ blankZ (s[j].toNat : Int) = false) ∨ s.size ≤ j := by
        by_cases h0 : j < s.size
        · exact .inl ⟨h0, byte_nn _, byte_le _, by simpa using fun h => hgo ⟨h0, h⟩⟩
        · exact .inr (by omega)
      clear hgo ht
      rcases hor with ⟨h0, hb0, hb1, hp⟩ | hje
      case' inl => skip
      all_goals
        go_wp2_with (go_at_call 60; refine (blankr_any _ _).mono ?_; rintro e w' ⟨rfl, rfl⟩)
        go_loop [4] (fun v => ∃ k : Nat, v = .int .i64 k ∧ j ≤ k ∧ k ≤ s.size ∧ Hid (rdropZ blankZ ((s.toList.take k).drop j) = rdropZ blankZ (s.toList.drop j))) (fun v => (intOf v).toNat)
        case atStart => exact ⟨s.size, rfl, hj, Nat.le_refl _, Lib.hid (by rw [take_all _ _ (Nat.le_refl _)])⟩
        case round =>
          obtain ⟨k, rfl, hjk, hk, hu⟩ := hrel
          try clear hje
          by_cases hgo : ∃ h : j < k, blankZ (s[k - 1].toNat : Int) = true
          · obtain ⟨g0, gp⟩ := hgo
            have gb0 := byte_nn s[k - 1]
            have gb1 := byte_le s[k - 1]
            have gk : Hid ((s.toList.take k).drop j = (s.toList.take (k - 1)).drop j ++ [s[k - 1]]) := Lib.hid (by
              have := take_snoc s (k - 1) (by omega)
              rw [show k - 1 + 1 = k from by omega] at this
              rw [this, List.drop_append_of_le_length (by rw [List.length_take, size_toList]; omega)])
            skip
            go_wp2_with (go_at_call 60; refine (blankr_any _ _).mono ?_; rintro e w' ⟨rfl, rfl⟩)
            all_goals
              go_round
              case rel => exact ⟨k - 1, by go_num, by omega, by omega, Lib.hid (by rw [← hu.out, gk.out, rdropZ_yes gp])⟩
              case measure => simp [intOf]; omega
          · have ge : Hid ((s.toList.take k).drop j = stripL s.toList) := Lib.hid (by
              unfold stripL
              rw [← hd.out, ← hu.out]
              by_cases g0 : j < k
              · have := take_snoc s (k - 1) (by omega)
                rw [show k - 1 + 1 = k from by omega] at this
                rw [this, List.drop_append_of_le_length (by rw [List.length_take, size_toList]; omega), rdropZ_no (by simpa using fun h => hgo ⟨g0, h⟩)]
              · rw [List.drop_of_length_le (by rw [List.length_take]; omega)]; rfl)
            have gor : (∃ g0 : j < k, (0 : Int) ≤ (s[k - 1].toNat : Int) ∧ (s[k - 1].toNat : Int) ≤ (255 : Int) ∧ blankZ (s[k - 1].toNat : Int) = false) ∨ k ≤ j := by
              by_cases g0 : j < k
              · exact .inl ⟨g0, byte_nn _, byte_le _, by simpa using fun h => hgo ⟨g0, h⟩⟩
              · exact .inr (by omega)
            clear hgo hu
            rcases gor with ⟨g0, gb0, gb1, gp⟩ | gke
            case' inl => skip
            all_goals
              go_wp2_with (go_at_call 60; refine (blankr_any _ _).mono ?_; rintro e w' ⟨rfl, rfl⟩)
              all_goals go_ret
              all_goals exact retS (by rw [toList_extract, ge.out]) (Below.refl _ _)
end Go.Proofs.YtdlgpmihjecdlaaDoor
