/- The contracts of mime.token, strings.Trim at the spaces of types. -/
import Derived.Test.YtnalafhepnfggaaDoorMimeP
import Derived.Shelf.Strings.SlTrimAscii
namespace Go.Proofs.YtnalafhepnfggaaDoor
open Go.RowKit
set_option linter.unusedVariables false
set_option linter.unusedSimpArgs false

theorem contains_indexM (l : List UInt8) (c : UInt8) : l.contains c = decide (0 ≤ Lib.indexByte l c) := by
  induction l with
  | nil => rfl
  | cons d r ih =>
    have hg := Lib.indexByte_ge r c
    unfold Lib.indexByte
    rw [List.contains_cons]
    by_cases h : d = c
    · subst h; simp
    · have h2 : (c == d) = false := by simpa using Ne.symm h
      have h3 : (d == c) = false := by simpa using h
      rw [h2, Bool.false_or, ih, h3]
      by_cases h1 : Lib.indexByte r c = -1
      · simp [h1]
      · have h0 : 0 ≤ Lib.indexByte r c := by omega
        have : (Lib.indexByte r c == -1) = false := by simpa using h1
        simp [this, h0]; omega
theorem sp_contains (c : UInt8) : ([9, 10, 13, 32] : List UInt8).contains c = spZ (c.toNat : Int) := by
  have h : ∀ n : Fin 256, ([9, 10, 13, 32] : List UInt8).contains (UInt8.ofNat n.val) = spZ ((UInt8.ofNat n.val).toNat : Int) := by decide +kernel
  have := h ⟨c.toNat, c.toNat_lt⟩
  simpa using this
theorem trimS_sp (l : List UInt8) : Lib.trimS l [9, 10, 13, 32] = dropZ spZ (rdropZ spZ l) := by
  unfold Lib.trimS Lib.trimLeftS Lib.trimRightS dropZ rdropZ dropZ
  simp only [sp_contains]
theorem trimRightS_sp (l : List UInt8) : Lib.trimRightS l [9, 10, 13, 32] = rdropZ spZ l := by
  unfold Lib.trimRightS rdropZ dropZ
  simp only [sp_contains]
set_option maxRecDepth 100000 in
set_option maxHeartbeats 2000000 in
theorem token_any (s : ByteArray) (w : World) (hs : s.size ≤ 1099511627776) :
    Calls Tryd.prog 46 #[.string s] w fun e w' => e = .returned (.bool (tokB s.toList)) ∧ w = w' := by
  have hlen := size_toList s
  go_enter Tryd.func46, Tryd.ntmps46
  go_wp2_with fail
  go_loop [3] (fun iv => ∃ k : Nat, iv = .int .i64 k ∧ k ≤ s.size ∧ Hid ((s.toList.take k).all tokC = true)) (fun iv => s.size - (intOf iv).toNat)
  case atStart => exact ⟨0, rfl, Nat.zero_le _, Lib.hid rfl⟩
  case round =>
    obtain ⟨k, rfl, hk, hg⟩ := hrel
    by_cases hlt : k < s.size
    · have hltI : (k : Int) < (s.size : Int) := by omega
      have htk := take_snoc s k hlt
      have hdr := drop_cons s k hlt
      obtain ⟨c, hc⟩ : ∃ c, s[k] = c := ⟨_, rfl⟩
      rw [hc] at htk hdr
      have hbad : tokC c = false → Hid (tokB s.toList = false) := fun h => Lib.hid (by
        unfold tokB
        have e : s.toList = s.toList.take k ++ c :: s.toList.drop (k + 1) := by rw [← hdr, List.take_append_drop]
        rw [e, List.all_append, List.all_cons, h]; simp)
      have hgood : tokC c = true → Hid ((s.toList.take (k + 1)).all tokC = true) := fun h => Lib.hid (by
        rw [htk, List.all_append, hg.out]; simp [h])
      have hix := fun w => Tryd.strings_IndexByte ⟨#[33, 35, 36, 37, 38, 39, 42, 43, 45, 46, 94, 95, 96, 124, 126]⟩ (c.toNat : Int) w
      have ec : ((c.toNat : Int)).toNat.toUInt8 = c := by simp
      simp only [ec] at hix
      have hsg := contains_indexM signsL c
      have hway : (letterZ (c.toNat : Int) = true ∧ tokC c = true) ∨ (letterZ (c.toNat : Int) = false ∧ (¬ digitZ (c.toNat : Int) 10 < 0) ∧ tokC c = true) ∨
          (letterZ (c.toNat : Int) = false ∧ digitZ (c.toNat : Int) 10 < 0 ∧ (∃ z : Int, Lib.indexByte signsL c = z ∧ 0 ≤ z) ∧ tokC c = true) ∨ (letterZ (c.toNat : Int) = false ∧ digitZ (c.toNat : Int) 10 < 0 ∧ (∃ z : Int, Lib.indexByte signsL c = z ∧ z < 0) ∧ tokC c = false) := by
        unfold tokC
        cases hl : letterZ (c.toNat : Int)
        · by_cases hd : digitZ (c.toNat : Int) 10 < 0
          · by_cases hz : 0 ≤ Lib.indexByte signsL c
            · refine .inr (.inr (.inl ⟨rfl, hd, ⟨_, rfl, hz⟩, ?_⟩))
              rw [hsg, decide_eq_true hz]; simp
            · refine .inr (.inr (.inr ⟨rfl, hd, ⟨_, rfl, by omega⟩, ?_⟩))
              rw [hsg, decide_eq_false hz, decide_eq_false (by omega)]; rfl
          · refine .inr (.inl ⟨rfl, hd, ?_⟩)
            rw [decide_eq_true (by omega)]; simp
        · exact .inl ⟨rfl, rfl⟩
      clear hsg htk hdr hg
      replace hlen := Lib.hid hlen
      rw [← hc] at hix hway hbad hgood
      replace hix := Lib.hid hix
      replace hbad := Lib.hid hbad
      replace hgood := Lib.hid hgood
      replace hc := Lib.hid hc
      have hixz : ∀ z : Int, Lib.indexByte signsL s[k] = z → Hid (∀ w, Calls Tryd.prog 61 #[.string ⟨#[33, 35, 36, 37, 38, 39, 42, 43, 45, 46, 94, 95, 96, 124, 126]⟩, .int .u8 (s[k].toNat : Int)] w fun e w' => e = .returned (.int .i64 z) ∧ w' = w) := fun z hz => Lib.hid (fun w => by
        have h := hix.out w
        rw [show Lib.indexByte [33, 35, 36, 37, 38, 39, 42, 43, 45, 46, 94, 95, 96, 124, 126] s[k] = z from hz] at h
        exact h)
      replace hixz := Lib.hid hixz
      rcases hway with ⟨q1, q2⟩ | ⟨q1, q2, q3⟩ | ⟨q1, q2, ⟨z, hz, hz0⟩, q3⟩ | ⟨q1, q2, ⟨z, hz, hz0⟩, q3⟩
      · have hn := hgood.out q2
        clear q2
        go_wp2_with (go_at_call 59; refine (letter_any _ _).mono ?_; rintro e w' ⟨rfl, rfl⟩)
        go_round
        case rel => exact ⟨k + 1, by go_num, by omega, hn⟩
        case measure => simp [intOf]; omega
      · have hn := hgood.out q3
        have q4 : 0 ≤ digitZ (s[k].toNat : Int) 10 := by omega
        clear q2 q3
        go_wp2_with (first
          | (go_at_call 59; refine (letter_any _ _).mono ?_; rintro e w' ⟨rfl, rfl⟩)
          | (go_at_call 60; refine (digit_any _ _ _ (byte_nn _) (byte_le _)).mono ?_; rintro e w' ⟨rfl, rfl⟩))
        go_round
        case rel => exact ⟨k + 1, by go_num, by omega, hn⟩
        case measure => simp [intOf]; omega
      · have hn := hgood.out q3
        have hi := hixz.out z hz
        replace hz := Lib.hid hz
        clear q3
        go_wp2_with (first
          | (go_at_call 59; refine (letter_any _ _).mono ?_; rintro e w' ⟨rfl, rfl⟩)
          | (go_at_call 60; refine (digit_any _ _ _ (byte_nn _) (byte_le _)).mono ?_; rintro e w' ⟨rfl, rfl⟩)
          | (go_at_call 61; refine (hi.out _).mono ?_; rintro e w' ⟨rfl, rfl⟩))
        go_round
        case rel => exact ⟨k + 1, by go_num, by omega, hn⟩
        case measure => simp [intOf]; omega
      · have hn := hbad.out q3
        have hi := hixz.out z hz
        replace hz := Lib.hid hz
        clear q3
        go_wp2_with (first
          | (go_at_call 59; refine (letter_any _ _).mono ?_; rintro e w' ⟨rfl, rfl⟩)
          | (go_at_call 60; refine (digit_any _ _ _ (byte_nn _) (byte_le _)).mono ?_; rintro e w' ⟨rfl, rfl⟩)
          | (go_at_call 61; refine (hi.out _).mono ?_; rintro e w' ⟨rfl, rfl⟩))
        go_ret
        exact ⟨ret_bool hn.out.symm, rfl⟩
    · have hgeI : (s.size : Int) ≤ (k : Int) := by omega
      have hall : Hid (s.toList.all tokC = true) := Lib.hid (by have := hg.out; rw [take_all s k (by omega)] at this; exact this)
      cases hem : s.toList.isEmpty
      · have hfin : Hid (tokB s.toList = true) := Lib.hid (by unfold tokB; rw [hem, hall.out]; rfl)
        replace hlen := Lib.hid hlen
        go_wp2_with fail
        go_ret
        exact ⟨ret_bool hfin.out.symm, rfl⟩
      · have hfin : Hid (tokB s.toList = false) := Lib.hid (by unfold tokB; rw [hem]; rfl)
        replace hlen := Lib.hid hlen
        go_wp2_with fail
        go_ret
        exact ⟨ret_bool hfin.out.symm, rfl⟩
end Go.Proofs.YtnalafhepnfggaaDoor
