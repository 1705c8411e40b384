/- The document's answer to a name: martelloref05.Name. -/
import Derived.Test.YtihbmgpjihgodaaGreatDoorTName
import Derived.Test.YtihbmgpjihgodaaGreatDoorProg
import Derived.WalkKit
import Derived.Lib.Hide
import Derived.WalkSpells
import Derived.WalkLawsBesides
import Derived.LoopTactic
namespace Go.Proofs.YtihbmgpjihgodaaGreatDoor
open Go Go.RowKit Go.Proofs

/-- The first k bytes are a name's so far. -/
def nameTo (s : ByteArray) (k : Nat) : Prop := (s.data.toList.take k).all wordB = true ∧ (0 < k → digB (s.data.toList.getD 0 0) = false)
theorem wordB_eq (x : UInt8) : wordB x = decide ((97 ≤ x.toNat ∧ x.toNat ≤ 122) ∨ (65 ≤ x.toNat ∧ x.toNat ≤ 90) ∨ (48 ≤ x.toNat ∧ x.toNat ≤ 57) ∨ x.toNat = 95) := by
  unfold wordB
  rw [Bool.eq_iff_iff]
  simp only [Bool.or_eq_true, Bool.and_eq_true, decide_eq_true_eq, or_assoc]
theorem digB_eq (x : UInt8) : digB x = decide (48 ≤ x.toNat ∧ x.toNat ≤ 57) := by
  unfold digB
  rw [Bool.eq_iff_iff]
  simp only [Bool.and_eq_true, decide_eq_true_eq]
theorem nameTo_zero (s : ByteArray) : nameTo s 0 := ⟨rfl, fun h => absurd h (Nat.lt_irrefl _)⟩
theorem nameTo_succ {s : ByteArray} {k : Nat} (hk : k < s.size) (h : nameTo s k) (hw : wordB (s[k]'hk) = true) (hd : k = 0 → digB (s[k]'hk) = false) : nameTo s (k + 1) := by
  have hk2 : k < s.data.toList.length := by simpa using hk
  refine ⟨?_, fun _ => ?_⟩
  · rw [List.take_succ_eq_append_getElem hk2, List.all_append, h.1]
    have : s.data.toList[k] = s[k] := rfl
    rw [this]; simp [hw]
  · by_cases h0 : k = 0
    · subst h0
      have : s.data.toList.getD 0 0 = s[0] := by rw [List.getD_eq_getElem?_getD, List.getElem?_eq_getElem hk2]; rfl
      rw [this]; exact hd rfl
    · exact h.2 (by omega)
theorem nameTo_end {s : ByteArray} (h : nameTo s s.size) (h0 : 0 < s.size) (h1 : s.size ≤ 32) : nameB s = true := by
  have h2 := h.1
  rw [List.take_of_length_le (by simp)] at h2
  unfold nameB
  rw [decide_eq_true h0, decide_eq_true h1, h.2 h0, h2]; rfl
theorem nameB_no_word {s : ByteArray} {k : Nat} (hk : k < s.size) (h : wordB (s[k]'hk) = false) : nameB s = false := by
  have hk2 : k < s.data.toList.length := by simpa using hk
  have : s.data.toList.all wordB = false := all_take_no hk2 (by exact h)
  unfold nameB; rw [this]; simp
theorem nameB_no_dig {s : ByteArray} (hk : 0 < s.size) (h : digB (s[0]'hk) = true) : nameB s = false := by
  have hk2 : 0 < s.data.toList.length := by simpa using hk
  have e : s.data.toList.getD 0 0 = s[0] := by rw [List.getD_eq_getElem?_getD, List.getElem?_eq_getElem hk2]; rfl
  unfold nameB; rw [e, h]; simp

set_option maxHeartbeats 2000000 in
theorem ref05_Name (s : ByteArray) (w : World) : Calls Tryz.prog 60 #[.string s] w fun e w' => e = .returned (.bool (nameB s)) ∧ w' = w := by
  by_cases h0 : s.size < 1
  · have hF : nameB s = false := by unfold nameB; rw [decide_eq_false (show ¬ 0 < s.size by omega)]; rfl
    rw [hF]
    have h0' : (s.size : Int) < 1 := by omega
    clear hF
    go_enter Tryz.func60, Tryz.ntmps60
    go_wp2_with fail
    go_ret
    exact ⟨rfl, rfl⟩
  · by_cases h1 : 32 < s.size
    · have hF : nameB s = false := by unfold nameB; rw [decide_eq_false (show ¬ s.size ≤ 32 by omega)]; simp
      rw [hF]
      have h0' : ¬ (s.size : Int) < 1 := by omega
      have h1' : (32 : Int) < (s.size : Int) := by omega
      clear hF
      go_enter Tryz.func60, Tryz.ntmps60
      go_wp2_with fail
      go_ret
      exact ⟨rfl, rfl⟩
    · have h0' : ¬ (s.size : Int) < 1 := by omega
      have h1' : ¬ (32 : Int) < (s.size : Int) := by omega
      go_enter Tryz.func60, Tryz.ntmps60
      go_wp2_with fail
      go_loop [3] (fun i => ∃ k : Nat, k ≤ s.size ∧ i = .int .i64 k ∧ nameTo s k) (fun i => s.size - (intOf i).toNat)
      case atStart => exact ⟨0, Nat.zero_le _, rfl, nameTo_zero s⟩
      case round =>
        obtain ⟨k, hk, rfl, hn⟩ := hrel
        have HN := Lib.hid hn; clear hn
        by_cases hlt : k < s.size
        · have HL := Lib.hid hlt
          obtain ⟨c, hc⟩ : ∃ c, c = (s[k]'hlt).toNat := ⟨_, rfl⟩
          have hW := wordB_eq (s[k]'hlt)
          have hD := digB_eq (s[k]'hlt)
          rw [← hc] at hW hD
          have HW := Lib.hid hW; have HD := Lib.hid hD
          clear hW hD
          have hcase : c < 48 ∨ (48 ≤ c ∧ c ≤ 57) ∨ (58 ≤ c ∧ c ≤ 64) ∨ (65 ≤ c ∧ c ≤ 90) ∨ (91 ≤ c ∧ c ≤ 94) ∨ c = 95 ∨ c = 96 ∨ (97 ≤ c ∧ c ≤ 122) ∨ 123 ≤ c := by omega
          have HC := Lib.hid hc
          rcases hcase with ha | ha | ha | ha | ha | ha | ha | ha | ha
          · have f1 : ¬ 97 ≤ (s[k]'hlt).toNat := by omega
            have gf1 : decide ((97 : Int) ≤ ((s[k]'hlt).toNat : Int)) = false := by simp; omega
            have f2 : (s[k]'hlt).toNat ≤ 122 := by omega
            have gf2 : decide (((s[k]'hlt).toNat : Int) ≤ 122) = true := by simp; omega
            have f3 : ¬ 65 ≤ (s[k]'hlt).toNat := by omega
            have gf3 : decide ((65 : Int) ≤ ((s[k]'hlt).toNat : Int)) = false := by simp; omega
            have f4 : (s[k]'hlt).toNat ≤ 90 := by omega
            have gf4 : decide (((s[k]'hlt).toNat : Int) ≤ 90) = true := by simp; omega
            have f6 : ¬ 48 ≤ (s[k]'hlt).toNat := by omega
            have gf6 : decide ((48 : Int) ≤ ((s[k]'hlt).toNat : Int)) = false := by simp; omega
            have f7 : (s[k]'hlt).toNat ≤ 57 := by omega
            have gf7 : decide (((s[k]'hlt).toNat : Int) ≤ 57) = true := by simp; omega
            have f5 : (((s[k]'hlt).toNat : Int) == 95) = false := by simp; omega
            have HA := Lib.hid ha
            clear ha hc
            have hno : nameB s = false := nameB_no_word HL.out (by rw [HW.out]; have := HC.out; have := HA.out; exact decide_eq_false (by omega))
            have HNO := Lib.hid hno
            clear hno
            by_cases hk0 : 0 < k
            · have hk1 : (0 : Int) < (k : Int) := by omega
              go_wp2_with fail
              go_ret
              exact ⟨by rw [HNO.out]; rfl, rfl⟩
            · have hk1 : ¬ (0 : Int) < (k : Int) := by omega
              go_wp2_with fail
              go_ret
              exact ⟨by rw [HNO.out]; rfl, rfl⟩
          · have f1 : ¬ 97 ≤ (s[k]'hlt).toNat := by omega
            have gf1 : decide ((97 : Int) ≤ ((s[k]'hlt).toNat : Int)) = false := by simp; omega
            have f2 : (s[k]'hlt).toNat ≤ 122 := by omega
            have gf2 : decide (((s[k]'hlt).toNat : Int) ≤ 122) = true := by simp; omega
            have f3 : ¬ 65 ≤ (s[k]'hlt).toNat := by omega
            have gf3 : decide ((65 : Int) ≤ ((s[k]'hlt).toNat : Int)) = false := by simp; omega
            have f4 : (s[k]'hlt).toNat ≤ 90 := by omega
            have gf4 : decide (((s[k]'hlt).toNat : Int) ≤ 90) = true := by simp; omega
            have f6 : 48 ≤ (s[k]'hlt).toNat := by omega
            have gf6 : decide ((48 : Int) ≤ ((s[k]'hlt).toNat : Int)) = true := by simp; omega
            have f7 : (s[k]'hlt).toNat ≤ 57 := by omega
            have gf7 : decide (((s[k]'hlt).toNat : Int) ≤ 57) = true := by simp; omega
            have f5 : (((s[k]'hlt).toNat : Int) == 95) = false := by simp; omega
            have HA := Lib.hid ha
            clear ha hc
            by_cases hk0 : 0 < k
            · have hk1 : (0 : Int) < (k : Int) := by omega
              have hnx : nameTo s (k + 1) := nameTo_succ HL.out HN.out (by rw [HW.out]; have := HC.out; have := HA.out; exact decide_eq_true (by omega)) (fun h => by omega)
              have HX := Lib.hid hnx; clear hnx
              go_wp2_with fail
              go_round
              case rel => exact ⟨k + 1, HL.out, by go_num, HX.out⟩
              case measure => have := HL.out; simp [intOf]; omega
            · have hno : nameB s = false := by
                have hkz : k = 0 := by omega
                subst hkz
                exact nameB_no_dig HL.out (by rw [HD.out]; have := HC.out; have := HA.out; exact decide_eq_true (by omega))
              have HNO := Lib.hid hno
              have hk1 : ¬ (0 : Int) < (k : Int) := by omega
              clear hno
              go_wp2_with fail
              go_ret
              exact ⟨by rw [HNO.out]; rfl, rfl⟩
          · have f1 : ¬ 97 ≤ (s[k]'hlt).toNat := by omega
            have gf1 : decide ((97 : Int) ≤ ((s[k]'hlt).toNat : Int)) = false := by simp; omega
            have f2 : (s[k]'hlt).toNat ≤ 122 := by omega
            have gf2 : decide (((s[k]'hlt).toNat : Int) ≤ 122) = true := by simp; omega
            have f3 : ¬ 65 ≤ (s[k]'hlt).toNat := by omega
            have gf3 : decide ((65 : Int) ≤ ((s[k]'hlt).toNat : Int)) = false := by simp; omega
            have f4 : (s[k]'hlt).toNat ≤ 90 := by omega
            have gf4 : decide (((s[k]'hlt).toNat : Int) ≤ 90) = true := by simp; omega
            have f6 : 48 ≤ (s[k]'hlt).toNat := by omega
            have gf6 : decide ((48 : Int) ≤ ((s[k]'hlt).toNat : Int)) = true := by simp; omega
            have f7 : ¬ (s[k]'hlt).toNat ≤ 57 := by omega
            have gf7 : decide (((s[k]'hlt).toNat : Int) ≤ 57) = false := by simp; omega
            have f5 : (((s[k]'hlt).toNat : Int) == 95) = false := by simp; omega
            have HA := Lib.hid ha
            clear ha hc
            have hno : nameB s = false := nameB_no_word HL.out (by rw [HW.out]; have := HC.out; have := HA.out; exact decide_eq_false (by omega))
            have HNO := Lib.hid hno
            clear hno
            by_cases hk0 : 0 < k
            · have hk1 : (0 : Int) < (k : Int) := by omega
              go_wp2_with fail
              go_ret
              exact ⟨by rw [HNO.out]; rfl, rfl⟩
            · have hk1 : ¬ (0 : Int) < (k : Int) := by omega
              go_wp2_with fail
              go_ret
              exact ⟨by rw [HNO.out]; rfl, rfl⟩
          · have f1 : ¬ 97 ≤ (s[k]'hlt).toNat := by omega
            have gf1 : decide ((97 : Int) ≤ ((s[k]'hlt).toNat : Int)) = false := by simp; omega
            have f2 : (s[k]'hlt).toNat ≤ 122 := by omega
            have gf2 : decide (((s[k]'hlt).toNat : Int) ≤ 122) = true := by simp; omega
            have f3 : 65 ≤ (s[k]'hlt).toNat := by omega
            have gf3 : decide ((65 : Int) ≤ ((s[k]'hlt).toNat : Int)) = true := by simp; omega
            have f4 : (s[k]'hlt).toNat ≤ 90 := by omega
            have gf4 : decide (((s[k]'hlt).toNat : Int) ≤ 90) = true := by simp; omega
            have f6 : 48 ≤ (s[k]'hlt).toNat := by omega
            have gf6 : decide ((48 : Int) ≤ ((s[k]'hlt).toNat : Int)) = true := by simp; omega
            have f7 : ¬ (s[k]'hlt).toNat ≤ 57 := by omega
            have gf7 : decide (((s[k]'hlt).toNat : Int) ≤ 57) = false := by simp; omega
            have f5 : (((s[k]'hlt).toNat : Int) == 95) = false := by simp; omega
            have HA := Lib.hid ha
            clear ha hc
            have hnx : nameTo s (k + 1) := nameTo_succ HL.out HN.out (by rw [HW.out]; have := HC.out; have := HA.out; exact decide_eq_true (by omega)) (fun _ => by rw [HD.out]; have := HC.out; have := HA.out; exact decide_eq_false (by omega))
            have HX := Lib.hid hnx; clear hnx
            go_wp2_with fail
            go_round
            case rel => exact ⟨k + 1, HL.out, by go_num, HX.out⟩
            case measure => have := HL.out; simp [intOf]; omega
          · have f1 : ¬ 97 ≤ (s[k]'hlt).toNat := by omega
            have gf1 : decide ((97 : Int) ≤ ((s[k]'hlt).toNat : Int)) = false := by simp; omega
            have f2 : (s[k]'hlt).toNat ≤ 122 := by omega
            have gf2 : decide (((s[k]'hlt).toNat : Int) ≤ 122) = true := by simp; omega
            have f3 : 65 ≤ (s[k]'hlt).toNat := by omega
            have gf3 : decide ((65 : Int) ≤ ((s[k]'hlt).toNat : Int)) = true := by simp; omega
            have f4 : ¬ (s[k]'hlt).toNat ≤ 90 := by omega
            have gf4 : decide (((s[k]'hlt).toNat : Int) ≤ 90) = false := by simp; omega
            have f6 : 48 ≤ (s[k]'hlt).toNat := by omega
            have gf6 : decide ((48 : Int) ≤ ((s[k]'hlt).toNat : Int)) = true := by simp; omega
            have f7 : ¬ (s[k]'hlt).toNat ≤ 57 := by omega
            have gf7 : decide (((s[k]'hlt).toNat : Int) ≤ 57) = false := by simp; omega
            have f5 : (((s[k]'hlt).toNat : Int) == 95) = false := by simp; omega
            have HA := Lib.hid ha
            clear ha hc
            have hno : nameB s = false := nameB_no_word HL.out (by rw [HW.out]; have := HC.out; have := HA.out; exact decide_eq_false (by omega))
            have HNO := Lib.hid hno
            clear hno
            by_cases hk0 : 0 < k
            · have hk1 : (0 : Int) < (k : Int) := by omega
              go_wp2_with fail
              go_ret
              exact ⟨by rw [HNO.out]; rfl, rfl⟩
            · have hk1 : ¬ (0 : Int) < (k : Int) := by omega
              go_wp2_with fail
              go_ret
              exact ⟨by rw [HNO.out]; rfl, rfl⟩
          · have f1 : ¬ 97 ≤ (s[k]'hlt).toNat := by omega
            have gf1 : decide ((97 : Int) ≤ ((s[k]'hlt).toNat : Int)) = false := by simp; omega
            have f2 : (s[k]'hlt).toNat ≤ 122 := by omega
            have gf2 : decide (((s[k]'hlt).toNat : Int) ≤ 122) = true := by simp; omega
            have f3 : 65 ≤ (s[k]'hlt).toNat := by omega
            have gf3 : decide ((65 : Int) ≤ ((s[k]'hlt).toNat : Int)) = true := by simp; omega
            have f4 : ¬ (s[k]'hlt).toNat ≤ 90 := by omega
            have gf4 : decide (((s[k]'hlt).toNat : Int) ≤ 90) = false := by simp; omega
            have f6 : 48 ≤ (s[k]'hlt).toNat := by omega
            have gf6 : decide ((48 : Int) ≤ ((s[k]'hlt).toNat : Int)) = true := by simp; omega
            have f7 : ¬ (s[k]'hlt).toNat ≤ 57 := by omega
            have gf7 : decide (((s[k]'hlt).toNat : Int) ≤ 57) = false := by simp; omega
            have f5 : (((s[k]'hlt).toNat : Int) == 95) = true := by simp; omega
            have HA := Lib.hid ha
            clear ha hc
            have hnx : nameTo s (k + 1) := nameTo_succ HL.out HN.out (by rw [HW.out]; have := HC.out; have := HA.out; exact decide_eq_true (by omega)) (fun _ => by rw [HD.out]; have := HC.out; have := HA.out; exact decide_eq_false (by omega))
            have HX := Lib.hid hnx; clear hnx
            go_wp2_with fail
            go_round
            case rel => exact ⟨k + 1, HL.out, by go_num, HX.out⟩
            case measure => have := HL.out; simp [intOf]; omega
          · have f1 : ¬ 97 ≤ (s[k]'hlt).toNat := by omega
            have gf1 : decide ((97 : Int) ≤ ((s[k]'hlt).toNat : Int)) = false := by simp; omega
            have f2 : (s[k]'hlt).toNat ≤ 122 := by omega
            have gf2 : decide (((s[k]'hlt).toNat : Int) ≤ 122) = true := by simp; omega
            have f3 : 65 ≤ (s[k]'hlt).toNat := by omega
            have gf3 : decide ((65 : Int) ≤ ((s[k]'hlt).toNat : Int)) = true := by simp; omega
            have f4 : ¬ (s[k]'hlt).toNat ≤ 90 := by omega
            have gf4 : decide (((s[k]'hlt).toNat : Int) ≤ 90) = false := by simp; omega
            have f6 : 48 ≤ (s[k]'hlt).toNat := by omega
            have gf6 : decide ((48 : Int) ≤ ((s[k]'hlt).toNat : Int)) = true := by simp; omega
            have f7 : ¬ (s[k]'hlt).toNat ≤ 57 := by omega
            have gf7 : decide (((s[k]'hlt).toNat : Int) ≤ 57) = false := by simp; omega
            have f5 : (((s[k]'hlt).toNat : Int) == 95) = false := by simp; omega
            have HA := Lib.hid ha
            clear ha hc
            have hno : nameB s = false := nameB_no_word HL.out (by rw [HW.out]; have := HC.out; have := HA.out; exact decide_eq_false (by omega))
            have HNO := Lib.hid hno
            clear hno
            by_cases hk0 : 0 < k
            · have hk1 : (0 : Int) < (k : Int) := by omega
              go_wp2_with fail
              go_ret
              exact ⟨by rw [HNO.out]; rfl, rfl⟩
            · have hk1 : ¬ (0 : Int) < (k : Int) := by omega
              go_wp2_with fail
              go_ret
              exact ⟨by rw [HNO.out]; rfl, rfl⟩
          · have f1 : 97 ≤ (s[k]'hlt).toNat := by omega
            have gf1 : decide ((97 : Int) ≤ ((s[k]'hlt).toNat : Int)) = true := by simp; omega
            have f2 : (s[k]'hlt).toNat ≤ 122 := by omega
            have gf2 : decide (((s[k]'hlt).toNat : Int) ≤ 122) = true := by simp; omega
            have f3 : 65 ≤ (s[k]'hlt).toNat := by omega
            have gf3 : decide ((65 : Int) ≤ ((s[k]'hlt).toNat : Int)) = true := by simp; omega
            have f4 : ¬ (s[k]'hlt).toNat ≤ 90 := by omega
            have gf4 : decide (((s[k]'hlt).toNat : Int) ≤ 90) = false := by simp; omega
            have f6 : 48 ≤ (s[k]'hlt).toNat := by omega
            have gf6 : decide ((48 : Int) ≤ ((s[k]'hlt).toNat : Int)) = true := by simp; omega
            have f7 : ¬ (s[k]'hlt).toNat ≤ 57 := by omega
            have gf7 : decide (((s[k]'hlt).toNat : Int) ≤ 57) = false := by simp; omega
            have f5 : (((s[k]'hlt).toNat : Int) == 95) = false := by simp; omega
            have HA := Lib.hid ha
            clear ha hc
            have hnx : nameTo s (k + 1) := nameTo_succ HL.out HN.out (by rw [HW.out]; have := HC.out; have := HA.out; exact decide_eq_true (by omega)) (fun _ => by rw [HD.out]; have := HC.out; have := HA.out; exact decide_eq_false (by omega))
            have HX := Lib.hid hnx; clear hnx
            go_wp2_with fail
            go_round
            case rel => exact ⟨k + 1, HL.out, by go_num, HX.out⟩
            case measure => have := HL.out; simp [intOf]; omega
          · have f1 : 97 ≤ (s[k]'hlt).toNat := by omega
            have gf1 : decide ((97 : Int) ≤ ((s[k]'hlt).toNat : Int)) = true := by simp; omega
            have f2 : ¬ (s[k]'hlt).toNat ≤ 122 := by omega
            have gf2 : decide (((s[k]'hlt).toNat : Int) ≤ 122) = false := by simp; omega
            have f3 : 65 ≤ (s[k]'hlt).toNat := by omega
            have gf3 : decide ((65 : Int) ≤ ((s[k]'hlt).toNat : Int)) = true := by simp; omega
            have f4 : ¬ (s[k]'hlt).toNat ≤ 90 := by omega
            have gf4 : decide (((s[k]'hlt).toNat : Int) ≤ 90) = false := by simp; omega
            have f6 : 48 ≤ (s[k]'hlt).toNat := by omega
            have gf6 : decide ((48 : Int) ≤ ((s[k]'hlt).toNat : Int)) = true := by simp; omega
            have f7 : ¬ (s[k]'hlt).toNat ≤ 57 := by omega
            have gf7 : decide (((s[k]'hlt).toNat : Int) ≤ 57) = false := by simp; omega
            have f5 : (((s[k]'hlt).toNat : Int) == 95) = false := by simp; omega
            have HA := Lib.hid ha
            clear ha hc
            have hno : nameB s = false := nameB_no_word HL.out (by rw [HW.out]; have := HC.out; have := HA.out; exact decide_eq_false (by omega))
            have HNO := Lib.hid hno
            clear hno
            by_cases hk0 : 0 < k
            · have hk1 : (0 : Int) < (k : Int) := by omega
              go_wp2_with fail
              go_ret
              exact ⟨by rw [HNO.out]; rfl, rfl⟩
            · have hk1 : ¬ (0 : Int) < (k : Int) := by omega
              go_wp2_with fail
              go_ret
              exact ⟨by rw [HNO.out]; rfl, rfl⟩
        · have hke : k = s.size := by omega
          have hY : nameB s = true := nameTo_end (by rw [← hke]; exact HN.out) (by omega) (by omega)
          have HY := Lib.hid hY
          clear hY hke
          go_wp2_with fail
          go_ret
          exact ⟨by rw [HY.out]; rfl, rfl⟩
end Go.Proofs.YtihbmgpjihgodaaGreatDoor
