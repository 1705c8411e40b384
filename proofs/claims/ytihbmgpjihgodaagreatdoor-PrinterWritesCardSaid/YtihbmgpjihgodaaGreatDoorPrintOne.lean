/- A rune's text: the document's one. -/
import Derived.Test.YtihbmgpjihgodaaGreatDoorPrintLit
import Derived.Test.YtihbmgpjihgodaaGreatDoorQPrintBare
namespace Go.Proofs.YtihbmgpjihgodaaGreatDoor
open Go Go.RowKit Go.Proofs Go.Shelf

def hasB (s : ByteArray) (k : Nat) : Bool := s.data.toList.any (fun x => x.toNat == k)
theorem hasB_yes {s : ByteArray} {k i : Nat} (h : i < s.size) (he : (s[i]'h).toNat = k) : hasB s k = true := by
  unfold hasB
  rw [List.any_eq_true]
  refine ⟨s[i]'h, ?_, by simpa using he⟩
  show s.data[i]'h ∈ _
  simp
theorem hasB_no {s : ByteArray} {k : Nat} (h : ∀ i (h : i < s.size), (s[i]'h).toNat ≠ k) : hasB s k = false := by
  unfold hasB
  rw [List.any_eq_false]
  intro x hx
  obtain ⟨i, hi, rfl⟩ := List.getElem_of_mem hx
  have := h i (by simpa using hi)
  rw [show s.data.toList[i] = s[i]'(by simpa using hi) by simp; rfl]
  simpa using this

set_option maxHeartbeats 1000000 in
theorem ref09_has (s : ByteArray) (k : Nat) (w : World) (hs : s.size ≤ 1000000) :
    Calls Tryz.prog 49 #[.string s, .int .i32 k] w fun e w' => e = .returned (.bool (hasB s k)) ∧ w' = w := by
  go_enter Tryz.func49, Tryz.ntmps49
  go_wp2_with fail
  go_loop [5] (fun i => ∃ a : Nat, a ≤ s.size ∧ i = .int .i64 a ∧ ∀ j (h : j < s.size), j < a → (s[j]'h).toNat ≠ k) (fun i => s.size - (intOf i).toNat)
  case atStart => exact ⟨0, Nat.zero_le _, rfl, fun j h hj => by omega⟩
  case round =>
    obtain ⟨a, ha, rfl, hn⟩ := hrel
    have HN := Lib.hid hn; clear hn
    by_cases hlt : a < s.size
    · by_cases he : (s[a]'hlt).toNat = k
      · have HY := Lib.hid (hasB_yes hlt he)
        have e1 : (wrap32 ((s[a]'hlt).toNat : Int) == (k : Int)) = true := by
          have := (s[a]'hlt).toNat_lt
          simp [wrap32]; omega
        clear he
        go_wp2_with fail
        go_ret
        exact ⟨by rw [HY.out]; rfl, rfl⟩
      · have HE := Lib.hid he
        have e1 : (wrap32 ((s[a]'hlt).toNat : Int) == (k : Int)) = false := by
          have := (s[a]'hlt).toNat_lt
          simp [wrap32]; omega
        clear he
        go_wp2_with fail
        go_round
        case rel =>
          refine ⟨a + 1, hlt, by go_num, fun j h hj => ?_⟩
          rcases Nat.lt_or_ge j a with h1 | h1
          · exact HN.out j h h1
          · have : j = a := by omega
            subst this
            exact HE.out
        case measure => simp [intOf]; omega
    · have HF := Lib.hid (hasB_no (s := s) (k := k) (fun j h => HN.out j h (by omega)))
      go_wp2_with fail
      go_ret
      exact ⟨by rw [HF.out]; rfl, rfl⟩
-- PRINTED by gen_one.py
def wordN (k : Nat) : Bool := decide (48 ≤ k ∧ k ≤ 57) || decide (65 ≤ k ∧ k ≤ 90) || decide (97 ≤ k ∧ k ≤ 122) || decide (k = 95) || decide (k = 32)
set_option maxRecDepth 100000 in
theorem plain_has : ∀ k : Nat, k < 127 → isPlainC (k : Int) = (wordN k || hasB ⟨#[33, 34, 35, 37, 38, 39, 44, 45, 47, 58, 59, 60, 61, 62, 64, 126, 96]⟩ k) := by decide +kernel
set_option maxRecDepth 100000 in
theorem meta_has : ∀ k : Nat, k < 127 → isMetaC (k : Int) = hasB ⟨#[92, 46, 43, 42, 63, 40, 41, 124, 91, 93, 123, 125, 94, 36]⟩ k := by decide +kernel
theorem has_big {s : ByteArray} {k : Nat} (hs : s.data.toList.all (fun x => decide (x.toNat < 127)) = true) (h : 127 ≤ k) : hasB s k = false := by
  unfold hasB
  rw [List.any_eq_false]
  intro x hx
  have := List.all_eq_true.1 hs x hx
  simp at this ⊢
  omega
theorem plain_any' (k : Nat) (hw : wordN k = false) : isPlainC (k : Int) = hasB ⟨#[33, 34, 35, 37, 38, 39, 44, 45, 47, 58, 59, 60, 61, 62, 64, 126, 96]⟩ k := by
  by_cases h : k < 127
  · rw [plain_has k h, hw, Bool.false_or]
  · rw [plain_big (by omega), has_big (by decide) (by omega)]
theorem meta_any' (k : Nat) : isMetaC (k : Int) = hasB ⟨#[92, 46, 43, 42, 63, 40, 41, 124, 91, 93, 123, 125, 94, 36]⟩ k := by
  by_cases h : k < 127
  · exact meta_has k h
  · rw [meta_big (by omega), has_big (by decide) (by omega)]
theorem word_lit (k : Nat) (hw : wordN k = true) : litTx k = [UInt8.ofNat k] ∧ k < 128 := by
  have h1 : k < 127 := by
    unfold wordN at hw
    simp at hw
    omega
  have e1 : isPlainC (k : Int) = true := by rw [plain_has k h1, hw, Bool.true_or]
  exact ⟨by unfold litTx; rw [if_pos e1]; rfl, by omega⟩
set_option maxRecDepth 100000 in
set_option maxHeartbeats 8000000 in
theorem ref09_one (k : Nat) (w : World) (hn : k ≤ 1114111) (hT : Bru w) :
    Calls Tryz.prog 29 #[.int .i32 k] w fun e w' => e = .returned (.string ⟨(litTx k).toArray⟩) ∧ Below w.heap.size w w' := by
  have HT := Lib.hid hT
  clear hT
  have hcase : (48 ≤ k ∧ k ≤ 57) ∨ (65 ≤ k ∧ k ≤ 90) ∨ (97 ≤ k ∧ k ≤ 122) ∨ k = 95 ∨ k = 32 ∨ k < 32 ∨ (33 ≤ k ∧ k < 48) ∨ (58 ≤ k ∧ k < 65) ∨ (91 ≤ k ∧ k < 95) ∨ k = 96 ∨ 123 ≤ k := by omega
  rcases hcase with ⟨a1, a2⟩ | ⟨a1, a2⟩ | ⟨a1, a2⟩ | rfl | rfl | a1 | ⟨a1, a2⟩ | ⟨a1, a2⟩ | ⟨a1, a2⟩ | rfl | a1
  · obtain ⟨hL, h1⟩ := word_lit k (by unfold wordN; simp; omega)
    have HL := Lib.hid hL; clear hL
    have HE := Lib.hid (enc_char k h1)
    clear h1
    have f0 : (48 : Int) ≤ (k : Int) := by omega
    have f1 : decide ((48 : Int) ≤ (k : Int)) = true := by simp; omega
    have f2 : ¬ (65 : Int) ≤ (k : Int) := by omega
    have f3 : decide ((65 : Int) ≤ (k : Int)) = false := by simp; omega
    have f4 : ¬ (97 : Int) ≤ (k : Int) := by omega
    have f5 : decide ((97 : Int) ≤ (k : Int)) = false := by simp; omega
    have f6 : (k : Int) ≤ 57 := by omega
    have f7 : decide ((k : Int) ≤ 57) = true := by simp; omega
    have f8 : (k : Int) ≤ 90 := by omega
    have f9 : decide ((k : Int) ≤ 90) = true := by simp; omega
    have f10 : (k : Int) ≤ 122 := by omega
    have f11 : decide ((k : Int) ≤ 122) = true := by simp; omega
    have f12 : ((k : Int) == 95) = false := by simp; omega
    have f13 : ((k : Int) == 32) = false := by simp; omega
    go_enter Tryz.func29, Tryz.ntmps29
    go_wp2_with (first | fail | rw [HE.out])
    go_ret
    exact ⟨by rw [HL.out]; rfl, Below.refl _ _⟩
  · obtain ⟨hL, h1⟩ := word_lit k (by unfold wordN; simp; omega)
    have HL := Lib.hid hL; clear hL
    have HE := Lib.hid (enc_char k h1)
    clear h1
    have f0 : (48 : Int) ≤ (k : Int) := by omega
    have f1 : decide ((48 : Int) ≤ (k : Int)) = true := by simp; omega
    have f2 : (65 : Int) ≤ (k : Int) := by omega
    have f3 : decide ((65 : Int) ≤ (k : Int)) = true := by simp; omega
    have f4 : ¬ (97 : Int) ≤ (k : Int) := by omega
    have f5 : decide ((97 : Int) ≤ (k : Int)) = false := by simp; omega
    have f6 : ¬ (k : Int) ≤ 57 := by omega
    have f7 : decide ((k : Int) ≤ 57) = false := by simp; omega
    have f8 : (k : Int) ≤ 90 := by omega
    have f9 : decide ((k : Int) ≤ 90) = true := by simp; omega
    have f10 : (k : Int) ≤ 122 := by omega
    have f11 : decide ((k : Int) ≤ 122) = true := by simp; omega
    have f12 : ((k : Int) == 95) = false := by simp; omega
    have f13 : ((k : Int) == 32) = false := by simp; omega
    go_enter Tryz.func29, Tryz.ntmps29
    go_wp2_with (first | fail | rw [HE.out])
    go_ret
    exact ⟨by rw [HL.out]; rfl, Below.refl _ _⟩
  · obtain ⟨hL, h1⟩ := word_lit k (by unfold wordN; simp; omega)
    have HL := Lib.hid hL; clear hL
    have HE := Lib.hid (enc_char k h1)
    clear h1
    have f0 : (48 : Int) ≤ (k : Int) := by omega
    have f1 : decide ((48 : Int) ≤ (k : Int)) = true := by simp; omega
    have f2 : (65 : Int) ≤ (k : Int) := by omega
    have f3 : decide ((65 : Int) ≤ (k : Int)) = true := by simp; omega
    have f4 : (97 : Int) ≤ (k : Int) := by omega
    have f5 : decide ((97 : Int) ≤ (k : Int)) = true := by simp; omega
    have f6 : ¬ (k : Int) ≤ 57 := by omega
    have f7 : decide ((k : Int) ≤ 57) = false := by simp; omega
    have f8 : ¬ (k : Int) ≤ 90 := by omega
    have f9 : decide ((k : Int) ≤ 90) = false := by simp; omega
    have f10 : (k : Int) ≤ 122 := by omega
    have f11 : decide ((k : Int) ≤ 122) = true := by simp; omega
    have f12 : ((k : Int) == 95) = false := by simp; omega
    have f13 : ((k : Int) == 32) = false := by simp; omega
    go_enter Tryz.func29, Tryz.ntmps29
    go_wp2_with (first | fail | rw [HE.out])
    go_ret
    exact ⟨by rw [HL.out]; rfl, Below.refl _ _⟩
  · obtain ⟨hL, h1⟩ := word_lit 95 (by decide)
    have HL := Lib.hid hL; clear hL
    have HE := enc_char 95 h1
    rw [show ((95 : Nat) : Int) = 95 from rfl] at HE
    show Calls Tryz.prog 29 #[.int .i32 95] w _
    go_enter Tryz.func29, Tryz.ntmps29
    go_wp2_with (first | fail | rw [HE])
    go_ret
    exact ⟨by rw [HL.out]; rfl, Below.refl _ _⟩
  · obtain ⟨hL, h1⟩ := word_lit 32 (by decide)
    have HL := Lib.hid hL; clear hL
    have HE := enc_char 32 h1
    rw [show ((32 : Nat) : Int) = 32 from rfl] at HE
    show Calls Tryz.prog 29 #[.int .i32 32] w _
    go_enter Tryz.func29, Tryz.ntmps29
    go_wp2_with (first | fail | rw [HE])
    go_ret
    exact ⟨by rw [HL.out]; rfl, Below.refl _ _⟩
  · have hw : wordN k = false := by unfold wordN; simp; omega
    have hp := plain_any' k hw
    have hm := meta_any' k
    obtain ⟨p, hp2⟩ : ∃ p, hasB ⟨#[33, 34, 35, 37, 38, 39, 44, 45, 47, 58, 59, 60, 61, 62, 64, 126, 96]⟩ k = p := ⟨_, rfl⟩
    obtain ⟨m, hm2⟩ : ∃ m, hasB ⟨#[92, 46, 43, 42, 63, 40, 41, 124, 91, 93, 123, 125, 94, 36]⟩ k = m := ⟨_, rfl⟩
    rw [hp2] at hp; rw [hm2] at hm
    have h1 := ref09_has ⟨#[33, 34, 35, 37, 38, 39, 44, 45, 47, 58, 59, 60, 61, 62, 64, 126, 96]⟩ k w (by decide)
    have h2 := ref09_has ⟨#[92, 46, 43, 42, 63, 40, 41, 124, 91, 93, 123, 125, 94, 36]⟩ k w (by decide)
    rw [hp2] at h1; rw [hm2] at h2
    have H1 := Lib.hid h1; have H2 := Lib.hid h2; have HP := Lib.hid hp; have HM := Lib.hid hm
    clear h1 h2 hp hm hp2 hm2 hw
    have f0 : ¬ (48 : Int) ≤ (k : Int) := by omega
    have f1 : decide ((48 : Int) ≤ (k : Int)) = false := by simp; omega
    have f2 : ¬ (65 : Int) ≤ (k : Int) := by omega
    have f3 : decide ((65 : Int) ≤ (k : Int)) = false := by simp; omega
    have f4 : ¬ (97 : Int) ≤ (k : Int) := by omega
    have f5 : decide ((97 : Int) ≤ (k : Int)) = false := by simp; omega
    have f6 : (k : Int) ≤ 57 := by omega
    have f7 : decide ((k : Int) ≤ 57) = true := by simp; omega
    have f8 : (k : Int) ≤ 90 := by omega
    have f9 : decide ((k : Int) ≤ 90) = true := by simp; omega
    have f10 : (k : Int) ≤ 122 := by omega
    have f11 : decide ((k : Int) ≤ 122) = true := by simp; omega
    have f12 : ((k : Int) == 95) = false := by simp; omega
    have f13 : ((k : Int) == 32) = false := by simp; omega
    go_enter Tryz.func29, Tryz.ntmps29
    go_wp2_with fail
    refine H1.out.mono ?_
    rintro e w' ⟨rfl, rfl⟩
    cases p with
    | true =>
      have HL := Lib.hid (show litTx ((k : Nat) : Int) = [UInt8.ofNat k] by unfold litTx; rw [HP.out]; rfl)
      have HE := enc_char k (by have := plain_lt HP.out; omega)
      go_wp2_with (first | fail | rw [HE])
      go_ret
      exact ⟨by rw [HL.out]; rfl, Below.refl _ _⟩
    | false =>
      go_wp2_with fail
      refine H2.out.mono ?_
      rintro e w' ⟨rfl, rfl⟩
      cases m with
      | true =>
        have HL := Lib.hid (show litTx ((k : Nat) : Int) = [92, UInt8.ofNat k] by unfold litTx; rw [HP.out, HM.out]; rfl)
        have HE := enc_char k (by have := meta_lt HM.out; omega)
        go_wp2_with (first | fail | rw [HE])
        go_ret
        exact ⟨by rw [HL.out]; rfl, Below.refl _ _⟩
      | false =>
        have HL := Lib.hid (show litTx ((k : Nat) : Int) = codeTx ((k : Nat) : Int) by unfold litTx; rw [HP.out, HM.out]; rfl)
        go_wp2_with fail
        refine (ref09_code k _ (by omega) (by omega) HT.out).mono ?_
        rintro e w2 ⟨rfl, hB2⟩
        go_wp2_with fail
        go_ret
        exact ⟨by rw [HL.out]; rfl, hB2⟩
  · have hw : wordN k = false := by unfold wordN; simp; omega
    have hp := plain_any' k hw
    have hm := meta_any' k
    obtain ⟨p, hp2⟩ : ∃ p, hasB ⟨#[33, 34, 35, 37, 38, 39, 44, 45, 47, 58, 59, 60, 61, 62, 64, 126, 96]⟩ k = p := ⟨_, rfl⟩
    obtain ⟨m, hm2⟩ : ∃ m, hasB ⟨#[92, 46, 43, 42, 63, 40, 41, 124, 91, 93, 123, 125, 94, 36]⟩ k = m := ⟨_, rfl⟩
    rw [hp2] at hp; rw [hm2] at hm
    have h1 := ref09_has ⟨#[33, 34, 35, 37, 38, 39, 44, 45, 47, 58, 59, 60, 61, 62, 64, 126, 96]⟩ k w (by decide)
    have h2 := ref09_has ⟨#[92, 46, 43, 42, 63, 40, 41, 124, 91, 93, 123, 125, 94, 36]⟩ k w (by decide)
    rw [hp2] at h1; rw [hm2] at h2
    have H1 := Lib.hid h1; have H2 := Lib.hid h2; have HP := Lib.hid hp; have HM := Lib.hid hm
    clear h1 h2 hp hm hp2 hm2 hw
    have f0 : ¬ (48 : Int) ≤ (k : Int) := by omega
    have f1 : decide ((48 : Int) ≤ (k : Int)) = false := by simp; omega
    have f2 : ¬ (65 : Int) ≤ (k : Int) := by omega
    have f3 : decide ((65 : Int) ≤ (k : Int)) = false := by simp; omega
    have f4 : ¬ (97 : Int) ≤ (k : Int) := by omega
    have f5 : decide ((97 : Int) ≤ (k : Int)) = false := by simp; omega
    have f6 : (k : Int) ≤ 57 := by omega
    have f7 : decide ((k : Int) ≤ 57) = true := by simp; omega
    have f8 : (k : Int) ≤ 90 := by omega
    have f9 : decide ((k : Int) ≤ 90) = true := by simp; omega
    have f10 : (k : Int) ≤ 122 := by omega
    have f11 : decide ((k : Int) ≤ 122) = true := by simp; omega
    have f12 : ((k : Int) == 95) = false := by simp; omega
    have f13 : ((k : Int) == 32) = false := by simp; omega
    go_enter Tryz.func29, Tryz.ntmps29
    go_wp2_with fail
    refine H1.out.mono ?_
    rintro e w' ⟨rfl, rfl⟩
    cases p with
    | true =>
      have HL := Lib.hid (show litTx ((k : Nat) : Int) = [UInt8.ofNat k] by unfold litTx; rw [HP.out]; rfl)
      have HE := enc_char k (by have := plain_lt HP.out; omega)
      go_wp2_with (first | fail | rw [HE])
      go_ret
      exact ⟨by rw [HL.out]; rfl, Below.refl _ _⟩
    | false =>
      go_wp2_with fail
      refine H2.out.mono ?_
      rintro e w' ⟨rfl, rfl⟩
      cases m with
      | true =>
        have HL := Lib.hid (show litTx ((k : Nat) : Int) = [92, UInt8.ofNat k] by unfold litTx; rw [HP.out, HM.out]; rfl)
        have HE := enc_char k (by have := meta_lt HM.out; omega)
        go_wp2_with (first | fail | rw [HE])
        go_ret
        exact ⟨by rw [HL.out]; rfl, Below.refl _ _⟩
      | false =>
        have HL := Lib.hid (show litTx ((k : Nat) : Int) = codeTx ((k : Nat) : Int) by unfold litTx; rw [HP.out, HM.out]; rfl)
        go_wp2_with fail
        refine (ref09_code k _ (by omega) (by omega) HT.out).mono ?_
        rintro e w2 ⟨rfl, hB2⟩
        go_wp2_with fail
        go_ret
        exact ⟨by rw [HL.out]; rfl, hB2⟩
  · have hw : wordN k = false := by unfold wordN; simp; omega
    have hp := plain_any' k hw
    have hm := meta_any' k
    obtain ⟨p, hp2⟩ : ∃ p, hasB ⟨#[33, 34, 35, 37, 38, 39, 44, 45, 47, 58, 59, 60, 61, 62, 64, 126, 96]⟩ k = p := ⟨_, rfl⟩
    obtain ⟨m, hm2⟩ : ∃ m, hasB ⟨#[92, 46, 43, 42, 63, 40, 41, 124, 91, 93, 123, 125, 94, 36]⟩ k = m := ⟨_, rfl⟩
    rw [hp2] at hp; rw [hm2] at hm
    have h1 := ref09_has ⟨#[33, 34, 35, 37, 38, 39, 44, 45, 47, 58, 59, 60, 61, 62, 64, 126, 96]⟩ k w (by decide)
    have h2 := ref09_has ⟨#[92, 46, 43, 42, 63, 40, 41, 124, 91, 93, 123, 125, 94, 36]⟩ k w (by decide)
    rw [hp2] at h1; rw [hm2] at h2
    have H1 := Lib.hid h1; have H2 := Lib.hid h2; have HP := Lib.hid hp; have HM := Lib.hid hm
    clear h1 h2 hp hm hp2 hm2 hw
    have f0 : (48 : Int) ≤ (k : Int) := by omega
    have f1 : decide ((48 : Int) ≤ (k : Int)) = true := by simp; omega
    have f2 : ¬ (65 : Int) ≤ (k : Int) := by omega
    have f3 : decide ((65 : Int) ≤ (k : Int)) = false := by simp; omega
    have f4 : ¬ (97 : Int) ≤ (k : Int) := by omega
    have f5 : decide ((97 : Int) ≤ (k : Int)) = false := by simp; omega
    have f6 : ¬ (k : Int) ≤ 57 := by omega
    have f7 : decide ((k : Int) ≤ 57) = false := by simp; omega
    have f8 : (k : Int) ≤ 90 := by omega
    have f9 : decide ((k : Int) ≤ 90) = true := by simp; omega
    have f10 : (k : Int) ≤ 122 := by omega
    have f11 : decide ((k : Int) ≤ 122) = true := by simp; omega
    have f12 : ((k : Int) == 95) = false := by simp; omega
    have f13 : ((k : Int) == 32) = false := by simp; omega
    go_enter Tryz.func29, Tryz.ntmps29
    go_wp2_with fail
    refine H1.out.mono ?_
    rintro e w' ⟨rfl, rfl⟩
    cases p with
    | true =>
      have HL := Lib.hid (show litTx ((k : Nat) : Int) = [UInt8.ofNat k] by unfold litTx; rw [HP.out]; rfl)
      have HE := enc_char k (by have := plain_lt HP.out; omega)
      go_wp2_with (first | fail | rw [HE])
      go_ret
      exact ⟨by rw [HL.out]; rfl, Below.refl _ _⟩
    | false =>
      go_wp2_with fail
      refine H2.out.mono ?_
      rintro e w' ⟨rfl, rfl⟩
      cases m with
      | true =>
        have HL := Lib.hid (show litTx ((k : Nat) : Int) = [92, UInt8.ofNat k] by unfold litTx; rw [HP.out, HM.out]; rfl)
        have HE := enc_char k (by have := meta_lt HM.out; omega)
        go_wp2_with (first | fail | rw [HE])
        go_ret
        exact ⟨by rw [HL.out]; rfl, Below.refl _ _⟩
      | false =>
        have HL := Lib.hid (show litTx ((k : Nat) : Int) = codeTx ((k : Nat) : Int) by unfold litTx; rw [HP.out, HM.out]; rfl)
        go_wp2_with fail
        refine (ref09_code k _ (by omega) (by omega) HT.out).mono ?_
        rintro e w2 ⟨rfl, hB2⟩
        go_wp2_with fail
        go_ret
        exact ⟨by rw [HL.out]; rfl, hB2⟩
  · have hw : wordN k = false := by unfold wordN; simp; omega
    have hp := plain_any' k hw
    have hm := meta_any' k
    obtain ⟨p, hp2⟩ : ∃ p, hasB ⟨#[33, 34, 35, 37, 38, 39, 44, 45, 47, 58, 59, 60, 61, 62, 64, 126, 96]⟩ k = p := ⟨_, rfl⟩
    obtain ⟨m, hm2⟩ : ∃ m, hasB ⟨#[92, 46, 43, 42, 63, 40, 41, 124, 91, 93, 123, 125, 94, 36]⟩ k = m := ⟨_, rfl⟩
    rw [hp2] at hp; rw [hm2] at hm
    have h1 := ref09_has ⟨#[33, 34, 35, 37, 38, 39, 44, 45, 47, 58, 59, 60, 61, 62, 64, 126, 96]⟩ k w (by decide)
    have h2 := ref09_has ⟨#[92, 46, 43, 42, 63, 40, 41, 124, 91, 93, 123, 125, 94, 36]⟩ k w (by decide)
    rw [hp2] at h1; rw [hm2] at h2
    have H1 := Lib.hid h1; have H2 := Lib.hid h2; have HP := Lib.hid hp; have HM := Lib.hid hm
    clear h1 h2 hp hm hp2 hm2 hw
    have f0 : (48 : Int) ≤ (k : Int) := by omega
    have f1 : decide ((48 : Int) ≤ (k : Int)) = true := by simp; omega
    have f2 : (65 : Int) ≤ (k : Int) := by omega
    have f3 : decide ((65 : Int) ≤ (k : Int)) = true := by simp; omega
    have f4 : ¬ (97 : Int) ≤ (k : Int) := by omega
    have f5 : decide ((97 : Int) ≤ (k : Int)) = false := by simp; omega
    have f6 : ¬ (k : Int) ≤ 57 := by omega
    have f7 : decide ((k : Int) ≤ 57) = false := by simp; omega
    have f8 : ¬ (k : Int) ≤ 90 := by omega
    have f9 : decide ((k : Int) ≤ 90) = false := by simp; omega
    have f10 : (k : Int) ≤ 122 := by omega
    have f11 : decide ((k : Int) ≤ 122) = true := by simp; omega
    have f12 : ((k : Int) == 95) = false := by simp; omega
    have f13 : ((k : Int) == 32) = false := by simp; omega
    go_enter Tryz.func29, Tryz.ntmps29
    go_wp2_with fail
    refine H1.out.mono ?_
    rintro e w' ⟨rfl, rfl⟩
    cases p with
    | true =>
      have HL := Lib.hid (show litTx ((k : Nat) : Int) = [UInt8.ofNat k] by unfold litTx; rw [HP.out]; rfl)
      have HE := enc_char k (by have := plain_lt HP.out; omega)
      go_wp2_with (first | fail | rw [HE])
      go_ret
      exact ⟨by rw [HL.out]; rfl, Below.refl _ _⟩
    | false =>
      go_wp2_with fail
      refine H2.out.mono ?_
      rintro e w' ⟨rfl, rfl⟩
      cases m with
      | true =>
        have HL := Lib.hid (show litTx ((k : Nat) : Int) = [92, UInt8.ofNat k] by unfold litTx; rw [HP.out, HM.out]; rfl)
        have HE := enc_char k (by have := meta_lt HM.out; omega)
        go_wp2_with (first | fail | rw [HE])
        go_ret
        exact ⟨by rw [HL.out]; rfl, Below.refl _ _⟩
      | false =>
        have HL := Lib.hid (show litTx ((k : Nat) : Int) = codeTx ((k : Nat) : Int) by unfold litTx; rw [HP.out, HM.out]; rfl)
        go_wp2_with fail
        refine (ref09_code k _ (by omega) (by omega) HT.out).mono ?_
        rintro e w2 ⟨rfl, hB2⟩
        go_wp2_with fail
        go_ret
        exact ⟨by rw [HL.out]; rfl, hB2⟩
  · have hw : wordN 96 = false := by decide
    have hp := plain_any' 96 hw
    have hm := meta_any' 96
    obtain ⟨p, hp2⟩ : ∃ p, hasB ⟨#[33, 34, 35, 37, 38, 39, 44, 45, 47, 58, 59, 60, 61, 62, 64, 126, 96]⟩ 96 = p := ⟨_, rfl⟩
    obtain ⟨m, hm2⟩ : ∃ m, hasB ⟨#[92, 46, 43, 42, 63, 40, 41, 124, 91, 93, 123, 125, 94, 36]⟩ 96 = m := ⟨_, rfl⟩
    rw [hp2] at hp; rw [hm2] at hm
    have h1 := ref09_has ⟨#[33, 34, 35, 37, 38, 39, 44, 45, 47, 58, 59, 60, 61, 62, 64, 126, 96]⟩ 96 w (by decide)
    have h2 := ref09_has ⟨#[92, 46, 43, 42, 63, 40, 41, 124, 91, 93, 123, 125, 94, 36]⟩ 96 w (by decide)
    rw [hp2] at h1; rw [hm2] at h2
    have H1 := Lib.hid h1; have H2 := Lib.hid h2; have HP := Lib.hid hp; have HM := Lib.hid hm
    clear h1 h2 hp hm hp2 hm2 hw
    show Calls Tryz.prog 29 #[.int .i32 96] w _
    go_enter Tryz.func29, Tryz.ntmps29
    go_wp2_with fail
    refine H1.out.mono ?_
    rintro e w' ⟨rfl, rfl⟩
    cases p with
    | true =>
      have HL := Lib.hid (show litTx ((96 : Nat) : Int) = [UInt8.ofNat 96] by unfold litTx; rw [HP.out]; rfl)
      have HE := enc_char 96 (by have := plain_lt HP.out; omega)
      rw [show ((96 : Nat) : Int) = 96 from rfl] at HE
      go_wp2_with (first | fail | rw [HE])
      go_ret
      exact ⟨by rw [HL.out]; rfl, Below.refl _ _⟩
    | false =>
      go_wp2_with fail
      refine H2.out.mono ?_
      rintro e w' ⟨rfl, rfl⟩
      cases m with
      | true =>
        have HL := Lib.hid (show litTx ((96 : Nat) : Int) = [92, UInt8.ofNat 96] by unfold litTx; rw [HP.out, HM.out]; rfl)
        have HE := enc_char 96 (by have := meta_lt HM.out; omega)
        rw [show ((96 : Nat) : Int) = 96 from rfl] at HE
        go_wp2_with (first | fail | rw [HE])
        go_ret
        exact ⟨by rw [HL.out]; rfl, Below.refl _ _⟩
      | false =>
        have HL := Lib.hid (show litTx ((96 : Nat) : Int) = codeTx ((96 : Nat) : Int) by unfold litTx; rw [HP.out, HM.out]; rfl)
        go_wp2_with fail
        refine (ref09_code 96 _ (by omega) (by omega) HT.out).mono ?_
        rintro e w2 ⟨rfl, hB2⟩
        go_wp2_with fail
        go_ret
        exact ⟨by rw [HL.out]; rfl, hB2⟩
  · have hw : wordN k = false := by unfold wordN; simp; omega
    have hp := plain_any' k hw
    have hm := meta_any' k
    obtain ⟨p, hp2⟩ : ∃ p, hasB ⟨#[33, 34, 35, 37, 38, 39, 44, 45, 47, 58, 59, 60, 61, 62, 64, 126, 96]⟩ k = p := ⟨_, rfl⟩
    obtain ⟨m, hm2⟩ : ∃ m, hasB ⟨#[92, 46, 43, 42, 63, 40, 41, 124, 91, 93, 123, 125, 94, 36]⟩ k = m := ⟨_, rfl⟩
    rw [hp2] at hp; rw [hm2] at hm
    have h1 := ref09_has ⟨#[33, 34, 35, 37, 38, 39, 44, 45, 47, 58, 59, 60, 61, 62, 64, 126, 96]⟩ k w (by decide)
    have h2 := ref09_has ⟨#[92, 46, 43, 42, 63, 40, 41, 124, 91, 93, 123, 125, 94, 36]⟩ k w (by decide)
    rw [hp2] at h1; rw [hm2] at h2
    have H1 := Lib.hid h1; have H2 := Lib.hid h2; have HP := Lib.hid hp; have HM := Lib.hid hm
    clear h1 h2 hp hm hp2 hm2 hw
    have f0 : (48 : Int) ≤ (k : Int) := by omega
    have f1 : decide ((48 : Int) ≤ (k : Int)) = true := by simp; omega
    have f2 : (65 : Int) ≤ (k : Int) := by omega
    have f3 : decide ((65 : Int) ≤ (k : Int)) = true := by simp; omega
    have f4 : (97 : Int) ≤ (k : Int) := by omega
    have f5 : decide ((97 : Int) ≤ (k : Int)) = true := by simp; omega
    have f6 : ¬ (k : Int) ≤ 57 := by omega
    have f7 : decide ((k : Int) ≤ 57) = false := by simp; omega
    have f8 : ¬ (k : Int) ≤ 90 := by omega
    have f9 : decide ((k : Int) ≤ 90) = false := by simp; omega
    have f10 : ¬ (k : Int) ≤ 122 := by omega
    have f11 : decide ((k : Int) ≤ 122) = false := by simp; omega
    have f12 : ((k : Int) == 95) = false := by simp; omega
    have f13 : ((k : Int) == 32) = false := by simp; omega
    go_enter Tryz.func29, Tryz.ntmps29
    go_wp2_with fail
    refine H1.out.mono ?_
    rintro e w' ⟨rfl, rfl⟩
    cases p with
    | true =>
      have HL := Lib.hid (show litTx ((k : Nat) : Int) = [UInt8.ofNat k] by unfold litTx; rw [HP.out]; rfl)
      have HE := enc_char k (by have := plain_lt HP.out; omega)
      go_wp2_with (first | fail | rw [HE])
      go_ret
      exact ⟨by rw [HL.out]; rfl, Below.refl _ _⟩
    | false =>
      go_wp2_with fail
      refine H2.out.mono ?_
      rintro e w' ⟨rfl, rfl⟩
      cases m with
      | true =>
        have HL := Lib.hid (show litTx ((k : Nat) : Int) = [92, UInt8.ofNat k] by unfold litTx; rw [HP.out, HM.out]; rfl)
        have HE := enc_char k (by have := meta_lt HM.out; omega)
        go_wp2_with (first | fail | rw [HE])
        go_ret
        exact ⟨by rw [HL.out]; rfl, Below.refl _ _⟩
      | false =>
        have HL := Lib.hid (show litTx ((k : Nat) : Int) = codeTx ((k : Nat) : Int) by unfold litTx; rw [HP.out, HM.out]; rfl)
        go_wp2_with fail
        refine (ref09_code k _ (by omega) (by omega) HT.out).mono ?_
        rintro e w2 ⟨rfl, hB2⟩
        go_wp2_with fail
        go_ret
        exact ⟨by rw [HL.out]; rfl, hB2⟩
end Go.Proofs.YtihbmgpjihgodaaGreatDoor
