/- A rune's text: printer.lit and the document's one. -/
import Derived.Test.YtihbmgpjihgodaaDoorPrintAid
import Derived.Laws.Runes
namespace Go.Proofs.YtihbmgpjihgodaaDoor
open Go Go.RowKit Go.Proofs Go.Shelf

def plainL : List UInt8 := [95, 32, 33, 34, 35, 37, 38, 39, 44, 45, 47, 58, 59, 60, 61, 62, 64, 126, 96]
def metaL : List UInt8 := [92, 46, 43, 42, 63, 40, 41, 124, 91, 93, 123, 125, 94, 36]
set_option maxRecDepth 100000 in
theorem plain_ix : ∀ k : Nat, k < 127 → isPlainC (k : Int) = (decide (48 ≤ k ∧ k ≤ 57) || decide (65 ≤ k ∧ k ≤ 90) || decide (97 ≤ k ∧ k ≤ 122) || decide (0 ≤ Lib.indexByte plainL k.toUInt8)) := by decide +kernel
set_option maxRecDepth 100000 in
theorem meta_ix : ∀ k : Nat, k < 127 → isMetaC (k : Int) = decide (0 ≤ Lib.indexByte metaL k.toUInt8) := by decide +kernel
theorem plain_big {c : Int} (h : 127 ≤ c) : isPlainC c = false := by simp [isPlainC]; omega
theorem meta_big {c : Int} (h : 127 ≤ c) : isMetaC c = false := by simp [isMetaC]; omega

set_option maxRecDepth 100000 in
set_option maxHeartbeats 4000000 in
theorem lit_plain (k b : Nat) (w : World) (hn : k ≤ 1114111) (hc : w.cell? ⟨b, 0, none⟩ = some (.int .i32 k)) :
    Calls Tryd.prog 28 #[.pointer (some ⟨b, 0, none⟩)] w fun e w' => e = .returned (.bool (isPlainC k)) ∧ Below w.heap.size w w' := by
  by_cases h1 : 48 ≤ k ∧ k ≤ 57
  · have e1 : isPlainC k = true := by rw [plain_ix k (by omega)]; simp [h1]
    rw [e1]
    obtain ⟨a1, a2⟩ := h1
    go_enter Tryd.func28, Tryd.ntmps28
    go_wp2_with fail
    go_ret
    exact ⟨rfl, Below.refl _ _⟩
  · by_cases h2 : 65 ≤ k ∧ k ≤ 90
    · have e1 : isPlainC k = true := by rw [plain_ix k (by omega)]; simp [h2]
      rw [e1]
      obtain ⟨a1, a2⟩ := h2
      have a3 : ¬ k ≤ 57 := by omega
      clear h1
      go_enter Tryd.func28, Tryd.ntmps28
      go_wp2_with fail
      go_ret
      exact ⟨rfl, Below.refl _ _⟩
    · by_cases h3 : 97 ≤ k ∧ k ≤ 122
      · have e1 : isPlainC k = true := by rw [plain_ix k (by omega)]; simp [h3]
        rw [e1]
        obtain ⟨a1, a2⟩ := h3
        have a3 : ¬ k ≤ 57 := by omega
        have a4 : ¬ k ≤ 90 := by omega
        clear h1 h2
        go_enter Tryd.func28, Tryd.ntmps28
        go_wp2_with fail
        go_ret
        exact ⟨rfl, Below.refl _ _⟩
      · by_cases h4 : k < 127
        · have e1 : isPlainC k = decide (0 ≤ Lib.indexByte plainL k.toUInt8) := by rw [plain_ix k h4]; simp [h1, h2, h3]
          rw [e1]
          obtain ⟨r, hr⟩ : ∃ r, Lib.indexByte plainL k.toUInt8 = r := ⟨_, rfl⟩
          have hW : IntKind.u8.wrap (k : Int) = k := by rw [IntKind.wrap_u8]; omega
          have HI : Calls Tryd.prog 29 #[.string ⟨#[95, 32, 33, 34, 35, 37, 38, 39, 44, 45, 47, 58, 59, 60, 61, 62, 64, 126, 96]⟩, .int .u8 (k : Int)] w (fun e w' => e = .returned (.int .i64 r) ∧ w' = w) := by
            rw [← hr]
            exact Tryd.strings_IndexByte ⟨#[95, 32, 33, 34, 35, 37, 38, 39, 44, 45, 47, 58, 59, 60, 61, 62, 64, 126, 96]⟩ k w
          have HI' := Lib.hid HI
          rw [hr]
          have hcases : k < 48 ∨ (58 ≤ k ∧ k < 65) ∨ (91 ≤ k ∧ k < 97) ∨ 123 ≤ k := by omega
          clear HI hr e1
          rcases hcases with a1 | ⟨a1, a2⟩ | ⟨a1, a2⟩ | a1
          · have b1 : ¬ 48 ≤ k := by omega
            have b2 : ¬ 65 ≤ k := by omega
            have b3 : ¬ 97 ≤ k := by omega
            clear h1 h2 h3
            go_enter Tryd.func28, Tryd.ntmps28
            go_wp2_with (first | fail | rw [hW])
            refine HI'.out.mono ?_
            rintro e w' ⟨rfl, rfl⟩
            go_wp2_with fail
            go_ret
            exact ⟨rfl, Below.refl _ _⟩
          · have b1 : ¬ k ≤ 57 := by omega
            have b2 : ¬ 65 ≤ k := by omega
            have b3 : ¬ 97 ≤ k := by omega
            clear h1 h2 h3
            go_enter Tryd.func28, Tryd.ntmps28
            go_wp2_with (first | fail | rw [hW])
            refine HI'.out.mono ?_
            rintro e w' ⟨rfl, rfl⟩
            go_wp2_with fail
            go_ret
            exact ⟨rfl, Below.refl _ _⟩
          · have b1 : ¬ k ≤ 57 := by omega
            have b2 : ¬ k ≤ 90 := by omega
            have b3 : ¬ 97 ≤ k := by omega
            clear h1 h2 h3
            go_enter Tryd.func28, Tryd.ntmps28
            go_wp2_with (first | fail | rw [hW])
            refine HI'.out.mono ?_
            rintro e w' ⟨rfl, rfl⟩
            go_wp2_with fail
            go_ret
            exact ⟨rfl, Below.refl _ _⟩
          · have b1 : ¬ k ≤ 57 := by omega
            have b2 : ¬ k ≤ 90 := by omega
            have b3 : ¬ k ≤ 122 := by omega
            clear h1 h2 h3
            go_enter Tryd.func28, Tryd.ntmps28
            go_wp2_with (first | fail | rw [hW])
            refine HI'.out.mono ?_
            rintro e w' ⟨rfl, rfl⟩
            go_wp2_with fail
            go_ret
            exact ⟨rfl, Below.refl _ _⟩
        · have e1 : isPlainC k = false := plain_big (by omega)
          rw [e1]
          have a1 : ¬ k ≤ 57 := by omega
          have a2 : ¬ k ≤ 90 := by omega
          have a3 : ¬ k ≤ 122 := by omega
          clear h1 h2 h3
          go_enter Tryd.func28, Tryd.ntmps28
          go_wp2_with fail
          go_ret
          exact ⟨rfl, Below.refl _ _⟩
theorem enc_char (k : Nat) (h : k < 128) : Utf8.encode (k : Int) = ⟨#[UInt8.ofNat k]⟩ := by
  have hv : Utf8.valid (k : Int) = true := by simp [Utf8.valid]; omega
  unfold Utf8.encode
  simp [hv, h]
theorem plain_lt {k : Nat} (h : isPlainC k = true) : k < 127 := by
  rcases Nat.lt_or_ge k 127 with h1 | h1
  · exact h1
  · rw [plain_big (by omega)] at h; cases h
theorem meta_lt {k : Nat} (h : isMetaC k = true) : k < 127 := by
  rcases Nat.lt_or_ge k 127 with h1 | h1
  · exact h1
  · rw [meta_big (by omega)] at h; cases h

set_option maxRecDepth 100000 in
set_option maxHeartbeats 4000000 in
theorem printer_lit (c : Int) (w : World) (h0 : 0 ≤ c) (hn : c ≤ 1114111) (hT : Bru w) :
    Calls Tryd.prog 16 #[.int .i32 c] w fun e w' => e = .returned (.string ⟨(litTx c).toArray⟩) ∧ Below w.heap.size w w' := by
  obtain ⟨k, rfl⟩ : ∃ k : Nat, c = k := ⟨c.toNat, by omega⟩
  have hk : k ≤ 1114111 := by omega
  clear h0 hn
  have B0 : Below w.heap.size w (w.alloc (.cells #[.int .i32 (k : Int)] 21)) := (Below.refl _ w).alloc (Nat.le_refl _) _
  have hT1 : Bru (w.alloc (.cells #[.int .i32 (k : Int)] 21)) := hT.below B0 hT.lt
  have hcell := (Blk.new w [.int .i32 (k : Int)] 21).cell (j := 0) rfl
  have hP := lit_plain k w.heap.size _ hk hcell
  have HP := Lib.hid hP; have HB0 := Lib.hid B0; have HT := Lib.hid hT; have HT1 := Lib.hid hT1; have HC := Lib.hid hcell
  clear hP B0 hT hT1 hcell
  go_enter Tryd.func16, Tryd.ntmps16
  go_wp2_with fail
  refine HP.out.mono ?_
  rintro e w1 ⟨rfl, hB⟩
  have hc1 := cell_lift hB (by simp) HC.out
  have HB1 := Lib.hid (HB0.out.trans (hB.mono (by simp)))
  have HT2 := Lib.hid (HT1.out.below hB HT1.out.lt)
  clear hB
  by_cases h1 : isPlainC k = true
  · have HL := Lib.hid (show litTx k = [UInt8.ofNat k] by unfold litTx; rw [if_pos h1]; rfl)
    rw [h1]
    go_wp2_with fail
    go_ret
    refine ⟨?_, HB1.out⟩
    rw [HL.out, ← enc_char k (by have := plain_lt h1; omega)]
    rfl
  · have e1 : isPlainC k = false := by simpa using h1
    by_cases h2 : k < 127
    · obtain ⟨r, hr⟩ : ∃ r, Lib.indexByte metaL k.toUInt8 = r := ⟨_, rfl⟩
      have hW : IntKind.u8.wrap (k : Int) = k := by rw [IntKind.wrap_u8]; omega
      have HI : Calls Tryd.prog 29 #[.string ⟨#[92, 46, 43, 42, 63, 40, 41, 124, 91, 93, 123, 125, 94, 36]⟩, .int .u8 (k : Int)] w1 (fun e w' => e = .returned (.int .i64 r) ∧ w' = w1) := by
        rw [← hr]
        exact Tryd.strings_IndexByte ⟨#[92, 46, 43, 42, 63, 40, 41, 124, 91, 93, 123, 125, 94, 36]⟩ k w1
      have HI' := Lib.hid HI
      have hm : isMetaC k = decide (0 ≤ r) := by rw [meta_ix k h2, hr]
      have HM := Lib.hid hm
      clear HI hr hm
      rw [e1]
      go_wp2_with (first | fail | rw [hW])
      refine HI'.out.mono ?_
      rintro e w' ⟨rfl, rfl⟩
      by_cases h3 : 0 ≤ r
      · have HL := Lib.hid (show litTx k = [92, UInt8.ofNat k] by unfold litTx; rw [e1, HM.out]; simp [h3])
        have HE := enc_char k (by omega)
        go_wp2_with (first | fail | rw [HE])
        refine (joined_new [[92], [UInt8.ofNat k]] 9 w' (by simp) (by simp)).mono ?_
        rintro e w2 ⟨rfl, hB2⟩
        have HB2 := Lib.hid (HB1.out.trans (hB2.mono HB1.out.size))
        clear hB2
        go_wp2_with fail
        go_ret
        exact ⟨by rw [HL.out]; rfl, HB2.out⟩
      · have HL := Lib.hid (show litTx k = codeTx k by unfold litTx; rw [e1, HM.out]; simp [h3])
        go_wp2_with fail
        refine (printer_code k _ (by omega) (by omega) HT2.out).mono ?_
        rintro e w2 ⟨rfl, hB2⟩
        have HB2 := Lib.hid (HB1.out.trans (hB2.mono HB1.out.size))
        clear hB2
        go_wp2_with fail
        go_ret
        exact ⟨by rw [HL.out]; rfl, HB2.out⟩
    · have HL := Lib.hid (show litTx k = codeTx k by unfold litTx; rw [e1, meta_big (by omega)]; rfl)
      rw [e1]
      go_wp2_with fail
      refine (printer_code k _ (by omega) (by omega) HT2.out).mono ?_
      rintro e w2 ⟨rfl, hB2⟩
      have HB2 := Lib.hid (HB1.out.trans (hB2.mono HB1.out.size))
      clear hB2
      go_wp2_with fail
      go_ret
      exact ⟨by rw [HL.out]; rfl, HB2.out⟩
end Go.Proofs.YtihbmgpjihgodaaDoor
