/- What is said of a place: the document's. A set's text: the document's. -/
import Derived.Test.YtihbmgpjihgodaaGreatDoorQPrintPlace
import Derived.Test.YtihbmgpjihgodaaGreatDoorQPrintAid
import Derived.Test.YtihbmgpjihgodaaGreatDoorQPrintBare
import Derived.Deep.QuietTactic
import Derived.BigQuiet
namespace Go.Proofs.YtihbmgpjihgodaaGreatDoor
open Go Go.RowKit Go.Proofs

set_option maxHeartbeats 2000000 in
theorem ref09_place (a : Int) (w : World) : Calls Tryz.prog 31 #[.int .i64 a] w fun e w' => e = .returned (.string ⟨(placeTx a).toArray⟩) ∧ w' = w := by
  by_cases h1 : a = 1
  · subst h1; go_enter Tryz.func31, Tryz.ntmps31; go_wp2_with fail; go_ret; exact ⟨rfl, rfl⟩
  by_cases h2 : a = 2
  · subst h2; go_enter Tryz.func31, Tryz.ntmps31; go_wp2_with fail; go_ret; exact ⟨rfl, rfl⟩
  by_cases h3 : a = 4
  · subst h3; go_enter Tryz.func31, Tryz.ntmps31; go_wp2_with fail; go_ret; exact ⟨rfl, rfl⟩
  by_cases h4 : a = 8
  · subst h4; go_enter Tryz.func31, Tryz.ntmps31; go_wp2_with fail; go_ret; exact ⟨rfl, rfl⟩
  by_cases h5 : a = 16
  · subst h5; go_enter Tryz.func31, Tryz.ntmps31; go_wp2_with fail; go_ret; exact ⟨rfl, rfl⟩
  have HP := Lib.hid (show placeTx a = [92, 66] by unfold placeTx; rw [if_neg h1, if_neg h2, if_neg h3, if_neg h4, if_neg h5])
  have e1 : (a == 1) = false := by simpa using h1
  have e2 : (a == 2) = false := by simpa using h2
  have e3 : (a == 4) = false := by simpa using h3
  have e4 : (a == 8) = false := by simpa using h4
  have e5 : (a == 16) = false := by simpa using h5
  clear h1 h2 h3 h4 h5
  go_enter Tryz.func31, Tryz.ntmps31
  go_wp2_with fail
  go_ret
  exact ⟨by rw [HP.out]; rfl, rfl⟩
end Go.Proofs.YtihbmgpjihgodaaGreatDoor

namespace Go.Proofs.YtihbmgpjihgodaaGreatDoor
open Go Go.RowKit Go.Proofs Go.Shelf

set_option maxRecDepth 100000 in
set_option maxHeartbeats 4000000 in
theorem ref09_set (rs : List (Int × Int)) (sa : Option Addr) (sn sc B : Nat) (w : World) (h : RangesV w B rs sa sn sc) (hB : B ≤ w.heap.size) (hf : SetFine rs) (hN : rs.length ≤ 1000000) (hT : Bru w) :
    Calls Tryz.prog 30 #[.slice sa sn sc] w fun e w' => e = .returned (.string ⟨(setTx rs).toArray⟩) ∧ Below w.heap.size w w' := by
  obtain ⟨rfl, h2, h3⟩ := h
  have H3 := Lib.hid h3; have HF := Lib.hid hf; have HT := Lib.hid hT
  clear h3 hf hT
  go_enter Tryz.func30, Tryz.ntmps30
  go_wp2_with fail
  go_loopw [3, 4] (fun sv iv wr => ∃ (k : Nat) (S : ByteArray), k ≤ rs.length ∧ iv = .int .i64 k ∧ sv = .string S ∧ S = ⟨([91] ++ (rs.take k).flatMap rangeTx).toArray⟩ ∧ S.size ≤ 1 + 25 * k ∧ Below w.heap.size w wr) (fun _ iv _ => rs.length - (intOf iv).toNat)
  case atStart => exact ⟨0, ⟨#[91]⟩, Nat.zero_le _, rfl, rfl, rfl, by decide, Below.refl _ _⟩
  case round =>
    obtain ⟨k, S, hk, rfl, rfl, hS, hz, hb⟩ := hrel
    have HS := Lib.hid hS; have HB := Lib.hid hb
    clear hS hb
    by_cases hlt : k < rs.length
    · obtain ⟨b, o, rfl, hb, hr⟩ : ∃ b o, sa = some ⟨b, o, none⟩ ∧ b < B ∧ RangesAt w rs b o := by
        rcases H3.out with h0 | h0
        · omega
        · exact h0
      obtain ⟨g1, g2⟩ := (hr.below HB.out (by omega)).get k hlt
      have hfk := HF.out rs[k] (List.getElem_mem hlt)
      have HT1 := Lib.hid (rangesTx_take k hlt)
      have hlen := rangeTx_len hfk
      obtain ⟨lo, hlo⟩ : ∃ lo, rs[k].1 = lo := ⟨_, rfl⟩
      obtain ⟨hi, hhi⟩ : ∃ hi, rs[k].2 = hi := ⟨_, rfl⟩
      have HR := Lib.hid (show rangeTx rs[k] = codeTx lo ++ if lo < hi then [45] ++ codeTx hi else [] by rw [← hlo, ← hhi]; rfl)
      rw [hlo] at g1 hfk; rw [hhi] at g2 hfk
      obtain ⟨f1, f2, f3⟩ := hfk
      have HG1 := Lib.hid g1; have HG2 := Lib.hid g2
      have hblt := cell_lt16 g1
      have hcl := codeTx_len lo (by omega)
      have hch := codeTx_len hi (by omega)
      have HLen := Lib.hid hlen
      clear hlo hhi hr hlen
      go_wp2_with fail
      refine (ref09_code lo _ f1 (by omega) (HT.out.below HB.out HT.out.lt)).mono ?_
      rintro e w1 ⟨rfl, hB1⟩
      have HB1 := Lib.hid (HB.out.trans (hB1.mono HB.out.size))
      have g1' := cell_lift hB1 hblt HG1.out
      have g2' := cell_lift hB1 hblt HG2.out
      generalize hA : (⟨(codeTx lo).toArray⟩ : ByteArray) = A
      have hAs : A.size ≤ 12 := by rw [← hA]; exact hcl
      have HA := Lib.hid hA
      clear hB1 hA g1 g2
      by_cases hlh : lo = hi
      · subst hlh
        go_wp2_with fail
        go_quiet (fail)
        go_wp2_with fail
        go_roundw
        case rel =>
          refine ⟨k + 1, _, hlt, by go_num, rfl, ?_, ?_, below_drewN HB1.out _⟩
          · rw [HT1.out, HR.out, HS.out, ← HA.out, ba_app]
            simp
          · have : A.size ≤ 12 := hAs
            simp
            omega
        case measure => simp [intOf]; omega
      · have d1 : (hi == lo) = false := by simp; omega
        have hlt2 : lo < hi := by omega
        have HL2 := Lib.hid hlt2
        go_wp2_with fail
        go_quiet (fail)
        go_wp2_with fail
        refine (ref09_code hi _ (by omega) (by omega) (HT.out.below (below_drewN HB1.out _) HT.out.lt)).mono ?_
        rintro e w2 ⟨rfl, hB2⟩
        have HB2 := Lib.hid ((below_drewN HB1.out _).trans (hB2.mono (Nat.le_trans HB1.out.size (Nat.le_refl _))))
        generalize hD : (⟨(codeTx hi).toArray⟩ : ByteArray) = D
        have hDs : D.size ≤ 12 := by rw [← hD]; exact hch
        have HD := Lib.hid hD
        clear hB2 hD
        go_wp2_with fail
        go_roundw
        case rel =>
          refine ⟨k + 1, _, hlt, by go_num, rfl, ?_, ?_, HB2.out⟩
          · rw [HT1.out, HR.out, HS.out, ← HA.out, ← HD.out, if_pos HL2.out]
            rw [show (⟨#[45]⟩ : ByteArray) = ⟨[45].toArray⟩ from rfl, ba_app, ba_app, ba_app]
            simp
          · have e45 : (⟨#[45]⟩ : ByteArray).size = 1 := rfl
            simp only [ByteArray.size_append]
            omega
        case measure => simp [intOf]; omega
    · have hke : k = rs.length := by omega
      have HK := Lib.hid hke
      clear hke
      go_wp2_with fail
      go_ret
      refine ⟨?_, HB.out⟩
      rw [setTx_eq, HS.out, HK.out, List.take_length]
      show Ending.returned (.string (⟨([91] ++ rs.flatMap rangeTx).toArray⟩ ++ ⟨[93].toArray⟩)) = _
      rw [ba_app]
end Go.Proofs.YtihbmgpjihgodaaGreatDoor
