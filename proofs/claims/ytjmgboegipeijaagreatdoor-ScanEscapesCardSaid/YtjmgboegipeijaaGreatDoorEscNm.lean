/- The name behind a backslash and p: scan.esc.name. -/
import Derived.Test.YtjmgboegipeijaaGreatDoorEscTwo
import Derived.BigQuiet
import Derived.Deep.QuietTactic
namespace Go.Proofs.YtjmgboegipeijaaGreatDoor
open Go Go.RowKit Go.Proofs

set_option maxHeartbeats 1000000 in
theorem esc_name_yes (b : Nat) (s : ByteArray) (p k : Nat) (rest : List Value) (t : TypeId) (w : World) (h : Rd w b s p rest t) (hp : p ≤ s.size) (hs : s.size ≤ 140737488355328) (c1 : stands s p [123] = true) (hk : Lib.indexByte (s.data.toList.drop (p + 1)) 125 = k) :
    Calls Tryz.prog 27 #[.pointer (some ⟨b, 0, none⟩)] w fun e w' => e = .returned (.tuple #[.string (s.extract (p + 1) (p + 1 + k)), .bool true]) ∧ Rd w' b s (p + 1 + k + 1) rest t ∧ w.grownBy w' (some b) := by
  have hs' : s.size ≤ 1000000000000000 := by omega
  have HR := Lib.hid h; clear h
  have l1 := Lib.hid (stands_le (p := ⟨#[123]⟩) hp c1)
  go_enter Tryz.func27, Tryz.ntmps27
  go_wp2_with fail
  refine (scan_has_yes _ s ⟨#[123]⟩ p _ _ _ HR.out hp hs' c1).mono ?_
  rintro e w1 ⟨rfl, hR, hG⟩
  have R1 := Lib.hid hR; have G1 := Lib.hid hG; clear hR hG
  go_wp2_with fail
  refine (scan_until_yes _ s 125 (p + 1) k _ _ _ R1.out l1.out hs' conv125 hk).mono ?_
  rintro e w2 ⟨rfl, hR, hG⟩
  have R2 := Lib.hid hR; have G2 := Lib.hid (grownBy_trans G1.out hG); clear hR hG
  go_wp2_with fail
  go_ret2
  exact ⟨rfl, R2.out, G2.out⟩

set_option maxHeartbeats 1000000 in
theorem esc_name_no (b : Nat) (s : ByteArray) (p : Nat) (rest : List Value) (t : TypeId) (w : World) (h : Rd w b s p rest t) (hp : p ≤ s.size) (hs : s.size ≤ 140737488355328) (c1 : stands s p [123] = true) (hk : Lib.indexByte (s.data.toList.drop (p + 1)) 125 = -1) :
    Calls Tryz.prog 27 #[.pointer (some ⟨b, 0, none⟩)] w fun e w' => e = .returned (.tuple #[.string (tail s (p + 1)), .bool false]) ∧ Rd w' b s (p + 1) rest t ∧ w.grownBy w' (some b) := by
  have hs' : s.size ≤ 1000000000000000 := by omega
  have HR := Lib.hid h; clear h
  have l1 := Lib.hid (stands_le (p := ⟨#[123]⟩) hp c1)
  go_enter Tryz.func27, Tryz.ntmps27
  go_wp2_with fail
  refine (scan_has_yes _ s ⟨#[123]⟩ p _ _ _ HR.out hp hs' c1).mono ?_
  rintro e w1 ⟨rfl, hR, hG⟩
  have R1 := Lib.hid hR; have G1 := Lib.hid hG; clear hR hG
  go_wp2_with fail
  refine (scan_until_no _ s 125 (p + 1) _ _ _ R1.out l1.out conv125 hk).mono ?_
  rintro e w2 ⟨rfl, hR, hG⟩
  have R2 := Lib.hid hR; have G2 := Lib.hid (grownBy_trans G1.out hG); clear hR hG
  go_wp2_with fail
  go_ret2
  exact ⟨rfl, R2.out, G2.out⟩

set_option maxHeartbeats 1000000 in
theorem esc_name_rune (b : Nat) (s : ByteArray) (p : Nat) (rest : List Value) (t : TypeId) (w : World) (h : Rd w b s p rest t) (hT : Tabs w) (hb : 0 ≠ b ∧ 1 ≠ b) (hp : p ≤ s.size) (hs : s.size ≤ 140737488355328) (c1 : stands s p [123] = false) :
    Calls Tryz.prog 27 #[.pointer (some ⟨b, 0, none⟩)] w fun e w' => e = .returned (.tuple #[.string (s.extract p (nextW s p)), .bool (decide (0 ≤ nextC s p))]) ∧ Rd w' b s (nextW s p) rest t ∧ w.grownBy w' (some b) := by
  have hs' : s.size ≤ 1000000000000000 := by omega
  have HR := Lib.hid h; clear h
  have HT := Lib.hid hT; clear hT
  have HW := Lib.hid (nextW_le s p hp)
  have HPW := Lib.hid (show p ≤ nextW s p by unfold nextW; split <;> omega)
  obtain ⟨q, hq⟩ : ∃ q, nextW s p = q := ⟨_, rfl⟩
  obtain ⟨c, hc⟩ : ∃ c, nextC s p = c := ⟨_, rfl⟩
  have HN := Lib.hid (show ∀ W, Rd W b s p rest t → Tabs W → Calls Tryz.prog 24 #[.pointer (some ⟨b, 0, none⟩)] W fun e w' => e = .returned (.int .i32 c) ∧ Rd w' b s q rest t ∧ W.grownBy w' (some b) from fun W hW hT => by rw [← hq, ← hc]; exact scan_next b s p rest t W hW hT hp hs')
  rw [hq] at HW HPW ⊢
  rw [hc]
  clear hq hc
  go_enter Tryz.func27, Tryz.ntmps27
  go_wp2_with fail
  refine (scan_has_no _ s ⟨#[123]⟩ p _ _ _ HR.out hp c1).mono ?_
  rintro e w1 ⟨rfl, hR, hG⟩
  have g1 := hR.c1
  have R1 := Lib.hid hR; have G1 := Lib.hid hG; clear hR hG
  go_wp2_with fail
  refine (HN.out w1 R1.out (HT.out.grown G1.out hb.1 hb.2)).mono ?_
  rintro e w2 ⟨rfl, hR, hG⟩
  clear g1
  have g0 := hR.c0; have g1 := hR.c1
  have R2 := Lib.hid hR; have G2 := Lib.hid (grownBy_trans G1.out hG); clear hR hG
  have hq1 : (p : Int) ≤ (q : Int) := by have := HPW.out; omega
  have hq2 : (q : Int) ≤ (s.size : Int) := by have := HW.out; omega
  go_wp2_with fail
  go_quiet (fail)
  go_wp2_with fail
  go_ret2
  exact ⟨by simp, Blk.drewN R2.out nq, grownBy_trans G2.out (grownBy_below (below_drewN (Below.refl _ _) nq) _)⟩
end Go.Proofs.YtjmgboegipeijaaGreatDoor
