/- The document's number behind a backslash and x: martelloref06.hex, number. -/
import Derived.Test.YtjmgboegipeijaaGreatDoorEscTwo
import Derived.LoopTactic
namespace Go.Proofs.YtjmgboegipeijaaGreatDoor
open Go Go.RowKit Go.Proofs

/-- A hexadecimal digit's number. -/
def hexI (c : Int) : Int := if 48 ≤ c ∧ c ≤ 57 then c - 48 else if 97 ≤ c ∧ c ≤ 102 then c - 87 else if 65 ≤ c ∧ c ≤ 70 then c - 55 else -1

theorem retI {a b : Int} (h : a = b) : Ending.returned (.int .i64 a) = .returned (.int .i64 b) := by rw [h]
set_option maxHeartbeats 1000000 in
theorem ref06_hex (c : Int) (w : World) (h0 : 0 ≤ c) (h1 : c ≤ 255) : Calls Tryz.prog 56 #[.int .u8 c] w fun e w' => e = .returned (.int .i64 (hexI c)) ∧ w' = w := by
  have HH := Lib.hid (show c < 48 ∨ (48 ≤ c ∧ c ≤ 57) ∨ (58 ≤ c ∧ c ≤ 64) ∨ (65 ≤ c ∧ c ≤ 70) ∨ (71 ≤ c ∧ c ≤ 96) ∨ (97 ≤ c ∧ c ≤ 102) ∨ 102 < c by omega)
  have w1 : 48 ≤ c → c ≤ 57 → IntKind.u8.wrap (c - 48) = c - 48 := fun _ _ => by simp only [IntKind.wrap, IntKind.bits, IntKind.signed]; simp; omega
  have w2 : 97 ≤ c → c ≤ 102 → IntKind.u8.wrap (c - 97) = c - 97 := fun _ _ => by simp only [IntKind.wrap, IntKind.bits, IntKind.signed]; simp; omega
  have w3 : 65 ≤ c → c ≤ 70 → IntKind.u8.wrap (c - 65) = c - 65 := fun _ _ => by simp only [IntKind.wrap, IntKind.bits, IntKind.signed]; simp; omega
  rcases HH.out with h | ⟨h, h'⟩ | ⟨h, h'⟩ | ⟨h, h'⟩ | ⟨h, h'⟩ | ⟨h, h'⟩ | h
  · have a1 : decide (48 ≤ c) = false := by simp; omega
    have a2 : decide (97 ≤ c) = false := by simp; omega
    have a3 : decide (65 ≤ c) = false := by simp; omega
    go_enter Tryz.func56, Tryz.ntmps56
    go_wp2_with fail
    go_ret
    exact ⟨retI (by unfold hexI; rw [if_neg (by omega), if_neg (by omega), if_neg (by omega)]), rfl⟩
  · have w4 := w1 h h'
    clear w1 w2 w3
    go_enter Tryz.func56, Tryz.ntmps56
    go_wp2_with fail
    go_ret
    exact ⟨retI (by unfold hexI; rw [if_pos (by omega)]), rfl⟩
  · have a1 : 48 ≤ c := by omega
    have a2 : decide (c ≤ 57) = false := by simp; omega
    have a3 : decide (97 ≤ c) = false := by simp; omega
    have a4 : decide (65 ≤ c) = false := by simp; omega
    clear w1 w2 w3
    go_enter Tryz.func56, Tryz.ntmps56
    go_wp2_with fail
    go_ret
    exact ⟨retI (by unfold hexI; rw [if_neg (by omega), if_neg (by omega), if_neg (by omega)]), rfl⟩
  · have a1 : 48 ≤ c := by omega
    have a2 : decide (c ≤ 57) = false := by simp; omega
    have a3 : decide (97 ≤ c) = false := by simp; omega
    have w4 := w3 h h'
    have w5 : wrap64 (c - 65 + 10) = c - 55 := by unfold wrap64; omega
    clear w1 w2 w3
    go_enter Tryz.func56, Tryz.ntmps56
    go_wp2_with fail
    go_ret
    exact ⟨retI (by unfold hexI; rw [if_neg (by omega), if_neg (by omega), if_pos (by omega)]; omega), rfl⟩
  · have a1 : 48 ≤ c := by omega
    have a2 : decide (c ≤ 57) = false := by simp; omega
    have a3 : decide (97 ≤ c) = false := by simp; omega
    have a4 : 65 ≤ c := by omega
    have a5 : decide (c ≤ 70) = false := by simp; omega
    clear w1 w2 w3
    go_enter Tryz.func56, Tryz.ntmps56
    go_wp2_with fail
    go_ret
    exact ⟨retI (by unfold hexI; rw [if_neg (by omega), if_neg (by omega), if_neg (by omega)]), rfl⟩
  · have a1 : 48 ≤ c := by omega
    have a2 : decide (c ≤ 57) = false := by simp; omega
    have w4 := w2 h h'
    clear w1 w2 w3
    go_enter Tryz.func56, Tryz.ntmps56
    go_wp2_with fail
    go_ret
    exact ⟨retI (by unfold hexI; rw [if_neg (by omega), if_pos (by omega)]; omega), rfl⟩
  · have a1 : 48 ≤ c := by omega
    have a2 : decide (c ≤ 57) = false := by simp; omega
    have a3 : 97 ≤ c := by omega
    have a4 : decide (c ≤ 102) = false := by simp; omega
    have a5 : 65 ≤ c := by omega
    have a6 : decide (c ≤ 70) = false := by simp; omega
    clear w1 w2 w3
    go_enter Tryz.func56, Tryz.ntmps56
    go_wp2_with fail
    go_ret
    exact ⟨retI (by unfold hexI; rw [if_neg (by omega), if_neg (by omega), if_neg (by omega)]), rfl⟩

theorem hexI_in (x : UInt8) (h : hexs.contains x = true) : 0 ≤ hexI x.toNat ∧ hexI x.toNat ≤ 15 ∧ hexI x.toNat = (if (Lib.lowerB x).toNat > 57 then ((Lib.lowerB x).toNat : Int) - 87 else ((Lib.lowerB x).toNat : Int) - 48) := by
  have key : ∀ k : Fin 256, hexs.contains (UInt8.ofNat k.val) = true → 0 ≤ hexI (UInt8.ofNat k.val).toNat ∧ hexI (UInt8.ofNat k.val).toNat ≤ 15 ∧ hexI (UInt8.ofNat k.val).toNat = (if (Lib.lowerB (UInt8.ofNat k.val)).toNat > 57 then ((Lib.lowerB (UInt8.ofNat k.val)).toNat : Int) - 87 else ((Lib.lowerB (UInt8.ofNat k.val)).toNat : Int) - 48) := by decide +kernel
  have := key ⟨x.toNat, x.toNat_lt⟩
  simp only [UInt8.ofNat_toNat] at this
  exact this h
theorem hexI_out (x : UInt8) (h : hexs.contains x = false) : hexI x.toNat = -1 := by
  have key : ∀ k : Fin 256, hexs.contains (UInt8.ofNat k.val) = false → hexI (UInt8.ofNat k.val).toNat = -1 := by decide +kernel
  have := key ⟨x.toNat, x.toNat_lt⟩
  simp only [UInt8.ofNat_toNat] at this
  exact this h

def signI (c : Int) : Bool := (33 ≤ c ∧ c ≤ 47) ∨ (58 ≤ c ∧ c ≤ 64) ∨ (91 ≤ c ∧ c ≤ 96) ∨ (123 ≤ c ∧ c ≤ 126)
theorem ref06_SignI (c : Int) (w : World) : Calls Tryz.prog 17 #[.int .i32 c] w fun e w' => e = .returned (.bool (signI c)) ∧ w' = w := by
  go_enter Tryz.func17, Tryz.ntmps17
  go_wp2_with fail
  all_goals
    go_ret
    refine ⟨congrArg (fun z => Ending.returned (Value.bool z)) (?_ : _ = signI c), rfl⟩
    first
      | (refine Bool.eq_iff_iff.2 ?_
         simp only [signI, decide_eq_true_eq, Bool.or_eq_true, reduceCtorEq, true_iff, false_iff]
         omega)
      | (refine Bool.eq_iff_iff.2 ?_
         simp only [signI, decide_eq_true_eq, Bool.or_eq_true, reduceCtorEq]
         omega)

def letterI (c : Int) : Int := if c = 97 then 7 else if c = 102 then 12 else if c = 110 then 10 else if c = 114 then 13 else if c = 116 then 9 else if c = 118 then 11 else -1
theorem ref06_letter (c : Int) (w : World) : Calls Tryz.prog 32 #[.int .i32 c] w fun e w' => e = .returned (.int .i32 (letterI c)) ∧ w' = w := by
  go_enter Tryz.func32, Tryz.ntmps32
  go_wp2_with fail
  all_goals
    go_ret
    refine ⟨?_, rfl⟩
    simp only [beq_iff_eq, beq_eq_false_iff_ne, ne_eq] at *
    unfold letterI
    simp [*]
def placeI (c : Int) : Int := if c = 65 then 1 else if c = 122 then 2 else if c = 98 then 16 else if c = 66 then 32 else 0
theorem ref06_place (c : Int) (w : World) : Calls Tryz.prog 59 #[.int .i32 c] w fun e w' => e = .returned (.int .i64 (placeI c)) ∧ w' = w := by
  go_enter Tryz.func59, Tryz.ntmps59
  go_wp2_with fail
  all_goals
    go_ret
    refine ⟨?_, rfl⟩
    simp only [beq_iff_eq, beq_eq_false_iff_ne, ne_eq] at *
    unfold placeI
    simp [*]
end Go.Proofs.YtjmgboegipeijaaGreatDoor
