/- The document's fields: Ops with a rune, a set, a place. (Printed by gen_reffields.py.) -/
import Derived.Test.YtihbmgpjihgodaaGreatDoorQRefSetR
namespace Go.Proofs.YtihbmgpjihgodaaGreatDoor
open Go Go.RowKit Go.Proofs

set_option maxRecDepth 100000 in
set_option maxHeartbeats 4000000 in
theorem fields_3 (ka : Option Addr) (kn kc : Nat) (rune : Int) (sn : Nat) (so : Bool) (sa : Option Addr) (sc : Nat) (pl cap : Int) (name : ByteArray) (mn mx : Int) (lz : Bool) (w : World) :
    Calls Tryz.prog 47 #[.agg (cellsT 3 ka kn kc rune sa sn sc pl cap name mn mx lz).toArray] w fun e w' => e = .returned (.bool (fieldsB 3 rune sn so pl cap name mn mx lz)) ∧ Below w.heap.size w w' := by
  have HB := Lib.hid (fun o => (Below.refl _ w).alloc (Nat.le_refl _) o)
  by_cases k : sn = 0
  rotate_left
  · have k2 : (0 : Int) < (sn : Int) := by omega
    have k3 : ¬ 0 = sn := fun e => k e.symm
    have HF := Lib.hid (show fieldsB 3 rune sn so pl cap name mn mx lz = false by simp [fieldsB, bareOk, k3])
    clear k
    go_enter Tryz.func47, Tryz.ntmps47
    go_wp2_with fail
    go_ret
    exact ⟨by rw [HF.out]; rfl, HB.out _⟩
  subst k
  by_cases k : pl = 0
  rotate_left
  · have k2 : (pl != 0) = true := by simpa using k
    have k3 : ¬ 0 = pl := fun e => k e.symm
    have HF := Lib.hid (show fieldsB 3 rune 0 so pl cap name mn mx lz = false by simp [fieldsB, bareOk, k3])
    clear k
    go_enter Tryz.func47, Tryz.ntmps47
    go_wp2_with fail
    go_ret
    exact ⟨by rw [HF.out]; rfl, HB.out _⟩
  subst k
  by_cases k : cap = 0
  rotate_left
  · have k2 : (cap != 0) = true := by simpa using k
    have k3 : ¬ 0 = cap := fun e => k e.symm
    have HF := Lib.hid (show fieldsB 3 rune 0 so 0 cap name mn mx lz = false by simp [fieldsB, bareOk, k3])
    clear k
    go_enter Tryz.func47, Tryz.ntmps47
    go_wp2_with fail
    go_ret
    exact ⟨by rw [HF.out]; rfl, HB.out _⟩
  subst k
  by_cases k : name.size = 0
  rotate_left
  · have k2 := list_ne k
    have k3 := list_nil k
    have k4 : ¬ (⟨#[]⟩ : ByteArray) = name := fun e => k (by rw [← e]; rfl)
    have HF := Lib.hid (show fieldsB 3 rune 0 so 0 0 name mn mx lz = false by simp [fieldsB, bareOk, k4])
    clear k
    go_enter Tryz.func47, Tryz.ntmps47
    go_wp2_with fail
    go_ret
    exact ⟨by rw [HF.out]; rfl, HB.out _⟩
  obtain rfl := size_zero k
  clear k
  by_cases k : mn = 0
  rotate_left
  · have k2 : (mn != 0) = true := by simpa using k
    have k3 : ¬ 0 = mn := fun e => k e.symm
    have HF := Lib.hid (show fieldsB 3 rune 0 so 0 0 ⟨#[]⟩ mn mx lz = false by simp [fieldsB, bareOk, k3])
    clear k
    go_enter Tryz.func47, Tryz.ntmps47
    go_wp2_with fail
    go_ret
    exact ⟨by rw [HF.out]; rfl, HB.out _⟩
  subst k
  by_cases k : mx = 0
  rotate_left
  · have k2 : (mx != 0) = true := by simpa using k
    have k3 : ¬ 0 = mx := fun e => k e.symm
    have HF := Lib.hid (show fieldsB 3 rune 0 so 0 0 ⟨#[]⟩ 0 mx lz = false by simp [fieldsB, bareOk, k3])
    clear k
    go_enter Tryz.func47, Tryz.ntmps47
    go_wp2_with fail
    go_ret
    exact ⟨by rw [HF.out]; rfl, HB.out _⟩
  subst k
  cases lz with
  | true =>
    have HF := Lib.hid (show fieldsB 3 rune 0 so 0 0 ⟨#[]⟩ 0 0 true = false by simp [fieldsB, bareOk])
    go_enter Tryz.func47, Tryz.ntmps47
    go_wp2_with fail
    go_ret
    exact ⟨by rw [HF.out]; rfl, HB.out _⟩
  | false =>
    by_cases t1 : 0 ≤ rune
    · have HF := Lib.hid (show fieldsB 3 rune 0 so 0 0 ⟨#[]⟩ 0 0 false = decide (rune ≤ 1114111) by simp [fieldsB, bareOk, ownB, t1])
      go_enter Tryz.func47, Tryz.ntmps47
      go_wp2_with fail
      go_ret
      exact ⟨by rw [HF.out]; rfl, HB.out _⟩
    · have HF := Lib.hid (show fieldsB 3 rune 0 so 0 0 ⟨#[]⟩ 0 0 false = false by simp [fieldsB, bareOk, ownB, t1])
      go_enter Tryz.func47, Tryz.ntmps47
      go_wp2_with fail
      go_ret
      exact ⟨by rw [HF.out]; rfl, HB.out _⟩
set_option maxRecDepth 100000 in
set_option maxHeartbeats 4000000 in
theorem fields_4 (ka : Option Addr) (kn kc : Nat) (rune : Int) (sn : Nat) (so : Bool) (sa : Option Addr) (sc : Nat) (pl cap : Int) (name : ByteArray) (mn mx : Int) (lz : Bool) (w : World) (B : Nat) (set : List (Int × Int)) (hso : setRight set = so) (hR : RangesV w B set sa sn sc) (hB : B ≤ w.heap.size) :
    Calls Tryz.prog 47 #[.agg (cellsT 4 ka kn kc rune sa sn sc pl cap name mn mx lz).toArray] w fun e w' => e = .returned (.bool (fieldsB 4 rune sn so pl cap name mn mx lz)) ∧ Below w.heap.size w w' := by
  have HB := Lib.hid (fun o => (Below.refl _ w).alloc (Nat.le_refl _) o)
  by_cases k : rune = 0
  rotate_left
  · have k2 : (rune != 0) = true := by simpa using k
    have k3 : ¬ 0 = rune := fun e => k e.symm
    have HF := Lib.hid (show fieldsB 4 rune sn so pl cap name mn mx lz = false by simp [fieldsB, bareOk, k3])
    clear k
    go_enter Tryz.func47, Tryz.ntmps47
    go_wp2_with fail
    go_ret
    exact ⟨by rw [HF.out]; rfl, HB.out _⟩
  subst k
  by_cases k : pl = 0
  rotate_left
  · have k2 : (pl != 0) = true := by simpa using k
    have k3 : ¬ 0 = pl := fun e => k e.symm
    have HF := Lib.hid (show fieldsB 4 0 sn so pl cap name mn mx lz = false by simp [fieldsB, bareOk, k3])
    clear k
    go_enter Tryz.func47, Tryz.ntmps47
    go_wp2_with fail
    go_ret
    exact ⟨by rw [HF.out]; rfl, HB.out _⟩
  subst k
  by_cases k : cap = 0
  rotate_left
  · have k2 : (cap != 0) = true := by simpa using k
    have k3 : ¬ 0 = cap := fun e => k e.symm
    have HF := Lib.hid (show fieldsB 4 0 sn so 0 cap name mn mx lz = false by simp [fieldsB, bareOk, k3])
    clear k
    go_enter Tryz.func47, Tryz.ntmps47
    go_wp2_with fail
    go_ret
    exact ⟨by rw [HF.out]; rfl, HB.out _⟩
  subst k
  by_cases k : name.size = 0
  rotate_left
  · have k2 := list_ne k
    have k3 := list_nil k
    have k4 : ¬ (⟨#[]⟩ : ByteArray) = name := fun e => k (by rw [← e]; rfl)
    have HF := Lib.hid (show fieldsB 4 0 sn so 0 0 name mn mx lz = false by simp [fieldsB, bareOk, k4])
    clear k
    go_enter Tryz.func47, Tryz.ntmps47
    go_wp2_with fail
    go_ret
    exact ⟨by rw [HF.out]; rfl, HB.out _⟩
  obtain rfl := size_zero k
  clear k
  by_cases k : mn = 0
  rotate_left
  · have k2 : (mn != 0) = true := by simpa using k
    have k3 : ¬ 0 = mn := fun e => k e.symm
    have HF := Lib.hid (show fieldsB 4 0 sn so 0 0 ⟨#[]⟩ mn mx lz = false by simp [fieldsB, bareOk, k3])
    clear k
    go_enter Tryz.func47, Tryz.ntmps47
    go_wp2_with fail
    go_ret
    exact ⟨by rw [HF.out]; rfl, HB.out _⟩
  subst k
  by_cases k : mx = 0
  rotate_left
  · have k2 : (mx != 0) = true := by simpa using k
    have k3 : ¬ 0 = mx := fun e => k e.symm
    have HF := Lib.hid (show fieldsB 4 0 sn so 0 0 ⟨#[]⟩ 0 mx lz = false by simp [fieldsB, bareOk, k3])
    clear k
    go_enter Tryz.func47, Tryz.ntmps47
    go_wp2_with fail
    go_ret
    exact ⟨by rw [HF.out]; rfl, HB.out _⟩
  subst k
  cases lz with
  | true =>
    have HF := Lib.hid (show fieldsB 4 0 sn so 0 0 ⟨#[]⟩ 0 0 true = false by simp [fieldsB, bareOk])
    go_enter Tryz.func47, Tryz.ntmps47
    go_wp2_with fail
    go_ret
    exact ⟨by rw [HF.out]; rfl, HB.out _⟩
  | false =>
    have HF := Lib.hid (show fieldsB 4 0 sn so 0 0 ⟨#[]⟩ 0 0 false = (so && decide (0 < sn)) by simp [fieldsB, bareOk, ownB])
    have HC := Lib.hid (fun (o : Obj) => ref02_Right set sa sn sc B (w.alloc o) (hR.below (((Below.refl _ w).alloc (Nat.le_refl _) o).mono hB)) (by simp; omega))
    have hz := Lib.hid (Blk.new w (cellsT 4 ka kn kc 0 sa sn sc 0 0 ⟨#[]⟩ 0 0 false) 27)
    clear hR
    go_enter Tryz.func47, Tryz.ntmps47
    go_wp2_with fail
    refine (HC.out _).mono ?_
    rintro e w1 ⟨rfl, hb⟩
    rw [hso]
    have hz1 := hz.out.below hb (by simp)
    have z0 := hz1.cell (j := 0) rfl; have z3 := hz1.cell (j := 3) rfl
    have HB1 := Lib.hid ((HB.out _).trans (hb.mono (by simp)))
    clear hb hz1 hso
    cases so with
    | true =>
      go_wp2_with fail
      go_ret
      exact ⟨by rw [HF.out]; rfl, HB1.out⟩
    | false =>
      go_wp2_with fail
      go_ret
      exact ⟨by rw [HF.out]; rfl, HB1.out⟩
set_option maxRecDepth 100000 in
set_option maxHeartbeats 4000000 in
theorem fields_5 (ka : Option Addr) (kn kc : Nat) (rune : Int) (sn : Nat) (so : Bool) (sa : Option Addr) (sc : Nat) (pl cap : Int) (name : ByteArray) (mn mx : Int) (lz : Bool) (w : World) :
    Calls Tryz.prog 47 #[.agg (cellsT 5 ka kn kc rune sa sn sc pl cap name mn mx lz).toArray] w fun e w' => e = .returned (.bool (fieldsB 5 rune sn so pl cap name mn mx lz)) ∧ Below w.heap.size w w' := by
  have HB := Lib.hid (fun o => (Below.refl _ w).alloc (Nat.le_refl _) o)
  by_cases k : rune = 0
  rotate_left
  · have k2 : (rune != 0) = true := by simpa using k
    have k3 : ¬ 0 = rune := fun e => k e.symm
    have HF := Lib.hid (show fieldsB 5 rune sn so pl cap name mn mx lz = false by simp [fieldsB, bareOk, k3])
    clear k
    go_enter Tryz.func47, Tryz.ntmps47
    go_wp2_with fail
    go_ret
    exact ⟨by rw [HF.out]; rfl, HB.out _⟩
  subst k
  by_cases k : sn = 0
  rotate_left
  · have k2 : (0 : Int) < (sn : Int) := by omega
    have k3 : ¬ 0 = sn := fun e => k e.symm
    have HF := Lib.hid (show fieldsB 5 0 sn so pl cap name mn mx lz = false by simp [fieldsB, bareOk, k3])
    clear k
    go_enter Tryz.func47, Tryz.ntmps47
    go_wp2_with fail
    go_ret
    exact ⟨by rw [HF.out]; rfl, HB.out _⟩
  subst k
  by_cases k : cap = 0
  rotate_left
  · have k2 : (cap != 0) = true := by simpa using k
    have k3 : ¬ 0 = cap := fun e => k e.symm
    have HF := Lib.hid (show fieldsB 5 0 0 so pl cap name mn mx lz = false by simp [fieldsB, bareOk, k3])
    clear k
    go_enter Tryz.func47, Tryz.ntmps47
    go_wp2_with fail
    go_ret
    exact ⟨by rw [HF.out]; rfl, HB.out _⟩
  subst k
  by_cases k : name.size = 0
  rotate_left
  · have k2 := list_ne k
    have k3 := list_nil k
    have k4 : ¬ (⟨#[]⟩ : ByteArray) = name := fun e => k (by rw [← e]; rfl)
    have HF := Lib.hid (show fieldsB 5 0 0 so pl 0 name mn mx lz = false by simp [fieldsB, bareOk, k4])
    clear k
    go_enter Tryz.func47, Tryz.ntmps47
    go_wp2_with fail
    go_ret
    exact ⟨by rw [HF.out]; rfl, HB.out _⟩
  obtain rfl := size_zero k
  clear k
  by_cases k : mn = 0
  rotate_left
  · have k2 : (mn != 0) = true := by simpa using k
    have k3 : ¬ 0 = mn := fun e => k e.symm
    have HF := Lib.hid (show fieldsB 5 0 0 so pl 0 ⟨#[]⟩ mn mx lz = false by simp [fieldsB, bareOk, k3])
    clear k
    go_enter Tryz.func47, Tryz.ntmps47
    go_wp2_with fail
    go_ret
    exact ⟨by rw [HF.out]; rfl, HB.out _⟩
  subst k
  by_cases k : mx = 0
  rotate_left
  · have k2 : (mx != 0) = true := by simpa using k
    have k3 : ¬ 0 = mx := fun e => k e.symm
    have HF := Lib.hid (show fieldsB 5 0 0 so pl 0 ⟨#[]⟩ 0 mx lz = false by simp [fieldsB, bareOk, k3])
    clear k
    go_enter Tryz.func47, Tryz.ntmps47
    go_wp2_with fail
    go_ret
    exact ⟨by rw [HF.out]; rfl, HB.out _⟩
  subst k
  cases lz with
  | true =>
    have HF := Lib.hid (show fieldsB 5 0 0 so pl 0 ⟨#[]⟩ 0 0 true = false by simp [fieldsB, bareOk])
    go_enter Tryz.func47, Tryz.ntmps47
    go_wp2_with fail
    go_ret
    exact ⟨by rw [HF.out]; rfl, HB.out _⟩
  | false =>
    have HF0 := Lib.hid (show fieldsB 5 0 0 so pl 0 ⟨#[]⟩ 0 0 false = decide (pl = 1 ∨ pl = 2 ∨ pl = 4 ∨ pl = 8 ∨ pl = 16 ∨ pl = 32) by simp [fieldsB, bareOk, ownB])
    by_cases k1 : pl = 1
    · subst k1
      have HF := Lib.hid (show fieldsB 5 0 0 so 1 0 ⟨#[]⟩ 0 0 false = true by rw [HF0.out]; decide)
      go_enter Tryz.func47, Tryz.ntmps47
      go_wp2_with fail
      go_ret
      exact ⟨by rw [HF.out]; rfl, HB.out _⟩
    have z1 : (pl == 1) = false := by simpa using k1
    by_cases k2 : pl = 2
    · subst k2
      have HF := Lib.hid (show fieldsB 5 0 0 so 2 0 ⟨#[]⟩ 0 0 false = true by rw [HF0.out]; decide)
      go_enter Tryz.func47, Tryz.ntmps47
      go_wp2_with fail
      go_ret
      exact ⟨by rw [HF.out]; rfl, HB.out _⟩
    have z2 : (pl == 2) = false := by simpa using k2
    by_cases k4 : pl = 4
    · subst k4
      have HF := Lib.hid (show fieldsB 5 0 0 so 4 0 ⟨#[]⟩ 0 0 false = true by rw [HF0.out]; decide)
      go_enter Tryz.func47, Tryz.ntmps47
      go_wp2_with fail
      go_ret
      exact ⟨by rw [HF.out]; rfl, HB.out _⟩
    have z4 : (pl == 4) = false := by simpa using k4
    by_cases k8 : pl = 8
    · subst k8
      have HF := Lib.hid (show fieldsB 5 0 0 so 8 0 ⟨#[]⟩ 0 0 false = true by rw [HF0.out]; decide)
      go_enter Tryz.func47, Tryz.ntmps47
      go_wp2_with fail
      go_ret
      exact ⟨by rw [HF.out]; rfl, HB.out _⟩
    have z8 : (pl == 8) = false := by simpa using k8
    by_cases k16 : pl = 16
    · subst k16
      have HF := Lib.hid (show fieldsB 5 0 0 so 16 0 ⟨#[]⟩ 0 0 false = true by rw [HF0.out]; decide)
      go_enter Tryz.func47, Tryz.ntmps47
      go_wp2_with fail
      go_ret
      exact ⟨by rw [HF.out]; rfl, HB.out _⟩
    have z16 : (pl == 16) = false := by simpa using k16
    by_cases k32 : pl = 32
    · subst k32
      have HF := Lib.hid (show fieldsB 5 0 0 so 32 0 ⟨#[]⟩ 0 0 false = true by rw [HF0.out]; decide)
      go_enter Tryz.func47, Tryz.ntmps47
      go_wp2_with fail
      go_ret
      exact ⟨by rw [HF.out]; rfl, HB.out _⟩
    have z32 : (pl == 32) = false := by simpa using k32
    have HF := Lib.hid (show fieldsB 5 0 0 so pl 0 ⟨#[]⟩ 0 0 false = false by rw [HF0.out]; exact decide_eq_false (by omega))
    clear k1 k2 k4 k8 k16 k32
    go_enter Tryz.func47, Tryz.ntmps47
    go_wp2_with fail
    go_ret
    exact ⟨by rw [HF.out]; rfl, HB.out _⟩
end Go.Proofs.YtihbmgpjihgodaaGreatDoor
