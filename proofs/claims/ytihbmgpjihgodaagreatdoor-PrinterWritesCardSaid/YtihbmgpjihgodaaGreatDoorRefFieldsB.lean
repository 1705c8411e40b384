/- The document's fields: groups, counted repeats. (Printed by gen_reffields.py.) -/
import Derived.Test.YtihbmgpjihgodaaGreatDoorQRefSetR
namespace Go.Proofs.YtihbmgpjihgodaaGreatDoor
open Go Go.RowKit Go.Proofs

set_option maxRecDepth 100000 in
set_option maxHeartbeats 4000000 in
theorem fields_6 (ka : Option Addr) (kn kc : Nat) (rune : Int) (sn : Nat) (so : Bool) (sa : Option Addr) (sc : Nat) (pl cap : Int) (name : ByteArray) (mn mx : Int) (lz : Bool) (w : World) :
    Calls Tryz.prog 47 #[.agg (cellsT 6 ka kn kc rune sa sn sc pl cap name mn mx lz).toArray] w fun e w' => e = .returned (.bool (fieldsB 6 rune sn so pl cap name mn mx lz)) ∧ Below w.heap.size w w' := by
  have HB := Lib.hid (fun o => (Below.refl _ w).alloc (Nat.le_refl _) o)
  by_cases k : rune = 0
  rotate_left
  · have k2 : (rune != 0) = true := by simpa using k
    have k3 : ¬ 0 = rune := fun e => k e.symm
    have HF := Lib.hid (show fieldsB 6 rune sn so pl cap name mn mx lz = false by simp [fieldsB, bareOk, k3])
    clear k
    go_enter Tryz.func47, Tryz.ntmps47
    go_wp2_with fail
    go_ret
    exact ⟨by rw [HF.out]; rfl, HB.out _⟩
  subst k
  by_cases k : sn = 0
  rotate_left
  · have k2 : (0 : Int) < (sn : Int) := by omega
    have k3 : ¬ 0 = sn := fun e => k e.symm
    have HF := Lib.hid (show fieldsB 6 0 sn so pl cap name mn mx lz = false by simp [fieldsB, bareOk, k3])
    clear k
    go_enter Tryz.func47, Tryz.ntmps47
    go_wp2_with fail
    go_ret
    exact ⟨by rw [HF.out]; rfl, HB.out _⟩
  subst k
  by_cases k : pl = 0
  rotate_left
  · have k2 : (pl != 0) = true := by simpa using k
    have k3 : ¬ 0 = pl := fun e => k e.symm
    have HF := Lib.hid (show fieldsB 6 0 0 so pl cap name mn mx lz = false by simp [fieldsB, bareOk, k3])
    clear k
    go_enter Tryz.func47, Tryz.ntmps47
    go_wp2_with fail
    go_ret
    exact ⟨by rw [HF.out]; rfl, HB.out _⟩
  subst k
  by_cases k : mn = 0
  rotate_left
  · have k2 : (mn != 0) = true := by simpa using k
    have k3 : ¬ 0 = mn := fun e => k e.symm
    have HF := Lib.hid (show fieldsB 6 0 0 so 0 cap name mn mx lz = false by simp [fieldsB, bareOk, k3])
    clear k
    go_enter Tryz.func47, Tryz.ntmps47
    go_wp2_with fail
    go_ret
    exact ⟨by rw [HF.out]; rfl, HB.out _⟩
  subst k
  by_cases k : mx = 0
  rotate_left
  · have k2 : (mx != 0) = true := by simpa using k
    have k3 : ¬ 0 = mx := fun e => k e.symm
    have HF := Lib.hid (show fieldsB 6 0 0 so 0 cap name 0 mx lz = false by simp [fieldsB, bareOk, k3])
    clear k
    go_enter Tryz.func47, Tryz.ntmps47
    go_wp2_with fail
    go_ret
    exact ⟨by rw [HF.out]; rfl, HB.out _⟩
  subst k
  cases lz with
  | true =>
    have HF := Lib.hid (show fieldsB 6 0 0 so 0 cap name 0 0 true = false by simp [fieldsB, bareOk])
    go_enter Tryz.func47, Tryz.ntmps47
    go_wp2_with fail
    go_ret
    exact ⟨by rw [HF.out]; rfl, HB.out _⟩
  | false =>
    by_cases k : name.size = 0
    · obtain rfl := size_zero k
      have HF := Lib.hid (show fieldsB 6 0 0 so 0 cap ⟨#[]⟩ 0 0 false = true by simp [fieldsB, bareOk, ownB]; exact .inl rfl)
      clear k
      go_enter Tryz.func47, Tryz.ntmps47
      go_wp2_with fail
      refine (ref05_Name _ _).mono ?_
      rintro e w1 ⟨rfl, rfl⟩
      go_wp2_with fail
      go_ret
      exact ⟨by rw [HF.out]; rfl, HB.out _⟩
    · have HF := Lib.hid (show fieldsB 6 0 0 so 0 cap name 0 0 false = nameB name by simp [fieldsB, bareOk, ownB, k])
      have k2 := list_ne k
      have k3 := list_nil k
      clear k
      go_enter Tryz.func47, Tryz.ntmps47
      go_wp2_with fail
      refine (ref05_Name _ _).mono ?_
      rintro e w1 ⟨rfl, rfl⟩
      generalize nameB name = nb at HF ⊢
      go_wp2_with fail
      go_ret
      exact ⟨by rw [HF.out]; rfl, HB.out _⟩
set_option maxRecDepth 100000 in
set_option maxHeartbeats 4000000 in
theorem fields_10 (ka : Option Addr) (kn kc : Nat) (rune : Int) (sn : Nat) (so : Bool) (sa : Option Addr) (sc : Nat) (pl cap : Int) (name : ByteArray) (mn mx : Int) (lz : Bool) (w : World) :
    Calls Tryz.prog 47 #[.agg (cellsT 10 ka kn kc rune sa sn sc pl cap name mn mx lz).toArray] w fun e w' => e = .returned (.bool (fieldsB 10 rune sn so pl cap name mn mx lz)) ∧ Below w.heap.size w w' := by
  have HB := Lib.hid (fun o => (Below.refl _ w).alloc (Nat.le_refl _) o)
  by_cases k : rune = 0
  rotate_left
  · have k2 : (rune != 0) = true := by simpa using k
    have k3 : ¬ 0 = rune := fun e => k e.symm
    have HF := Lib.hid (show fieldsB 10 rune sn so pl cap name mn mx lz = false by simp [fieldsB, bareOk, k3])
    clear k
    go_enter Tryz.func47, Tryz.ntmps47
    go_wp2_with fail
    go_ret
    exact ⟨by rw [HF.out]; rfl, HB.out _⟩
  subst k
  by_cases k : sn = 0
  rotate_left
  · have k2 : (0 : Int) < (sn : Int) := by omega
    have k3 : ¬ 0 = sn := fun e => k e.symm
    have HF := Lib.hid (show fieldsB 10 0 sn so pl cap name mn mx lz = false by simp [fieldsB, bareOk, k3])
    clear k
    go_enter Tryz.func47, Tryz.ntmps47
    go_wp2_with fail
    go_ret
    exact ⟨by rw [HF.out]; rfl, HB.out _⟩
  subst k
  by_cases k : pl = 0
  rotate_left
  · have k2 : (pl != 0) = true := by simpa using k
    have k3 : ¬ 0 = pl := fun e => k e.symm
    have HF := Lib.hid (show fieldsB 10 0 0 so pl cap name mn mx lz = false by simp [fieldsB, bareOk, k3])
    clear k
    go_enter Tryz.func47, Tryz.ntmps47
    go_wp2_with fail
    go_ret
    exact ⟨by rw [HF.out]; rfl, HB.out _⟩
  subst k
  by_cases k : cap = 0
  rotate_left
  · have k2 : (cap != 0) = true := by simpa using k
    have k3 : ¬ 0 = cap := fun e => k e.symm
    have HF := Lib.hid (show fieldsB 10 0 0 so 0 cap name mn mx lz = false by simp [fieldsB, bareOk, k3])
    clear k
    go_enter Tryz.func47, Tryz.ntmps47
    go_wp2_with fail
    go_ret
    exact ⟨by rw [HF.out]; rfl, HB.out _⟩
  subst k
  by_cases k : name.size = 0
  rotate_left
  · have k2 := list_ne k
    have k3 := list_nil k
    have k4 : ¬ (⟨#[]⟩ : ByteArray) = name := fun e => k (by rw [← e]; rfl)
    have HF := Lib.hid (show fieldsB 10 0 0 so 0 0 name mn mx lz = false by simp [fieldsB, bareOk, k4])
    clear k
    go_enter Tryz.func47, Tryz.ntmps47
    go_wp2_with fail
    go_ret
    exact ⟨by rw [HF.out]; rfl, HB.out _⟩
  obtain rfl := size_zero k
  clear k
  cases lz with
  | true =>
    by_cases t1 : mn < 0
    · have HF := Lib.hid (show fieldsB 10 0 0 so 0 0 ⟨#[]⟩ mn mx true = false by simp [fieldsB, bareOk, ownB]; omega)
      go_enter Tryz.func47, Tryz.ntmps47
      go_wp2_with fail
      go_ret
      exact ⟨by rw [HF.out]; rfl, HB.out _⟩
    by_cases t2 : mn > 1000
    · have HF := Lib.hid (show fieldsB 10 0 0 so 0 0 ⟨#[]⟩ mn mx true = false by simp [fieldsB, bareOk, ownB]; omega)
      go_enter Tryz.func47, Tryz.ntmps47
      go_wp2_with fail
      go_ret
      exact ⟨by rw [HF.out]; rfl, HB.out _⟩
    by_cases t3 : mx = -1
    · subst t3
      have HF := Lib.hid (show fieldsB 10 0 0 so 0 0 ⟨#[]⟩ mn (-1) true = true by simp [fieldsB, bareOk, ownB]; omega)
      go_enter Tryz.func47, Tryz.ntmps47
      go_wp2_with fail
      go_ret
      exact ⟨by rw [HF.out]; rfl, HB.out _⟩
    have t3' : (mx == -1) = false := by simpa using t3
    by_cases t4 : mx ≥ mn
    · have HF := Lib.hid (show fieldsB 10 0 0 so 0 0 ⟨#[]⟩ mn mx true = decide (mx ≤ 1000) by rw [Bool.eq_iff_iff]; simp [fieldsB, bareOk, ownB, t3]; omega)
      clear t3
      go_enter Tryz.func47, Tryz.ntmps47
      go_wp2_with fail
      go_ret
      exact ⟨by rw [HF.out]; rfl, HB.out _⟩
    · have HF := Lib.hid (show fieldsB 10 0 0 so 0 0 ⟨#[]⟩ mn mx true = false by simp [fieldsB, bareOk, ownB, t3]; omega)
      clear t3
      go_enter Tryz.func47, Tryz.ntmps47
      go_wp2_with fail
      go_ret
      exact ⟨by rw [HF.out]; rfl, HB.out _⟩
  | false =>
    by_cases t1 : mn < 0
    · have HF := Lib.hid (show fieldsB 10 0 0 so 0 0 ⟨#[]⟩ mn mx false = false by simp [fieldsB, bareOk, ownB]; omega)
      go_enter Tryz.func47, Tryz.ntmps47
      go_wp2_with fail
      go_ret
      exact ⟨by rw [HF.out]; rfl, HB.out _⟩
    by_cases t2 : mn > 1000
    · have HF := Lib.hid (show fieldsB 10 0 0 so 0 0 ⟨#[]⟩ mn mx false = false by simp [fieldsB, bareOk, ownB]; omega)
      go_enter Tryz.func47, Tryz.ntmps47
      go_wp2_with fail
      go_ret
      exact ⟨by rw [HF.out]; rfl, HB.out _⟩
    by_cases t3 : mx = -1
    · subst t3
      have HF := Lib.hid (show fieldsB 10 0 0 so 0 0 ⟨#[]⟩ mn (-1) false = true by simp [fieldsB, bareOk, ownB]; omega)
      go_enter Tryz.func47, Tryz.ntmps47
      go_wp2_with fail
      go_ret
      exact ⟨by rw [HF.out]; rfl, HB.out _⟩
    have t3' : (mx == -1) = false := by simpa using t3
    by_cases t4 : mx ≥ mn
    · have HF := Lib.hid (show fieldsB 10 0 0 so 0 0 ⟨#[]⟩ mn mx false = decide (mx ≤ 1000) by rw [Bool.eq_iff_iff]; simp [fieldsB, bareOk, ownB, t3]; omega)
      clear t3
      go_enter Tryz.func47, Tryz.ntmps47
      go_wp2_with fail
      go_ret
      exact ⟨by rw [HF.out]; rfl, HB.out _⟩
    · have HF := Lib.hid (show fieldsB 10 0 0 so 0 0 ⟨#[]⟩ mn mx false = false by simp [fieldsB, bareOk, ownB, t3]; omega)
      clear t3
      go_enter Tryz.func47, Tryz.ntmps47
      go_wp2_with fail
      go_ret
      exact ⟨by rw [HF.out]; rfl, HB.out _⟩
end Go.Proofs.YtihbmgpjihgodaaGreatDoor
