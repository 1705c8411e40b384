/- The document's fields: the other Ops. (Printed by gen_reffields.py.) The document's fields: martelloref05.fields. (Printed by gen_reffields.py.) -/
import Derived.Test.YtihbmgpjihgodaaGreatDoorQRefSetR
import Derived.Test.YtihbmgpjihgodaaGreatDoorRefFieldsA
import Derived.Test.YtihbmgpjihgodaaGreatDoorRefFieldsB
namespace Go.Proofs.YtihbmgpjihgodaaGreatDoor
open Go Go.RowKit Go.Proofs

set_option maxRecDepth 100000 in
set_option maxHeartbeats 4000000 in
theorem fields_L (op : Int) (ka : Option Addr) (kn kc : Nat) (rune : Int) (sn : Nat) (so : Bool) (sa : Option Addr) (sc : Nat) (pl cap : Int) (name : ByteArray) (mn mx : Int) (lz : Bool) (w : World) (o3 : ¬ op = 3) (o4 : ¬ op = 4) (o5 : ¬ op = 5) (o6 : ¬ op = 6) (o10 : ¬ op = 10) (o1 : 1 ≤ op) (o12 : op ≤ 12) (o7 : 7 ≤ op ∧ op ≤ 9) :
    Calls Tryz.prog 47 #[.agg (cellsT op ka kn kc rune sa sn sc pl cap name mn mx lz).toArray] w fun e w' => e = .returned (.bool (fieldsB op rune sn so pl cap name mn mx lz)) ∧ Below w.heap.size w w' := by
  have HB := Lib.hid (fun o => (Below.refl _ w).alloc (Nat.le_refl _) o)
  have e3 : (op != 3) = true := by simpa using o3
  have e4 : (op != 4) = true := by simpa using o4
  have e5 : (op != 5) = true := by simpa using o5
  have e6 : (op != 6) = true := by simpa using o6
  have e10 : (op != 10) = true := by simpa using o10
  have q3 : (op == 3) = false := by simpa using o3
  have q4 : (op == 4) = false := by simpa using o4
  have q5 : (op == 5) = false := by simpa using o5
  have q6 : (op == 6) = false := by simpa using o6
  have q10 : (op == 10) = false := by simpa using o10
  have o789 : op = 7 ∨ op = 8 ∨ op = 9 ∨ op = 10 := by omega
  have l7 : ¬ op < 7 := by omega
  have l10 : ¬ op > 10 := by omega
  have HBA := Lib.hid (fun (rune : Int) (sn : Nat) (pl cap : Int) (name : ByteArray) (mn mx : Int) (lz : Bool) => (show fieldsB op rune sn so pl cap name mn mx lz = (decide (0 = rune) && decide (0 = sn) && decide (0 = pl) && decide (0 = cap) && decide ((⟨#[]⟩ : ByteArray) = name) && decide (0 = mn) && decide (0 = mx) && decide (lz = lz)) by
    unfold fieldsB bareOk ownB
    rw [if_neg o3, if_neg o4, if_neg o5, if_neg o6, if_neg o6, if_neg o10, if_neg o10, if_pos o789, if_neg o3, if_neg o4, if_neg o5, if_neg o6, if_neg o10, decide_eq_true (⟨o1, o12⟩ : 1 ≤ op ∧ op ≤ 12), Bool.true_and, Bool.and_true]))
  clear o3 o4 o5 o6 o10 o789
  by_cases k : rune = 0
  rotate_left
  · have k2 : (rune != 0) = true := by simpa using k
    have k3 : ¬ 0 = rune := fun e => k e.symm
    have HF := Lib.hid (show fieldsB op rune sn so pl cap name mn mx lz = false by rw [HBA.out]; simp [k3])
    clear k
    go_enter Tryz.func47, Tryz.ntmps47
    go_wp2_with fail
    go_ret
    exact ⟨by rw [HF.out]; rfl, HB.out _⟩
  subst k
  by_cases k : sn = 0
  rotate_left
  · have k2 : (0 : Int) < (sn : Int) := by omega
    have k3 : ¬ 0 = sn := fun e => k e.symm
    have HF := Lib.hid (show fieldsB op 0 sn so pl cap name mn mx lz = false by rw [HBA.out]; simp [k3])
    clear k
    go_enter Tryz.func47, Tryz.ntmps47
    go_wp2_with fail
    go_ret
    exact ⟨by rw [HF.out]; rfl, HB.out _⟩
  subst k
  by_cases k : pl = 0
  rotate_left
  · have k2 : (pl != 0) = true := by simpa using k
    have k3 : ¬ 0 = pl := fun e => k e.symm
    have HF := Lib.hid (show fieldsB op 0 0 so pl cap name mn mx lz = false by rw [HBA.out]; simp [k3])
    clear k
    go_enter Tryz.func47, Tryz.ntmps47
    go_wp2_with fail
    go_ret
    exact ⟨by rw [HF.out]; rfl, HB.out _⟩
  subst k
  by_cases k : cap = 0
  rotate_left
  · have k2 : (cap != 0) = true := by simpa using k
    have k3 : ¬ 0 = cap := fun e => k e.symm
    have HF := Lib.hid (show fieldsB op 0 0 so 0 cap name mn mx lz = false by rw [HBA.out]; simp [k3])
    clear k
    go_enter Tryz.func47, Tryz.ntmps47
    go_wp2_with fail
    go_ret
    exact ⟨by rw [HF.out]; rfl, HB.out _⟩
  subst k
  by_cases k : name.size = 0
  rotate_left
  · have k2 := list_ne k
    have k3 := list_nil k
    have k4 : ¬ (⟨#[]⟩ : ByteArray) = name := fun e => k (by rw [← e]; rfl)
    have HF := Lib.hid (show fieldsB op 0 0 so 0 0 name mn mx lz = false by rw [HBA.out]; simp [k4])
    clear k
    go_enter Tryz.func47, Tryz.ntmps47
    go_wp2_with fail
    go_ret
    exact ⟨by rw [HF.out]; rfl, HB.out _⟩
  obtain rfl := size_zero k
  clear k
  by_cases k : mn = 0
  rotate_left
  · have k2 : (mn != 0) = true := by simpa using k
    have k3 : ¬ 0 = mn := fun e => k e.symm
    have HF := Lib.hid (show fieldsB op 0 0 so 0 0 ⟨#[]⟩ mn mx lz = false by rw [HBA.out]; simp [k3])
    clear k
    go_enter Tryz.func47, Tryz.ntmps47
    go_wp2_with fail
    go_ret
    exact ⟨by rw [HF.out]; rfl, HB.out _⟩
  subst k
  by_cases k : mx = 0
  rotate_left
  · have k2 : (mx != 0) = true := by simpa using k
    have k3 : ¬ 0 = mx := fun e => k e.symm
    have HF := Lib.hid (show fieldsB op 0 0 so 0 0 ⟨#[]⟩ 0 mx lz = false by rw [HBA.out]; simp [k3])
    clear k
    go_enter Tryz.func47, Tryz.ntmps47
    go_wp2_with fail
    go_ret
    exact ⟨by rw [HF.out]; rfl, HB.out _⟩
  subst k
  have HF := Lib.hid (fun lz => show fieldsB op 0 0 so 0 0 ⟨#[]⟩ 0 0 lz = true by rw [HBA.out]; simp)
  cases lz with
  | true =>
    go_enter Tryz.func47, Tryz.ntmps47
    go_wp2_with fail
    go_ret
    exact ⟨by rw [HF.out]; rfl, HB.out _⟩
  | false =>
    go_enter Tryz.func47, Tryz.ntmps47
    go_wp2_with fail
    go_ret
    exact ⟨by rw [HF.out]; rfl, HB.out _⟩
set_option maxRecDepth 100000 in
set_option maxHeartbeats 4000000 in
theorem fields_O (op : Int) (ka : Option Addr) (kn kc : Nat) (rune : Int) (sn : Nat) (so : Bool) (sa : Option Addr) (sc : Nat) (pl cap : Int) (name : ByteArray) (mn mx : Int) (lz : Bool) (w : World) (o3 : ¬ op = 3) (o4 : ¬ op = 4) (o5 : ¬ op = 5) (o6 : ¬ op = 6) (o10 : ¬ op = 10) (o1 : 1 ≤ op) (o12 : op ≤ 12) (o7 : op < 7 ∨ 10 < op) :
    Calls Tryz.prog 47 #[.agg (cellsT op ka kn kc rune sa sn sc pl cap name mn mx lz).toArray] w fun e w' => e = .returned (.bool (fieldsB op rune sn so pl cap name mn mx lz)) ∧ Below w.heap.size w w' := by
  have HB := Lib.hid (fun o => (Below.refl _ w).alloc (Nat.le_refl _) o)
  have e3 : (op != 3) = true := by simpa using o3
  have e4 : (op != 4) = true := by simpa using o4
  have e5 : (op != 5) = true := by simpa using o5
  have e6 : (op != 6) = true := by simpa using o6
  have e10 : (op != 10) = true := by simpa using o10
  have q3 : (op == 3) = false := by simpa using o3
  have q4 : (op == 4) = false := by simpa using o4
  have q5 : (op == 5) = false := by simpa using o5
  have q6 : (op == 6) = false := by simpa using o6
  have q10 : (op == 10) = false := by simpa using o10
  have o789 : ¬ (op = 7 ∨ op = 8 ∨ op = 9 ∨ op = 10) := by omega
  have HBA := Lib.hid (fun (rune : Int) (sn : Nat) (pl cap : Int) (name : ByteArray) (mn mx : Int) (lz : Bool) => (show fieldsB op rune sn so pl cap name mn mx lz = (decide (0 = rune) && decide (0 = sn) && decide (0 = pl) && decide (0 = cap) && decide ((⟨#[]⟩ : ByteArray) = name) && decide (0 = mn) && decide (0 = mx) && decide (false = lz)) by
    unfold fieldsB bareOk ownB
    rw [if_neg o3, if_neg o4, if_neg o5, if_neg o6, if_neg o6, if_neg o10, if_neg o10, if_neg o789, if_neg o3, if_neg o4, if_neg o5, if_neg o6, if_neg o10, decide_eq_true (⟨o1, o12⟩ : 1 ≤ op ∧ op ≤ 12), Bool.true_and, Bool.and_true]))
  clear o3 o4 o5 o6 o10 o789
  by_cases k : rune = 0
  rotate_left
  · have k2 : (rune != 0) = true := by simpa using k
    have k3 : ¬ 0 = rune := fun e => k e.symm
    have HF := Lib.hid (show fieldsB op rune sn so pl cap name mn mx lz = false by rw [HBA.out]; simp [k3])
    clear k
    go_enter Tryz.func47, Tryz.ntmps47
    go_wp2_with fail
    go_ret
    exact ⟨by rw [HF.out]; rfl, HB.out _⟩
  subst k
  by_cases k : sn = 0
  rotate_left
  · have k2 : (0 : Int) < (sn : Int) := by omega
    have k3 : ¬ 0 = sn := fun e => k e.symm
    have HF := Lib.hid (show fieldsB op 0 sn so pl cap name mn mx lz = false by rw [HBA.out]; simp [k3])
    clear k
    go_enter Tryz.func47, Tryz.ntmps47
    go_wp2_with fail
    go_ret
    exact ⟨by rw [HF.out]; rfl, HB.out _⟩
  subst k
  by_cases k : pl = 0
  rotate_left
  · have k2 : (pl != 0) = true := by simpa using k
    have k3 : ¬ 0 = pl := fun e => k e.symm
    have HF := Lib.hid (show fieldsB op 0 0 so pl cap name mn mx lz = false by rw [HBA.out]; simp [k3])
    clear k
    go_enter Tryz.func47, Tryz.ntmps47
    go_wp2_with fail
    go_ret
    exact ⟨by rw [HF.out]; rfl, HB.out _⟩
  subst k
  by_cases k : cap = 0
  rotate_left
  · have k2 : (cap != 0) = true := by simpa using k
    have k3 : ¬ 0 = cap := fun e => k e.symm
    have HF := Lib.hid (show fieldsB op 0 0 so 0 cap name mn mx lz = false by rw [HBA.out]; simp [k3])
    clear k
    go_enter Tryz.func47, Tryz.ntmps47
    go_wp2_with fail
    go_ret
    exact ⟨by rw [HF.out]; rfl, HB.out _⟩
  subst k
  by_cases k : name.size = 0
  rotate_left
  · have k2 := list_ne k
    have k3 := list_nil k
    have k4 : ¬ (⟨#[]⟩ : ByteArray) = name := fun e => k (by rw [← e]; rfl)
    have HF := Lib.hid (show fieldsB op 0 0 so 0 0 name mn mx lz = false by rw [HBA.out]; simp [k4])
    clear k
    go_enter Tryz.func47, Tryz.ntmps47
    go_wp2_with fail
    go_ret
    exact ⟨by rw [HF.out]; rfl, HB.out _⟩
  obtain rfl := size_zero k
  clear k
  by_cases k : mn = 0
  rotate_left
  · have k2 : (mn != 0) = true := by simpa using k
    have k3 : ¬ 0 = mn := fun e => k e.symm
    have HF := Lib.hid (show fieldsB op 0 0 so 0 0 ⟨#[]⟩ mn mx lz = false by rw [HBA.out]; simp [k3])
    clear k
    go_enter Tryz.func47, Tryz.ntmps47
    go_wp2_with fail
    go_ret
    exact ⟨by rw [HF.out]; rfl, HB.out _⟩
  subst k
  by_cases k : mx = 0
  rotate_left
  · have k2 : (mx != 0) = true := by simpa using k
    have k3 : ¬ 0 = mx := fun e => k e.symm
    have HF := Lib.hid (show fieldsB op 0 0 so 0 0 ⟨#[]⟩ 0 mx lz = false by rw [HBA.out]; simp [k3])
    clear k
    go_enter Tryz.func47, Tryz.ntmps47
    go_wp2_with fail
    go_ret
    exact ⟨by rw [HF.out]; rfl, HB.out _⟩
  subst k
  cases lz with
  | true =>
    have HF := Lib.hid (show fieldsB op 0 0 so 0 0 ⟨#[]⟩ 0 0 true = false by rw [HBA.out]; simp)
    rcases o7 with o7 | o7
    · skip
      go_enter Tryz.func47, Tryz.ntmps47
      go_wp2_with fail
      go_ret
      exact ⟨by rw [HF.out]; rfl, HB.out _⟩
    · skip
      go_enter Tryz.func47, Tryz.ntmps47
      go_wp2_with fail
      go_ret
      exact ⟨by rw [HF.out]; rfl, HB.out _⟩
  | false =>
    have HF := Lib.hid (show fieldsB op 0 0 so 0 0 ⟨#[]⟩ 0 0 false = true by rw [HBA.out]; simp)
    go_enter Tryz.func47, Tryz.ntmps47
    go_wp2_with fail
    go_ret
    exact ⟨by rw [HF.out]; rfl, HB.out _⟩
end Go.Proofs.YtihbmgpjihgodaaGreatDoor

namespace Go.Proofs.YtihbmgpjihgodaaGreatDoor
open Go Go.RowKit Go.Proofs

set_option maxRecDepth 100000 in
set_option maxHeartbeats 1000000 in
theorem fields_out (op : Int) (ka : Option Addr) (kn kc : Nat) (rune : Int) (sn : Nat) (so : Bool) (sa : Option Addr) (sc : Nat) (pl cap : Int) (name : ByteArray) (mn mx : Int) (lz : Bool) (w : World) (ho : op < 1 ∨ 12 < op) :
    Calls Tryz.prog 47 #[.agg (cellsT op ka kn kc rune sa sn sc pl cap name mn mx lz).toArray] w fun e w' => e = .returned (.bool (fieldsB op rune sn so pl cap name mn mx lz)) ∧ Below w.heap.size w w' := by
  have HB := Lib.hid (fun o => (Below.refl _ w).alloc (Nat.le_refl _) o)
  have HF := Lib.hid (show fieldsB op rune sn so pl cap name mn mx lz = false by unfold fieldsB; rw [decide_eq_false (show ¬ (1 ≤ op ∧ op ≤ 12) by omega)]; rfl)
  rcases ho with ho | ho
  · have d1 : decide (op < 1) = true := decide_eq_true ho
    go_enter Tryz.func47, Tryz.ntmps47
    go_wp2_with fail
    go_ret
    exact ⟨by rw [HF.out]; rfl, HB.out _⟩
  · have ho2 : ¬ op < 1 := by omega
    have d1 : decide (op < 1) = false := decide_eq_false ho2
    have d2 : decide (12 < op) = true := decide_eq_true ho
    go_enter Tryz.func47, Tryz.ntmps47
    go_wp2_with fail
    go_ret
    exact ⟨by rw [HF.out]; rfl, HB.out _⟩
theorem ref05_fields (op : Int) (ka : Option Addr) (kn kc : Nat) (rune : Int) (set : List (Int × Int)) (sa : Option Addr) (sc : Nat) (pl cap : Int) (name : ByteArray) (mn mx : Int) (lz : Bool) (w : World) (B : Nat) (hR : RangesV w B set sa set.length sc) (hB : B ≤ w.heap.size) :
    Calls Tryz.prog 47 #[.agg (cellsT op ka kn kc rune sa set.length sc pl cap name mn mx lz).toArray] w fun e w' => e = .returned (.bool (fieldsB op rune set.length (setRight set) pl cap name mn mx lz)) ∧ Below w.heap.size w w' := by
  by_cases ho : op < 1 ∨ 12 < op
  · exact fields_out op ka kn kc rune _ _ sa sc pl cap name mn mx lz w ho
  by_cases h3 : op = 3
  · subst h3; exact fields_3 ka kn kc rune _ _ sa sc pl cap name mn mx lz w
  by_cases h4 : op = 4
  · subst h4; exact fields_4 ka kn kc rune _ _ sa sc pl cap name mn mx lz w B set rfl hR hB
  by_cases h5 : op = 5
  · subst h5; exact fields_5 ka kn kc rune _ _ sa sc pl cap name mn mx lz w
  by_cases h6 : op = 6
  · subst h6; exact fields_6 ka kn kc rune _ _ sa sc pl cap name mn mx lz w
  by_cases h10 : op = 10
  · subst h10; exact fields_10 ka kn kc rune _ _ sa sc pl cap name mn mx lz w
  by_cases h7 : op < 7 ∨ 10 < op
  · exact fields_O op ka kn kc rune _ _ sa sc pl cap name mn mx lz w h3 h4 h5 h6 h10 (by omega) (by omega) h7
  · exact fields_L op ka kn kc rune _ _ sa sc pl cap name mn mx lz w h3 h4 h5 h6 h10 (by omega) (by omega) (by omega)
end Go.Proofs.YtihbmgpjihgodaaGreatDoor
