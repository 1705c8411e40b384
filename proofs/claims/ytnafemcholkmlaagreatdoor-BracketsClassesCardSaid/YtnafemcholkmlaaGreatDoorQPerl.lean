/- classes.Perl: the set of a letter behind a backslash. (Printed by gen_perl.py.) -/
import Derived.Test.YtnafemcholkmlaaGreatDoorQProperty
namespace Go.Proofs.YtnafemcholkmlaaGreatDoor
open Go Go.RowKit Go.Proofs Go.Shelf

def perlL (c : Int) : Option (List (Int × Int)) :=
  if c = 100 ∨ c = 68 then some [(48, 57)] else if c = 115 ∨ c = 83 then some [(9, 10), (12, 13), (32, 32)] else if c = 119 ∨ c = 87 then some [(48, 57), (65, 90), (95, 95), (97, 122)] else none
def perlSpec (c : Int) : Option (Int → Bool) := (perlL c).map fun l x => memR l x != decide (c < 97)

set_option maxHeartbeats 1000000 in
theorem perl_100 (w : World) : Calls Tryz.prog 81 #[.int .u8 100] w (PropR w (perlSpec 100)) := by
  have HL := Lib.hid (Laid.lit w [(48, 57)] (flatR [(48, 57)]).toArray rfl (by decide))
  have HB := Lib.hid ((Below.refl w.heap.size w).alloc (Nat.le_refl _) (.cells (flatR [(48, 57)]).toArray 43))
  have hr : RangesV (w.alloc (.cells (flatR [(48, 57)]).toArray 43)) (w.heap.size + 1) [(48, 57)] (some ⟨w.heap.size, 0, none⟩) 1 1 := ⟨rfl, ⟨Nat.le_refl _, by omega⟩, .inr ⟨_, _, rfl, by omega, RangesAt.of_cells _ 0 fun j hj => ⟨by rw [Nat.zero_add]; exact (Blk.new w (flatR [(48, 57)]) 43).cell (flatR_get _ j hj).1, by rw [Nat.zero_add]; exact (Blk.new w (flatR [(48, 57)]) 43).cell (flatR_get _ j hj).2⟩⟩⟩
  have HC := Lib.hid (turned_same (some ⟨w.heap.size, 0, none⟩) 1 1 (w.alloc (.cells (flatR [(48, 57)]).toArray 43)))
  clear hr
  go_enter Tryz.func81, Tryz.ntmps81
  go_wp2_with fail
  refine (HC.out).mono ?_
  rintro e w3 ⟨rfl, hb3⟩
  have HB3 := Lib.hid hb3; clear hb3
  go_wp2_with fail
  go_ret2
  refine ⟨_, [(48, 57)], rfl, ?_, (IsSet.of_right (by decide)).congr (fun c _ _ => by simp), by decide, HB.out.trans (HB3.out.mono HB.out.size)⟩
  exact HL.out.kept (grownBy_below HB3.out none) (by simp [Value.ownBlock])

set_option maxHeartbeats 1000000 in
theorem perl_68 (w : World) : Calls Tryz.prog 81 #[.int .u8 68] w (PropR w (perlSpec 68)) := by
  have HL := Lib.hid (Laid.lit w [(48, 57)] (flatR [(48, 57)]).toArray rfl (by decide))
  have HB := Lib.hid ((Below.refl w.heap.size w).alloc (Nat.le_refl _) (.cells (flatR [(48, 57)]).toArray 43))
  have hr : RangesV (w.alloc (.cells (flatR [(48, 57)]).toArray 43)) (w.heap.size + 1) [(48, 57)] (some ⟨w.heap.size, 0, none⟩) 1 1 := ⟨rfl, ⟨Nat.le_refl _, by omega⟩, .inr ⟨_, _, rfl, by omega, RangesAt.of_cells _ 0 fun j hj => ⟨by rw [Nat.zero_add]; exact (Blk.new w (flatR [(48, 57)]) 43).cell (flatR_get _ j hj).1, by rw [Nat.zero_add]; exact (Blk.new w (flatR [(48, 57)]) 43).cell (flatR_get _ j hj).2⟩⟩⟩
  have HC := Lib.hid (turned_not _ _ _ _ _ _ hr (by simp) (by decide))
  clear hr
  go_enter Tryz.func81, Tryz.ntmps81
  go_wp2_with fail
  refine (HC.out).mono ?_
  rintro e w3 hh
  obtain ⟨v3, out3, rfl, hh⟩ := hh
  have H3 := Lib.hid hh; clear hh
  go_wp2_with fail
  go_ret2
  exact TurnR.prop ⟨v3, out3, rfl, H3.out⟩ HB.out (by decide) (fun c _ _ => by simp)

set_option maxHeartbeats 1000000 in
theorem perl_115 (w : World) : Calls Tryz.prog 81 #[.int .u8 115] w (PropR w (perlSpec 115)) := by
  have HL := Lib.hid (Laid.lit w [(9, 10), (12, 13), (32, 32)] (flatR [(9, 10), (12, 13), (32, 32)]).toArray rfl (by decide))
  have HB := Lib.hid ((Below.refl w.heap.size w).alloc (Nat.le_refl _) (.cells (flatR [(9, 10), (12, 13), (32, 32)]).toArray 43))
  have hr : RangesV (w.alloc (.cells (flatR [(9, 10), (12, 13), (32, 32)]).toArray 43)) (w.heap.size + 1) [(9, 10), (12, 13), (32, 32)] (some ⟨w.heap.size, 0, none⟩) 3 3 := ⟨rfl, ⟨Nat.le_refl _, by omega⟩, .inr ⟨_, _, rfl, by omega, RangesAt.of_cells _ 0 fun j hj => ⟨by rw [Nat.zero_add]; exact (Blk.new w (flatR [(9, 10), (12, 13), (32, 32)]) 43).cell (flatR_get _ j hj).1, by rw [Nat.zero_add]; exact (Blk.new w (flatR [(9, 10), (12, 13), (32, 32)]) 43).cell (flatR_get _ j hj).2⟩⟩⟩
  have HC := Lib.hid (turned_same (some ⟨w.heap.size, 0, none⟩) 3 3 (w.alloc (.cells (flatR [(9, 10), (12, 13), (32, 32)]).toArray 43)))
  clear hr
  go_enter Tryz.func81, Tryz.ntmps81
  go_wp2_with fail
  refine (HC.out).mono ?_
  rintro e w3 ⟨rfl, hb3⟩
  have HB3 := Lib.hid hb3; clear hb3
  go_wp2_with fail
  go_ret2
  refine ⟨_, [(9, 10), (12, 13), (32, 32)], rfl, ?_, (IsSet.of_right (by decide)).congr (fun c _ _ => by simp), by decide, HB.out.trans (HB3.out.mono HB.out.size)⟩
  exact HL.out.kept (grownBy_below HB3.out none) (by simp [Value.ownBlock])

set_option maxHeartbeats 1000000 in
theorem perl_83 (w : World) : Calls Tryz.prog 81 #[.int .u8 83] w (PropR w (perlSpec 83)) := by
  have HL := Lib.hid (Laid.lit w [(9, 10), (12, 13), (32, 32)] (flatR [(9, 10), (12, 13), (32, 32)]).toArray rfl (by decide))
  have HB := Lib.hid ((Below.refl w.heap.size w).alloc (Nat.le_refl _) (.cells (flatR [(9, 10), (12, 13), (32, 32)]).toArray 43))
  have hr : RangesV (w.alloc (.cells (flatR [(9, 10), (12, 13), (32, 32)]).toArray 43)) (w.heap.size + 1) [(9, 10), (12, 13), (32, 32)] (some ⟨w.heap.size, 0, none⟩) 3 3 := ⟨rfl, ⟨Nat.le_refl _, by omega⟩, .inr ⟨_, _, rfl, by omega, RangesAt.of_cells _ 0 fun j hj => ⟨by rw [Nat.zero_add]; exact (Blk.new w (flatR [(9, 10), (12, 13), (32, 32)]) 43).cell (flatR_get _ j hj).1, by rw [Nat.zero_add]; exact (Blk.new w (flatR [(9, 10), (12, 13), (32, 32)]) 43).cell (flatR_get _ j hj).2⟩⟩⟩
  have HC := Lib.hid (turned_not _ _ _ _ _ _ hr (by simp) (by decide))
  clear hr
  go_enter Tryz.func81, Tryz.ntmps81
  go_wp2_with fail
  refine (HC.out).mono ?_
  rintro e w3 hh
  obtain ⟨v3, out3, rfl, hh⟩ := hh
  have H3 := Lib.hid hh; clear hh
  go_wp2_with fail
  go_ret2
  exact TurnR.prop ⟨v3, out3, rfl, H3.out⟩ HB.out (by decide) (fun c _ _ => by simp)

set_option maxHeartbeats 1000000 in
theorem perl_119 (w : World) : Calls Tryz.prog 81 #[.int .u8 119] w (PropR w (perlSpec 119)) := by
  have HL := Lib.hid (Laid.lit w [(48, 57), (65, 90), (95, 95), (97, 122)] (flatR [(48, 57), (65, 90), (95, 95), (97, 122)]).toArray rfl (by decide))
  have HB := Lib.hid ((Below.refl w.heap.size w).alloc (Nat.le_refl _) (.cells (flatR [(48, 57), (65, 90), (95, 95), (97, 122)]).toArray 43))
  have hr : RangesV (w.alloc (.cells (flatR [(48, 57), (65, 90), (95, 95), (97, 122)]).toArray 43)) (w.heap.size + 1) [(48, 57), (65, 90), (95, 95), (97, 122)] (some ⟨w.heap.size, 0, none⟩) 4 4 := ⟨rfl, ⟨Nat.le_refl _, by omega⟩, .inr ⟨_, _, rfl, by omega, RangesAt.of_cells _ 0 fun j hj => ⟨by rw [Nat.zero_add]; exact (Blk.new w (flatR [(48, 57), (65, 90), (95, 95), (97, 122)]) 43).cell (flatR_get _ j hj).1, by rw [Nat.zero_add]; exact (Blk.new w (flatR [(48, 57), (65, 90), (95, 95), (97, 122)]) 43).cell (flatR_get _ j hj).2⟩⟩⟩
  have HC := Lib.hid (turned_same (some ⟨w.heap.size, 0, none⟩) 4 4 (w.alloc (.cells (flatR [(48, 57), (65, 90), (95, 95), (97, 122)]).toArray 43)))
  clear hr
  go_enter Tryz.func81, Tryz.ntmps81
  go_wp2_with fail
  refine (HC.out).mono ?_
  rintro e w3 ⟨rfl, hb3⟩
  have HB3 := Lib.hid hb3; clear hb3
  go_wp2_with fail
  go_ret2
  refine ⟨_, [(48, 57), (65, 90), (95, 95), (97, 122)], rfl, ?_, (IsSet.of_right (by decide)).congr (fun c _ _ => by simp), by decide, HB.out.trans (HB3.out.mono HB.out.size)⟩
  exact HL.out.kept (grownBy_below HB3.out none) (by simp [Value.ownBlock])

set_option maxHeartbeats 1000000 in
theorem perl_87 (w : World) : Calls Tryz.prog 81 #[.int .u8 87] w (PropR w (perlSpec 87)) := by
  have HL := Lib.hid (Laid.lit w [(48, 57), (65, 90), (95, 95), (97, 122)] (flatR [(48, 57), (65, 90), (95, 95), (97, 122)]).toArray rfl (by decide))
  have HB := Lib.hid ((Below.refl w.heap.size w).alloc (Nat.le_refl _) (.cells (flatR [(48, 57), (65, 90), (95, 95), (97, 122)]).toArray 43))
  have hr : RangesV (w.alloc (.cells (flatR [(48, 57), (65, 90), (95, 95), (97, 122)]).toArray 43)) (w.heap.size + 1) [(48, 57), (65, 90), (95, 95), (97, 122)] (some ⟨w.heap.size, 0, none⟩) 4 4 := ⟨rfl, ⟨Nat.le_refl _, by omega⟩, .inr ⟨_, _, rfl, by omega, RangesAt.of_cells _ 0 fun j hj => ⟨by rw [Nat.zero_add]; exact (Blk.new w (flatR [(48, 57), (65, 90), (95, 95), (97, 122)]) 43).cell (flatR_get _ j hj).1, by rw [Nat.zero_add]; exact (Blk.new w (flatR [(48, 57), (65, 90), (95, 95), (97, 122)]) 43).cell (flatR_get _ j hj).2⟩⟩⟩
  have HC := Lib.hid (turned_not _ _ _ _ _ _ hr (by simp) (by decide))
  clear hr
  go_enter Tryz.func81, Tryz.ntmps81
  go_wp2_with fail
  refine (HC.out).mono ?_
  rintro e w3 hh
  obtain ⟨v3, out3, rfl, hh⟩ := hh
  have H3 := Lib.hid hh; clear hh
  go_wp2_with fail
  go_ret2
  exact TurnR.prop ⟨v3, out3, rfl, H3.out⟩ HB.out (by decide) (fun c _ _ => by simp)

set_option maxHeartbeats 1000000 in
theorem perl_none (c : Int) (w : World) (h : ¬ (c = 100 ∨ c = 68) ∧ ¬ (c = 115 ∨ c = 83) ∧ ¬ (c = 119 ∨ c = 87)) : Calls Tryz.prog 81 #[.int .u8 c] w (PropR w none) := by
  have n1 : (c == 100) = false := beq_eq_false_iff_ne.2 (by omega)
  have n2 : (c == 68) = false := beq_eq_false_iff_ne.2 (by omega)
  have n3 : (c == 115) = false := beq_eq_false_iff_ne.2 (by omega)
  have n4 : (c == 83) = false := beq_eq_false_iff_ne.2 (by omega)
  have n5 : (c == 119) = false := beq_eq_false_iff_ne.2 (by omega)
  have n6 : (c == 87) = false := beq_eq_false_iff_ne.2 (by omega)
  clear h
  by_cases h97 : c < 97
  all_goals (
    go_enter Tryz.func81, Tryz.ntmps81
    go_wp2_with fail
    refine (turned_no _ _ _ _ _).mono ?_
    rintro e w3 ⟨rfl, hb3⟩
    have HB3 := Lib.hid hb3; clear hb3
    go_wp2_with fail
    go_ret2
    exact ⟨_, [], rfl, World.ownsRow_nil _ _ _ _, rfl, by simp, HB3.out⟩)

/-- The contract of classes.Perl. -/
theorem classes_Perl (c : Int) (w : World) : Calls Tryz.prog 81 #[.int .u8 c] w (PropR w (perlSpec c)) := by
  by_cases h : (c = 100 ∨ c = 68) ∨ (c = 115 ∨ c = 83) ∨ (c = 119 ∨ c = 87)
  · rcases h with (rfl | rfl) | (rfl | rfl) | (rfl | rfl)
    · exact perl_100 w
    · exact perl_68 w
    · exact perl_115 w
    · exact perl_83 w
    · exact perl_119 w
    · exact perl_87 w
  · have h2 : perlSpec c = none := by unfold perlSpec perlL; rw [if_neg (by omega), if_neg (by omega), if_neg (by omega)]; rfl
    rw [h2]
    exact perl_none c w ⟨by omega, by omega, by omega⟩
end Go.Proofs.YtnafemcholkmlaaGreatDoor
