/- The document's sets of a letter: martelloref04.Perl. (Printed by gen_refperl.py.) -/
import Derived.Test.YtjmgboegipeijaaGreatDoorRefProp
import Derived.Test.YtjmgboegipeijaaGreatDoorPairSet04
import Derived.Test.YtjmgboegipeijaaGreatDoorPerl
namespace Go.Proofs.YtjmgboegipeijaaGreatDoor
open Go Go.RowKit Go.Proofs Go.Shelf

set_option maxHeartbeats 1000000 in
set_option maxRecDepth 100000 in
theorem rperl_100 (w : World) : Calls Tryz.prog 60 #[.int .u8 100] w fun e w' => ∃ v, e = .returned (.tuple #[v, .bool true]) ∧ Laid w w' [(48, 57)] v ∧ Below w.heap.size w w' := by
  have hr : RangesAt (w.alloc (.cells (flatR [(48, 57)]).toArray 126)) [(48, 57)] w.heap.size 0 := RangesAt.of_cells _ 0 fun j hj => ⟨by rw [Nat.zero_add]; exact (Blk.new w (flatR [(48, 57)]) 126).cell (flatR_get _ j hj).1, by rw [Nat.zero_add]; exact (Blk.new w (flatR [(48, 57)]) 126).cell (flatR_get _ j hj).2⟩
  have hs := ref04_set [(48, 57)] w.heap.size 1 _ hr (by simp) (by decide)
  have HS := Lib.hid hs; clear hs hr
  go_enter Tryz.func60, Tryz.ntmps60
  go_wp2_with fail
  refine (HS.out).mono ?_
  rintro e w1 ⟨v, rfl, h1, h2⟩
  have H1 := Lib.hid h1; have H2 := Lib.hid h2; clear h1 h2
  go_wp2_with fail
  go_ret2
  have hb := (Below.refl w.heap.size w).alloc (Nat.le_refl _) (.cells (flatR [(48, 57)]).toArray 126)
  exact ⟨v, rfl, Joins.ownsRow_le H1.out hb.size, hb.trans (H2.out.mono hb.size)⟩

set_option maxHeartbeats 1000000 in
set_option maxRecDepth 100000 in
theorem rperl_68 (w : World) : Calls Tryz.prog 60 #[.int .u8 68] w (PropR w (some fun x => memR [(48, 57)] x != true)) := by
  have HC := Lib.hid (rperl_100 w)
  go_enter Tryz.func60, Tryz.ntmps60
  go_wp2_with fail
  refine (HC.out).mono ?_
  rintro e w1 ⟨v, rfl, h1, h2⟩
  obtain ⟨sa, sc, rfl, hr, _⟩ := h1.ranges (by decide)
  have HNOT := Lib.hid (ref02_Not [(48, 57)] sa _ sc w1.heap.size w1 hr (Nat.le_refl _) (by decide))
  have HB := Lib.hid h2; clear h1 h2 hr
  go_wp2_with fail
  refine (HNOT.out).mono ?_
  rintro e w3 ⟨v3, o3, rfl, q1, q2, q3, q4, q5⟩
  have Q1 := Lib.hid q1; have Q2 := Lib.hid q2; have Q3 := Lib.hid q3; have Q4 := Lib.hid q4; have Q5 := Lib.hid q5
  clear q1 q2 q3 q4 q5
  go_wp2_with fail
  go_ret2
  exact SetOf.prop Q1.out Q2.out Q3.out Q4.out Q5.out HB.out (by decide) (fun c _ _ => by simp)

set_option maxHeartbeats 1000000 in
set_option maxRecDepth 100000 in
theorem rperl_115 (w : World) : Calls Tryz.prog 60 #[.int .u8 115] w fun e w' => ∃ v, e = .returned (.tuple #[v, .bool true]) ∧ Laid w w' [(9, 10), (12, 13), (32, 32)] v ∧ Below w.heap.size w w' := by
  have hr : RangesAt (w.alloc (.cells (flatR [(9, 10), (12, 13), (32, 32)]).toArray 126)) [(9, 10), (12, 13), (32, 32)] w.heap.size 0 := RangesAt.of_cells _ 0 fun j hj => ⟨by rw [Nat.zero_add]; exact (Blk.new w (flatR [(9, 10), (12, 13), (32, 32)]) 126).cell (flatR_get _ j hj).1, by rw [Nat.zero_add]; exact (Blk.new w (flatR [(9, 10), (12, 13), (32, 32)]) 126).cell (flatR_get _ j hj).2⟩
  have hs := ref04_set [(9, 10), (12, 13), (32, 32)] w.heap.size 3 _ hr (by simp) (by decide)
  have HS := Lib.hid hs; clear hs hr
  go_enter Tryz.func60, Tryz.ntmps60
  go_wp2_with fail
  refine (HS.out).mono ?_
  rintro e w1 ⟨v, rfl, h1, h2⟩
  have H1 := Lib.hid h1; have H2 := Lib.hid h2; clear h1 h2
  go_wp2_with fail
  go_ret2
  have hb := (Below.refl w.heap.size w).alloc (Nat.le_refl _) (.cells (flatR [(9, 10), (12, 13), (32, 32)]).toArray 126)
  exact ⟨v, rfl, Joins.ownsRow_le H1.out hb.size, hb.trans (H2.out.mono hb.size)⟩

set_option maxHeartbeats 1000000 in
set_option maxRecDepth 100000 in
theorem rperl_83 (w : World) : Calls Tryz.prog 60 #[.int .u8 83] w (PropR w (some fun x => memR [(9, 10), (12, 13), (32, 32)] x != true)) := by
  have HC := Lib.hid (rperl_115 w)
  go_enter Tryz.func60, Tryz.ntmps60
  go_wp2_with fail
  refine (HC.out).mono ?_
  rintro e w1 ⟨v, rfl, h1, h2⟩
  obtain ⟨sa, sc, rfl, hr, _⟩ := h1.ranges (by decide)
  have HNOT := Lib.hid (ref02_Not [(9, 10), (12, 13), (32, 32)] sa _ sc w1.heap.size w1 hr (Nat.le_refl _) (by decide))
  have HB := Lib.hid h2; clear h1 h2 hr
  go_wp2_with fail
  refine (HNOT.out).mono ?_
  rintro e w3 ⟨v3, o3, rfl, q1, q2, q3, q4, q5⟩
  have Q1 := Lib.hid q1; have Q2 := Lib.hid q2; have Q3 := Lib.hid q3; have Q4 := Lib.hid q4; have Q5 := Lib.hid q5
  clear q1 q2 q3 q4 q5
  go_wp2_with fail
  go_ret2
  exact SetOf.prop Q1.out Q2.out Q3.out Q4.out Q5.out HB.out (by decide) (fun c _ _ => by simp)

set_option maxHeartbeats 1000000 in
set_option maxRecDepth 100000 in
theorem rperl_119 (w : World) : Calls Tryz.prog 60 #[.int .u8 119] w fun e w' => ∃ v, e = .returned (.tuple #[v, .bool true]) ∧ Laid w w' [(48, 57), (65, 90), (95, 95), (97, 122)] v ∧ Below w.heap.size w w' := by
  have hr : RangesAt (w.alloc (.cells (flatR [(48, 57), (65, 90), (95, 95), (97, 122)]).toArray 126)) [(48, 57), (65, 90), (95, 95), (97, 122)] w.heap.size 0 := RangesAt.of_cells _ 0 fun j hj => ⟨by rw [Nat.zero_add]; exact (Blk.new w (flatR [(48, 57), (65, 90), (95, 95), (97, 122)]) 126).cell (flatR_get _ j hj).1, by rw [Nat.zero_add]; exact (Blk.new w (flatR [(48, 57), (65, 90), (95, 95), (97, 122)]) 126).cell (flatR_get _ j hj).2⟩
  have hs := ref04_set [(48, 57), (65, 90), (95, 95), (97, 122)] w.heap.size 4 _ hr (by simp) (by decide)
  have HS := Lib.hid hs; clear hs hr
  go_enter Tryz.func60, Tryz.ntmps60
  go_wp2_with fail
  refine (HS.out).mono ?_
  rintro e w1 ⟨v, rfl, h1, h2⟩
  have H1 := Lib.hid h1; have H2 := Lib.hid h2; clear h1 h2
  go_wp2_with fail
  go_ret2
  have hb := (Below.refl w.heap.size w).alloc (Nat.le_refl _) (.cells (flatR [(48, 57), (65, 90), (95, 95), (97, 122)]).toArray 126)
  exact ⟨v, rfl, Joins.ownsRow_le H1.out hb.size, hb.trans (H2.out.mono hb.size)⟩

set_option maxHeartbeats 1000000 in
set_option maxRecDepth 100000 in
theorem rperl_87 (w : World) : Calls Tryz.prog 60 #[.int .u8 87] w (PropR w (some fun x => memR [(48, 57), (65, 90), (95, 95), (97, 122)] x != true)) := by
  have HC := Lib.hid (rperl_119 w)
  go_enter Tryz.func60, Tryz.ntmps60
  go_wp2_with fail
  refine (HC.out).mono ?_
  rintro e w1 ⟨v, rfl, h1, h2⟩
  obtain ⟨sa, sc, rfl, hr, _⟩ := h1.ranges (by decide)
  have HNOT := Lib.hid (ref02_Not [(48, 57), (65, 90), (95, 95), (97, 122)] sa _ sc w1.heap.size w1 hr (Nat.le_refl _) (by decide))
  have HB := Lib.hid h2; clear h1 h2 hr
  go_wp2_with fail
  refine (HNOT.out).mono ?_
  rintro e w3 ⟨v3, o3, rfl, q1, q2, q3, q4, q5⟩
  have Q1 := Lib.hid q1; have Q2 := Lib.hid q2; have Q3 := Lib.hid q3; have Q4 := Lib.hid q4; have Q5 := Lib.hid q5
  clear q1 q2 q3 q4 q5
  go_wp2_with fail
  go_ret2
  exact SetOf.prop Q1.out Q2.out Q3.out Q4.out Q5.out HB.out (by decide) (fun c _ _ => by simp)

set_option maxHeartbeats 1000000 in
theorem rperl_none (c : Int) (w : World) (h : ¬ (c = 100 ∨ c = 68) ∧ ¬ (c = 115 ∨ c = 83) ∧ ¬ (c = 119 ∨ c = 87)) : Calls Tryz.prog 60 #[.int .u8 c] w (PropR w none) := by
  have n1 : (c == 100) = false := beq_eq_false_iff_ne.2 (by omega)
  have n2 : (c == 68) = false := beq_eq_false_iff_ne.2 (by omega)
  have n3 : (c == 115) = false := beq_eq_false_iff_ne.2 (by omega)
  have n4 : (c == 83) = false := beq_eq_false_iff_ne.2 (by omega)
  have n5 : (c == 119) = false := beq_eq_false_iff_ne.2 (by omega)
  have n6 : (c == 87) = false := beq_eq_false_iff_ne.2 (by omega)
  clear h
  go_enter Tryz.func60, Tryz.ntmps60
  go_wp2_with fail
  go_ret2
  exact ⟨_, [], rfl, World.ownsRow_nil _ _ _ _, rfl, by simp, Below.refl _ _⟩

theorem perl_yes {l : List (Int × Int)} {w w' : World} {e : Ending} (hr : setRight l = true) (hl : l.length ≤ 1000) (h : ∃ v, e = .returned (.tuple #[v, .bool true]) ∧ Laid w w' l v ∧ Below w.heap.size w w') : PropR w (some fun x => memR l x != false) e w' := by
  obtain ⟨v, rfl, h1, h2⟩ := h
  exact ⟨v, l, rfl, h1, (IsSet.of_right hr).congr (fun c _ _ => by simp), hl, h2⟩

/-- The contract of martelloref04.Perl. -/
theorem ref04_Perl (c : Int) (w : World) : Calls Tryz.prog 60 #[.int .u8 c] w (PropR w (perlSpec c)) := by
  by_cases h : (c = 100 ∨ c = 68) ∨ (c = 115 ∨ c = 83) ∨ (c = 119 ∨ c = 87)
  · rcases h with (rfl | rfl) | (rfl | rfl) | (rfl | rfl)
    · exact (rperl_100 w).mono fun e w' h => perl_yes (by decide) (by decide) h
    · exact rperl_68 w
    · exact (rperl_115 w).mono fun e w' h => perl_yes (by decide) (by decide) h
    · exact rperl_83 w
    · exact (rperl_119 w).mono fun e w' h => perl_yes (by decide) (by decide) h
    · exact rperl_87 w
  · have h2 : perlSpec c = none := by unfold perlSpec perlL; rw [if_neg (by omega), if_neg (by omega), if_neg (by omega)]; rfl
    rw [h2]
    exact rperl_none c w ⟨by omega, by omega, by omega⟩
end Go.Proofs.YtjmgboegipeijaaGreatDoor
