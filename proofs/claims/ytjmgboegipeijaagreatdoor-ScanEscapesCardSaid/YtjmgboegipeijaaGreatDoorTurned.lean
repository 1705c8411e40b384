/- classes.turned and classes.Dot. -/
import Derived.Test.YtjmgboegipeijaaGreatDoorSetsOps
namespace Go.Proofs.YtjmgboegipeijaaGreatDoor
open Go Go.RowKit Go.Proofs Go.Shelf

/-- A set, as members tell it. -/
def IsSet (out : List (Int × Int)) (p : Int → Bool) : Prop := setRight out = true ∧ ∀ c, memR out c = (decide (0 ≤ c) && decide (c ≤ 1114111) && p c)
theorem IsSet.unique {a b : List (Int × Int)} {p : Int → Bool} (ha : IsSet a p) (hb : IsSet b p) : a = b := set_unique ha.1 hb.1 fun c => by rw [ha.2, hb.2]
theorem IsSet.of_right {l : List (Int × Int)} (h : setRight l = true) : IsSet l (memR l) := by
  refine ⟨h, fun c => ?_⟩
  cases hx : memR l c with
  | false => simp
  | true =>
    have := memR_bound h hx
    rw [decide_eq_true (show 0 ≤ c by omega), decide_eq_true this.2]; rfl
theorem IsSet.congr {a : List (Int × Int)} {p q : Int → Bool} (ha : IsSet a p) (h : ∀ c, 0 ≤ c → c ≤ 1114111 → p c = q c) : IsSet a q := by
  refine ⟨ha.1, fun c => ?_⟩
  rw [ha.2]
  by_cases h0 : 0 ≤ c ∧ c ≤ 1114111
  · rw [h c h0.1 h0.2]
  · have : (decide (0 ≤ c) && decide (c ≤ 1114111)) = false := by
      rw [Bool.and_eq_false_iff, decide_eq_false_iff_not, decide_eq_false_iff_not]; omega
    simp [this]

set_option maxHeartbeats 1000000 in
theorem turned_keep (sa : Option Addr) (sn sc b5 b3 : Nat) (w : World) (h5 : Boxed w b5 4 (.bool false)) (h3 : Boxed w b3 24 (.slice sa sn sc)) :
    Calls Tryz.prog 77 #[.pointer (some ⟨b5, 0, none⟩), .pointer (some ⟨b3, 0, none⟩)] w fun e w' => e = .returned (.slice sa sn sc) ∧ Below w.heap.size w w' := by
  have u5 := h5.cell; have u3 := h3.cell
  clear h5 h3
  go_enter Tryz.func77, Tryz.ntmps77
  go_wp2_with fail
  go_ret
  exact ⟨rfl, Below.refl _ _⟩
set_option maxHeartbeats 1000000 in
theorem turned_turn (rs : List (Int × Int)) (sa : Option Addr) (sn sc b5 b3 B : Nat) (w : World) (h5 : Boxed w b5 4 (.bool true)) (h3 : Boxed w b3 24 (.slice sa sn sc)) (h : RangesV w B rs sa sn sc) (hB : B ≤ w.heap.size) (hN : rs.length ≤ 1000000000000) :
    Calls Tryz.prog 77 #[.pointer (some ⟨b5, 0, none⟩), .pointer (some ⟨b3, 0, none⟩)] w (SetOf w (fun c => !memR rs c) (2 * rs.length + 1)) := by
  have u5 := h5.cell; have u3 := h3.cell
  have HN := Lib.hid (sets_Not rs sa sn sc B w h hB hN)
  clear h5 h3 h
  go_enter Tryz.func77, Tryz.ntmps77
  go_wp2_with fail
  refine (HN.out).mono ?_
  rintro e w1 ⟨v, out, rfl, hh⟩
  have H := Lib.hid hh; clear hh
  go_wp2_with fail
  go_ret
  exact ⟨v, out, rfl, H.out⟩

set_option maxHeartbeats 1000000 in
theorem turned_no (sa : Option Addr) (sn sc : Nat) (nb : Bool) (w : World) :
    Calls Tryz.prog 52 #[.slice sa sn sc, .bool false, .bool nb] w fun e w' => e = .returned (.tuple #[.slice none 0 0, .bool false]) ∧ Below w.heap.size w w' := by
  go_enter Tryz.func52, Tryz.ntmps52
  go_wp2_with fail
  go_ret2
  exact ⟨rfl, ((Below.refl _ w).alloc (Nat.le_refl _) _).alloc (by simp) _⟩

theorem turned_boxes (w : World) (v : Value) (nb : Bool) : Boxed ((w.alloc (.cells #[v] 24)).alloc (.cells #[.bool nb] 4)) w.heap.size 24 v ∧ Boxed ((w.alloc (.cells #[v] 24)).alloc (.cells #[.bool nb] 4)) (w.heap.size + 1) 4 (.bool nb) ∧
    Below w.heap.size w ((w.alloc (.cells #[v] 24)).alloc (.cells #[.bool nb] 4)) := by
  refine ⟨(Boxed.new w 24 v).alloc _, ?_, ((Below.refl _ w).alloc (Nat.le_refl _) _).alloc (by simp) _⟩
  have := Boxed.new (w.alloc (.cells #[v] 24)) 4 (.bool nb)
  rw [World.size_alloc] at this; exact this

set_option maxHeartbeats 1000000 in
theorem turned_same (sa : Option Addr) (sn sc : Nat) (w : World) :
    Calls Tryz.prog 52 #[.slice sa sn sc, .bool true, .bool false] w fun e w' => e = .returned (.tuple #[.slice sa sn sc, .bool true]) ∧ Below w.heap.size w w' := by
  obtain ⟨b1, b2, b3⟩ := turned_boxes w (.slice sa sn sc) false
  have HC := Lib.hid (turned_keep sa sn sc (w.heap.size + 1) w.heap.size _ b2 b1)
  have HB := Lib.hid b3
  clear b1 b2 b3
  go_enter Tryz.func52, Tryz.ntmps52
  go_wp2_with fail
  refine (HC.out).mono ?_
  rintro e w1 ⟨rfl, hb⟩
  have HB1 := Lib.hid hb; clear hb
  go_wp2_with fail
  go_ret2
  exact ⟨rfl, HB.out.trans (HB1.out.mono HB.out.size)⟩

/-- What a set, turned, is. -/
def TurnR (w : World) (p : Int → Bool) (N : Nat) (e : Ending) (w' : World) : Prop :=
  ∃ v out, e = .returned (.tuple #[v, .bool true]) ∧ Laid w w' out v ∧ IsSet out p ∧ out.length ≤ N ∧ Below w.heap.size w w'

set_option maxHeartbeats 1000000 in
theorem turned_not (rs : List (Int × Int)) (sa : Option Addr) (sn sc B : Nat) (w : World) (h : RangesV w B rs sa sn sc) (hB : B ≤ w.heap.size) (hN : rs.length ≤ 1000000000000) :
    Calls Tryz.prog 52 #[.slice sa sn sc, .bool true, .bool true] w (TurnR w (fun c => !memR rs c) (2 * rs.length + 1)) := by
  obtain ⟨b1, b2, b3⟩ := turned_boxes w (.slice sa sn sc) true
  have HC := Lib.hid (turned_turn rs sa sn sc (w.heap.size + 1) w.heap.size B _ b2 b1 (h.below (b3.mono hB)) (Nat.le_trans hB b3.size) hN)
  have HB := Lib.hid b3
  clear b1 b2 b3 h
  go_enter Tryz.func52, Tryz.ntmps52
  go_wp2_with fail
  refine (HC.out).mono ?_
  rintro e w1 ⟨v, out, rfl, h1, h2, h3, h4, h5⟩
  have H := Lib.hid (And.intro h1 (And.intro h2 (And.intro h3 (And.intro h4 h5))))
  clear h1 h2 h3 h4 h5
  go_wp2_with fail
  go_ret2
  obtain ⟨h1, h2, h3, h4, h5⟩ := H.out
  exact ⟨v, out, rfl, Joins.ownsRow_le h1 HB.out.size, ⟨h2, h3⟩, h4, HB.out.trans (h5.mono HB.out.size)⟩

set_option maxHeartbeats 1000000 in
theorem dot_all (w : World) : Calls Tryz.prog 53 #[.bool true] w (SetOf w (fun _ => true) 1) := by
  have HN := Lib.hid (sets_Not [] none 0 0 w.heap.size w (RangesV.nil w _) (Nat.le_refl _) (by simp))
  go_enter Tryz.func53, Tryz.ntmps53
  go_wp2_with fail
  refine (HN.out).mono ?_
  rintro e w1 ⟨v, out, rfl, h1, h2, h3, h4, h5⟩
  have H := Lib.hid (And.intro h1 (And.intro h2 (And.intro h3 (And.intro h4 h5))))
  clear h1 h2 h3 h4 h5
  go_wp2_with fail
  go_ret
  obtain ⟨h1, h2, h3, h4, h5⟩ := H.out
  exact ⟨v, out, rfl, h1, h2, fun c => by rw [h3]; simp [memR], by simpa using h4, h5⟩
set_option maxHeartbeats 1000000 in
theorem dot_line (w : World) : Calls Tryz.prog 53 #[.bool false] w (SetOf w (fun c => decide (c ≠ 10)) 3) := by
  have hr : RangesAt (w.alloc (.cells (flatR [(10, 10)]).toArray 78)) [(10, 10)] w.heap.size 0 := RangesAt.of_cells _ 0 fun j hj => ⟨by rw [Nat.zero_add]; exact (Blk.new w (flatR [(10, 10)]) 78).cell (flatR_get _ j hj).1, by rw [Nat.zero_add]; exact (Blk.new w (flatR [(10, 10)]) 78).cell (flatR_get _ j hj).2⟩
  have hb := (Below.refl w.heap.size w).alloc (Nat.le_refl _) (.cells (flatR [(10, 10)]).toArray 78)
  have HN := Lib.hid (sets_Not [(10, 10)] (some ⟨w.heap.size, 0, none⟩) 1 1 (w.heap.size + 1) _ ⟨rfl, ⟨Nat.le_refl _, by omega⟩, .inr ⟨_, _, rfl, by omega, hr⟩⟩ (by simp) (by simp))
  have HB := Lib.hid hb
  clear hr hb
  go_enter Tryz.func53, Tryz.ntmps53
  go_wp2_with fail
  refine (HN.out).mono ?_
  rintro e w1 ⟨v, out, rfl, h1, h2, h3, h4, h5⟩
  have H := Lib.hid (And.intro h1 (And.intro h2 (And.intro h3 (And.intro h4 h5))))
  clear h1 h2 h3 h4 h5
  go_wp2_with fail
  go_ret
  obtain ⟨h1, h2, h3, h4, h5⟩ := H.out
  refine ⟨v, out, rfl, Joins.ownsRow_le h1 HB.out.size, h2, fun c => ?_, by simpa using h4, HB.out.trans (h5.mono HB.out.size)⟩
  rw [h3]
  congr 1
  simp only [memR, List.any_cons, List.any_nil, Bool.or_false]
  rw [Bool.eq_iff_iff]; simp; omega
end Go.Proofs.YtjmgboegipeijaaGreatDoor
