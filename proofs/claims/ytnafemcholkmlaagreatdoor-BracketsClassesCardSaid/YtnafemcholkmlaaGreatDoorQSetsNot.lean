/- Sets of runes: sets.Not, as a contract. classes.turned and classes.Dot. martelloref03.set: a list of ranges of pairs. -/
import Derived.Test.YtnafemcholkmlaaGreatDoorQSetsOps
import Derived.Deep.AppendLies
import Derived.Deep.RegionLaw
namespace Go.Proofs.YtnafemcholkmlaaGreatDoor
open Go Go.RowKit Go.Proofs Go.Shelf

theorem not_is (n : Int) (W : World) : Calls Tryz.prog 41 #[.int .i64 n] W fun e w' => e = .returned (.bool (decide (n = 0))) ∧ Below W.heap.size W w' := by
  go_enter Tryz.func41, Tryz.ntmps41
  go_wp2
  go_ret
  exact ⟨by by_cases h : n = 0 <;> simp [h], Below.refl _ _⟩

set_option maxHeartbeats 1000000 in
theorem sets_Not (rs : List (Int × Int)) (sa : Option Addr) (sn sc B : Nat) (w : World) (h : RangesV w B rs sa sn sc) (hB : B ≤ w.heap.size) (hN : rs.length ≤ 1000000000000) :
    Calls Tryz.prog 23 #[.slice sa sn sc] w (SetOf w (fun c => !memR rs c) (2 * rs.length + 1)) := by
  have hl := ListsAt.one hB h 24
  have hee : Calls Tryz.prog 40 #[.slice (some ⟨w.heap.size, 0, none⟩) 1 1] (w.alloc (.cells #[.slice sa sn sc] 24)) _ := edges_any [rs] w.heap.size 1 B (w.alloc (.cells #[.slice sa sn sc] 24)) hl (by simp) (by simp; omega) (by simp) (by have := edgesOf_length [rs]; simp at this; omega)
  have HE := Lib.hid hee; clear hee hl
  go_enter Tryz.func23, Tryz.ntmps23
  go_wp2_with fail
  refine (HE.out).mono ?_
  rintro e w1 ⟨v, es, rfl, hp, hs, hrow, hb⟩
  obtain ⟨ea, ec, rfl, hv⟩ := EdgesV.of_row hrow
  obtain ⟨s1, s2, s3, s4⟩ := swept (fun n => decide (n = 0)) [rs] es hp hs
  have hel : es.length ≤ 4000000000000 := by have := hp.length_eq; have h2 := edgesOf_length [rs]; simp at h2; omega
  have hth := those_any (fun n => decide (n = 0)) 41 (enters_of Tryz.func41 (by kernel_rfl) rfl) not_is es ea ec w1.heap.size w1 hv (Nat.le_refl _) s4 hel
  have HT := Lib.hid hth
  have HS := Lib.hid (And.intro s1 (And.intro s2 s3)); have HB := Lib.hid hb
  clear hth s1 s2 s3 s4 hp hs hrow hb hv hel
  go_wp2_with fail
  refine (HT.out).mono ?_
  rintro e w2 ⟨v, rfl, hrow2, hb2⟩
  have HR2 := Lib.hid hrow2; have HB2 := Lib.hid hb2
  clear hrow2 hb2
  go_wp2_with fail
  have hb0 : Below w.heap.size w w1 := ((Below.refl _ w).alloc (Nat.le_refl _) _).trans (HB.out.mono (by simp))
  go_ret
  refine ⟨v, _, rfl, ?_, HS.out.1, ?_, ?_, hb0.trans (HB2.out.mono hb0.size)⟩
  · exact Joins.ownsRow_le HR2.out hb0.size
  · intro c; rw [HS.out.2.1]; simp only [List.flatten_cons, List.flatten_nil, List.append_nil, coverN_zero]
  · have := HS.out.2.2; simpa using this
end Go.Proofs.YtnafemcholkmlaaGreatDoor

namespace Go.Proofs.YtnafemcholkmlaaGreatDoor
open Go Go.RowKit Go.Proofs Go.Shelf

/-- A set, as members tell it. -/
def IsSet (out : List (Int × Int)) (p : Int → Bool) : Prop := setRight out = true ∧ ∀ c, memR out c = (decide (0 ≤ c) && decide (c ≤ 1114111) && p c)
theorem IsSet.unique {a b : List (Int × Int)} {p : Int → Bool} (ha : IsSet a p) (hb : IsSet b p) : a = b := set_unique ha.1 hb.1 fun c => by rw [ha.2, hb.2]
theorem IsSet.of_right {l : List (Int × Int)} (h : setRight l = true) : IsSet l (memR l) := by
  refine ⟨h, fun c => ?_⟩
  cases hx : memR l c with
  | false => simp
  | true =>
    have := memR_bound h hx
    rw [decide_eq_true (show 0 ≤ c by omega), decide_eq_true this.2]; rfl
theorem IsSet.congr {a : List (Int × Int)} {p q : Int → Bool} (ha : IsSet a p) (h : ∀ c, 0 ≤ c → c ≤ 1114111 → p c = q c) : IsSet a q := by
  refine ⟨ha.1, fun c => ?_⟩
  rw [ha.2]
  by_cases h0 : 0 ≤ c ∧ c ≤ 1114111
  · rw [h c h0.1 h0.2]
  · have : (decide (0 ≤ c) && decide (c ≤ 1114111)) = false := by
      rw [Bool.and_eq_false_iff, decide_eq_false_iff_not, decide_eq_false_iff_not]; omega
    simp [this]

set_option maxHeartbeats 1000000 in
theorem turned_keep (sa : Option Addr) (sn sc b5 b3 : Nat) (w : World) (h5 : Boxed w b5 4 (.bool false)) (h3 : Boxed w b3 24 (.slice sa sn sc)) :
    Calls Tryz.prog 105 #[.pointer (some ⟨b5, 0, none⟩), .pointer (some ⟨b3, 0, none⟩)] w fun e w' => e = .returned (.slice sa sn sc) ∧ Below w.heap.size w w' := by
  have u5 := h5.cell; have u3 := h3.cell
  clear h5 h3
  go_enter Tryz.func105, Tryz.ntmps105
  go_wp2_with fail
  go_ret
  exact ⟨rfl, Below.refl _ _⟩
set_option maxHeartbeats 1000000 in
theorem turned_turn (rs : List (Int × Int)) (sa : Option Addr) (sn sc b5 b3 B : Nat) (w : World) (h5 : Boxed w b5 4 (.bool true)) (h3 : Boxed w b3 24 (.slice sa sn sc)) (h : RangesV w B rs sa sn sc) (hB : B ≤ w.heap.size) (hN : rs.length ≤ 1000000000000) :
    Calls Tryz.prog 105 #[.pointer (some ⟨b5, 0, none⟩), .pointer (some ⟨b3, 0, none⟩)] w (SetOf w (fun c => !memR rs c) (2 * rs.length + 1)) := by
  have u5 := h5.cell; have u3 := h3.cell
  have HN := Lib.hid (sets_Not rs sa sn sc B w h hB hN)
  clear h5 h3 h
  go_enter Tryz.func105, Tryz.ntmps105
  go_wp2_with fail
  refine (HN.out).mono ?_
  rintro e w1 ⟨v, out, rfl, hh⟩
  have H := Lib.hid hh; clear hh
  go_wp2_with fail
  go_ret
  exact ⟨v, out, rfl, H.out⟩

set_option maxHeartbeats 1000000 in
theorem turned_no (sa : Option Addr) (sn sc : Nat) (nb : Bool) (w : World) :
    Calls Tryz.prog 74 #[.slice sa sn sc, .bool false, .bool nb] w fun e w' => e = .returned (.tuple #[.slice none 0 0, .bool false]) ∧ Below w.heap.size w w' := by
  go_enter Tryz.func74, Tryz.ntmps74
  go_wp2_with fail
  go_ret2
  exact ⟨rfl, ((Below.refl _ w).alloc (Nat.le_refl _) _).alloc (by simp) _⟩

theorem turned_boxes (w : World) (v : Value) (nb : Bool) : Boxed ((w.alloc (.cells #[v] 24)).alloc (.cells #[.bool nb] 4)) w.heap.size 24 v ∧ Boxed ((w.alloc (.cells #[v] 24)).alloc (.cells #[.bool nb] 4)) (w.heap.size + 1) 4 (.bool nb) ∧
    Below w.heap.size w ((w.alloc (.cells #[v] 24)).alloc (.cells #[.bool nb] 4)) := by
  refine ⟨(Boxed.new w 24 v).alloc _, ?_, ((Below.refl _ w).alloc (Nat.le_refl _) _).alloc (by simp) _⟩
  have := Boxed.new (w.alloc (.cells #[v] 24)) 4 (.bool nb)
  rw [World.size_alloc] at this; exact this

set_option maxHeartbeats 1000000 in
theorem turned_same (sa : Option Addr) (sn sc : Nat) (w : World) :
    Calls Tryz.prog 74 #[.slice sa sn sc, .bool true, .bool false] w fun e w' => e = .returned (.tuple #[.slice sa sn sc, .bool true]) ∧ Below w.heap.size w w' := by
  obtain ⟨b1, b2, b3⟩ := turned_boxes w (.slice sa sn sc) false
  have HC := Lib.hid (turned_keep sa sn sc (w.heap.size + 1) w.heap.size _ b2 b1)
  have HB := Lib.hid b3
  clear b1 b2 b3
  go_enter Tryz.func74, Tryz.ntmps74
  go_wp2_with fail
  refine (HC.out).mono ?_
  rintro e w1 ⟨rfl, hb⟩
  have HB1 := Lib.hid hb; clear hb
  go_wp2_with fail
  go_ret2
  exact ⟨rfl, HB.out.trans (HB1.out.mono HB.out.size)⟩

/-- What a set, turned, is. -/
def TurnR (w : World) (p : Int → Bool) (N : Nat) (e : Ending) (w' : World) : Prop :=
  ∃ v out, e = .returned (.tuple #[v, .bool true]) ∧ Laid w w' out v ∧ IsSet out p ∧ out.length ≤ N ∧ Below w.heap.size w w'

set_option maxHeartbeats 1000000 in
theorem turned_not (rs : List (Int × Int)) (sa : Option Addr) (sn sc B : Nat) (w : World) (h : RangesV w B rs sa sn sc) (hB : B ≤ w.heap.size) (hN : rs.length ≤ 1000000000000) :
    Calls Tryz.prog 74 #[.slice sa sn sc, .bool true, .bool true] w (TurnR w (fun c => !memR rs c) (2 * rs.length + 1)) := by
  obtain ⟨b1, b2, b3⟩ := turned_boxes w (.slice sa sn sc) true
  have HC := Lib.hid (turned_turn rs sa sn sc (w.heap.size + 1) w.heap.size B _ b2 b1 (h.below (b3.mono hB)) (Nat.le_trans hB b3.size) hN)
  have HB := Lib.hid b3
  clear b1 b2 b3 h
  go_enter Tryz.func74, Tryz.ntmps74
  go_wp2_with fail
  refine (HC.out).mono ?_
  rintro e w1 ⟨v, out, rfl, h1, h2, h3, h4, h5⟩
  have H := Lib.hid (And.intro h1 (And.intro h2 (And.intro h3 (And.intro h4 h5))))
  clear h1 h2 h3 h4 h5
  go_wp2_with fail
  go_ret2
  obtain ⟨h1, h2, h3, h4, h5⟩ := H.out
  exact ⟨v, out, rfl, Joins.ownsRow_le h1 HB.out.size, ⟨h2, h3⟩, h4, HB.out.trans (h5.mono HB.out.size)⟩

set_option maxHeartbeats 1000000 in
theorem dot_all (w : World) : Calls Tryz.prog 112 #[.bool true] w (SetOf w (fun _ => true) 1) := by
  have HN := Lib.hid (sets_Not [] none 0 0 w.heap.size w (RangesV.nil w _) (Nat.le_refl _) (by simp))
  go_enter Tryz.func112, Tryz.ntmps112
  go_wp2_with fail
  refine (HN.out).mono ?_
  rintro e w1 ⟨v, out, rfl, h1, h2, h3, h4, h5⟩
  have H := Lib.hid (And.intro h1 (And.intro h2 (And.intro h3 (And.intro h4 h5))))
  clear h1 h2 h3 h4 h5
  go_wp2_with fail
  go_ret
  obtain ⟨h1, h2, h3, h4, h5⟩ := H.out
  exact ⟨v, out, rfl, h1, h2, fun c => by rw [h3]; simp [memR], by simpa using h4, h5⟩
set_option maxHeartbeats 1000000 in
theorem dot_line (w : World) : Calls Tryz.prog 112 #[.bool false] w (SetOf w (fun c => decide (c ≠ 10)) 3) := by
  have hr : RangesAt (w.alloc (.cells (flatR [(10, 10)]).toArray 43)) [(10, 10)] w.heap.size 0 := RangesAt.of_cells _ 0 fun j hj => ⟨by rw [Nat.zero_add]; exact (Blk.new w (flatR [(10, 10)]) 43).cell (flatR_get _ j hj).1, by rw [Nat.zero_add]; exact (Blk.new w (flatR [(10, 10)]) 43).cell (flatR_get _ j hj).2⟩
  have hb := (Below.refl w.heap.size w).alloc (Nat.le_refl _) (.cells (flatR [(10, 10)]).toArray 43)
  have HN := Lib.hid (sets_Not [(10, 10)] (some ⟨w.heap.size, 0, none⟩) 1 1 (w.heap.size + 1) _ ⟨rfl, ⟨Nat.le_refl _, by omega⟩, .inr ⟨_, _, rfl, by omega, hr⟩⟩ (by simp) (by simp))
  have HB := Lib.hid hb
  clear hr hb
  go_enter Tryz.func112, Tryz.ntmps112
  go_wp2_with fail
  refine (HN.out).mono ?_
  rintro e w1 ⟨v, out, rfl, h1, h2, h3, h4, h5⟩
  have H := Lib.hid (And.intro h1 (And.intro h2 (And.intro h3 (And.intro h4 h5))))
  clear h1 h2 h3 h4 h5
  go_wp2_with fail
  go_ret
  obtain ⟨h1, h2, h3, h4, h5⟩ := H.out
  refine ⟨v, out, rfl, Joins.ownsRow_le h1 HB.out.size, h2, fun c => ?_, by simpa using h4, HB.out.trans (h5.mono HB.out.size)⟩
  rw [h3]
  congr 1
  simp only [memR, List.any_cons, List.any_nil, Bool.or_false]
  rw [Bool.eq_iff_iff]; simp; omega
end Go.Proofs.YtnafemcholkmlaaGreatDoor

namespace Go.Proofs.YtnafemcholkmlaaGreatDoor
open Go Go.RowKit Go.Proofs Go.Shelf

theorem cells_two_at (w : World) (B : Nat) (hB : w.heap.size = B) (a b : Value) (t : TypeId) : ∀ j u, [a, b][j]? = some u → (w.alloc (.cells #[a, b] t)).cell? ((⟨B, 0, none⟩ : Addr).add j) = some u := by
  subst hB; exact cell_two_new w a b t
theorem flatR_take (ps : List (Int × Int)) (k : Nat) (h : k < ps.length) : flatR (ps.take (k + 1)) = flatR (ps.take k) ++ [.int .i32 ps[k].1, .int .i32 ps[k].2] := by
  rw [take_snoc _ _ h, flatR_append]; simp [flatR]

set_option maxHeartbeats 1000000 in
set_option maxRecDepth 100000 in
theorem ref03_set (ps : List (Int × Int)) (b c : Nat) (w : World) (h : RangesAt w ps b 0) (hb : b < w.heap.size) (hN : ps.length ≤ 1000000000) :
    Calls Tryz.prog 45 #[.slice (some ⟨b, 0, none⟩) ps.length c] w fun e w' => ∃ v, e = .returned v ∧ Laid w w' ps v ∧ Below w.heap.size w w' := by
  obtain ⟨i0, hi, hz0, hz1, hz2⟩ := info_parts infoRange
  have H := Lib.hid h; clear h
  go_enter Tryz.func45, Tryz.ntmps45
  go_wp2_with fail
  go_loopw [3, 4] (fun v i wr => ∃ k : Nat, k ≤ ps.length ∧ i = .int .i64 k ∧ wr.ownsRow w.heap.size 43 2 v k (flatR (ps.take k)) ∧ Below w.heap.size w wr) (fun _ i _ => ps.length - (intOf i).toNat)
  case atStart => exact ⟨0, Nat.zero_le _, rfl, World.ownsRow_nil _ _ _ _, Below.refl _ _⟩
  case round =>
    obtain ⟨k, hk, rfl, ho, hbw⟩ := hrel
    by_cases hlt : k < ps.length
    · obtain ⟨g1, g2⟩ := (H.out.below hbw hb).get k hlt
      have HT := Lib.hid (flatR_take ps k hlt)
      obtain ⟨l, hl⟩ : ∃ l, ps[k].1 = l := ⟨_, rfl⟩
      obtain ⟨h, hh⟩ : ∃ h, ps[k].2 = h := ⟨_, rfl⟩
      rw [hl] at g1 HT; rw [hh] at g2 HT
      have c126 : Tryz.prog.cellsOf 71 = 2 := by kernel_rfl
      have HO := Lib.hid ho; have HB := Lib.hid hbw; have HBS := Lib.hid hbw.size
      rw [Nat.zero_add] at g1 g2
      clear hl hh ho hbw
      go_wp2_with fail
      go_region_law ((refine step_append_lies _ (by rfl) _ _ 24 (by rfl) w.heap.size 43 i0 (.agg #[.int .i32 0, .int .i32 0]) 2 8 Tryz.underlying24 hi hz0 hz1 hz2 rfl (by decide) _ _ _ (by rfl) (HO.out.alloc _) ⟨wr.heap.size, 0, none⟩ 1 1 [.int .i32 l, .int .i32 h] (by rfl) rfl (cells_two_at _ _ (by simp) _ _ _) (fun x hx => by simp at hx; rcases hx with rfl | rfl <;> rfl) (by decide) (by unfold maxLen; omega) (by omega) (by have := HBS.out; simp; omega) (wr.heap.size + 1) (by simp) ?_; intro g cap w3 hown' hgrow3 hat3 hlt3))
      all_goals (
        have HX := Lib.hid (And.intro hown' (show Below w.heap.size w w3 from Below.grown ((HB.out.trans (below_drewN (Below.refl _ _) 1)).alloc (by have := HBS.out; simp; omega) _) hgrow3 (by have := HBS.out; simp; omega) (fun j hj => (HO.out.lt j hj).1)))
        clear hown' hgrow3 hat3 hlt3
        simp only [Act.put, Array.setIfInBounds]
        go_simp
        go_wp2_with fail
        go_roundw
        case rel =>
          refine ⟨k + 1, hlt, by go_num, ?_, HX.out.2⟩
          rw [HT.out]; exact HX.out.1
        case measure => simp [intOf]; omega)
    · obtain rfl : k = ps.length := by omega
      rw [List.take_length] at ho
      have HO := Lib.hid ho; have HB := Lib.hid hbw; clear ho hbw
      go_wp2_with fail
      go_ret
      exact ⟨_, rfl, HO.out, HB.out⟩
end Go.Proofs.YtnafemcholkmlaaGreatDoor
