/- martelloref03.set: a list of ranges of pairs. -/
import Derived.Test.YtjmgboegipeijaaGreatDoorSetsOps
import Derived.Deep.AppendLies
import Derived.Deep.RegionLaw
namespace Go.Proofs.YtjmgboegipeijaaGreatDoor
open Go Go.RowKit Go.Proofs Go.Shelf

theorem cells_two_at (w : World) (B : Nat) (hB : w.heap.size = B) (a b : Value) (t : TypeId) : ∀ j u, [a, b][j]? = some u → (w.alloc (.cells #[a, b] t)).cell? ((⟨B, 0, none⟩ : Addr).add j) = some u := by
  subst hB; exact cell_two_new w a b t
theorem flatR_take (ps : List (Int × Int)) (k : Nat) (h : k < ps.length) : flatR (ps.take (k + 1)) = flatR (ps.take k) ++ [.int .i32 ps[k].1, .int .i32 ps[k].2] := by
  rw [take_snoc _ _ h, flatR_append]; simp [flatR]

set_option maxHeartbeats 1000000 in
set_option maxRecDepth 100000 in
theorem ref03_set (ps : List (Int × Int)) (b c : Nat) (w : World) (h : RangesAt w ps b 0) (hb : b < w.heap.size) (hN : ps.length ≤ 1000000000) :
    Calls Tryz.prog 79 #[.slice (some ⟨b, 0, none⟩) ps.length c] w fun e w' => ∃ v, e = .returned v ∧ Laid w w' ps v ∧ Below w.heap.size w w' := by
  obtain ⟨i0, hi, hz0, hz1, hz2⟩ := info_parts infoRange
  have H := Lib.hid h; clear h
  go_enter Tryz.func79, Tryz.ntmps79
  go_wp2_with fail
  go_loopw [3, 4] (fun v i wr => ∃ k : Nat, k ≤ ps.length ∧ i = .int .i64 k ∧ wr.ownsRow w.heap.size 78 2 v k (flatR (ps.take k)) ∧ Below w.heap.size w wr) (fun _ i _ => ps.length - (intOf i).toNat)
  case atStart => exact ⟨0, Nat.zero_le _, rfl, World.ownsRow_nil _ _ _ _, Below.refl _ _⟩
  case round =>
    obtain ⟨k, hk, rfl, ho, hbw⟩ := hrel
    by_cases hlt : k < ps.length
    · obtain ⟨g1, g2⟩ := (H.out.below hbw hb).get k hlt
      have HT := Lib.hid (flatR_take ps k hlt)
      obtain ⟨l, hl⟩ : ∃ l, ps[k].1 = l := ⟨_, rfl⟩
      obtain ⟨h, hh⟩ : ∃ h, ps[k].2 = h := ⟨_, rfl⟩
      rw [hl] at g1 HT; rw [hh] at g2 HT
      have c126 : Tryz.prog.cellsOf 126 = 2 := by kernel_rfl
      have HO := Lib.hid ho; have HB := Lib.hid hbw; have HBS := Lib.hid hbw.size
      rw [Nat.zero_add] at g1 g2
      clear hl hh ho hbw
      go_wp2_with fail
      go_region_law ((refine step_append_lies _ (by rfl) _ _ 24 (by rfl) w.heap.size 78 i0 (.agg #[.int .i32 0, .int .i32 0]) 2 8 Tryz.underlying24 hi hz0 hz1 hz2 rfl (by decide) _ _ _ (by rfl) (HO.out.alloc _) ⟨wr.heap.size, 0, none⟩ 1 1 [.int .i32 l, .int .i32 h] (by rfl) rfl (cells_two_at _ _ (by simp) _ _ _) (fun x hx => by simp at hx; rcases hx with rfl | rfl <;> rfl) (by decide) (by unfold maxLen; omega) (by omega) (by have := HBS.out; simp; omega) (wr.heap.size + 1) (by simp) ?_; intro g cap w3 hown' hgrow3 hat3 hlt3))
      all_goals (
        have HX := Lib.hid (And.intro hown' (show Below w.heap.size w w3 from Below.grown ((HB.out.trans (below_drewN (Below.refl _ _) 1)).alloc (by have := HBS.out; simp; omega) _) hgrow3 (by have := HBS.out; simp; omega) (fun j hj => (HO.out.lt j hj).1)))
        clear hown' hgrow3 hat3 hlt3
        simp only [Act.put, Array.setIfInBounds]
        go_simp
        go_wp2_with fail
        go_roundw
        case rel =>
          refine ⟨k + 1, hlt, by go_num, ?_, HX.out.2⟩
          rw [HT.out]; exact HX.out.1
        case measure => simp [intOf]; omega)
    · obtain rfl : k = ps.length := by omega
      rw [List.take_length] at ho
      have HO := Lib.hid ho; have HB := Lib.hid hbw; clear ho hbw
      go_wp2_with fail
      go_ret
      exact ⟨_, rfl, HO.out, HB.out⟩
end Go.Proofs.YtjmgboegipeijaaGreatDoor
