/- martelloref06.SameEsc at two that are alike. -/
import Derived.Test.YtjmgboegipeijaaGreatDoorEscSpec
import Derived.Test.YtjmgboegipeijaaGreatDoorPairSet03
import Derived.Deep.QuietTactic
import Derived.BigQuiet
import Derived.LoopTactic
namespace Go.Proofs.YtjmgboegipeijaaGreatDoor
open Go Go.RowKit Go.Proofs Go.Shelf

set_option maxRecDepth 100000 in
set_option maxHeartbeats 4000000 in
theorem same_esc (k r a : Int) (l : List (Int × Int)) (sa sb : Option Addr) (ca cb B : Nat) (w : World) (ha : RangesV w B l sa l.length ca) (hb : RangesV w B l sb l.length cb) (hB : B ≤ w.heap.size) (hl : l.length ≤ 1000) :
    Calls Tryz.prog 13 #[.agg #[.int .i64 k, .int .i32 r, .slice sa l.length ca, .int .i64 a], .agg #[.int .i64 k, .int .i32 r, .slice sb l.length cb, .int .i64 a]] w fun e w' => e = .returned (.bool true) ∧ Below w.heap.size w w' := by
  obtain ⟨W, hW⟩ : ∃ W, W = (w.alloc (.cells #[.int .i64 k, .int .i32 r, .slice sa l.length ca, .int .i64 a] 27)).alloc (.cells #[.int .i64 k, .int .i32 r, .slice sb l.length cb, .int .i64 a] 27) := ⟨_, rfl⟩
  have X0 := Lib.hid (show Blk W w.heap.size [.int .i64 k, .int .i32 r, .slice sa l.length ca, .int .i64 a] 27 by rw [hW]; exact (Blk.new w [.int .i64 k, .int .i32 r, .slice sa l.length ca, .int .i64 a] 27).alloc _)
  have Y0 := Lib.hid (show Blk W (w.heap.size + 1) [.int .i64 k, .int .i32 r, .slice sb l.length cb, .int .i64 a] 27 by
    have h := Blk.new (w.alloc (.cells #[.int .i64 k, .int .i32 r, .slice sa l.length ca, .int .i64 a] 27)) [.int .i64 k, .int .i32 r, .slice sb l.length cb, .int .i64 a] 27
    rw [World.size_alloc] at h; rw [hW]; exact h)
  have B0 := Lib.hid (show Below w.heap.size w W by rw [hW]; exact ((Below.refl _ w).alloc (Nat.le_refl _) _).alloc (by simp) _)
  have RA := Lib.hid (ha.below (B0.out.mono hB)); have RB := Lib.hid (hb.below (B0.out.mono hB))
  have HL := Lib.hid hl
  clear ha hb hl
  go_enter Tryz.func13, Tryz.ntmps13
  have x0 := Blk.cell X0.out (j := 0) rfl; have x1 := Blk.cell X0.out (j := 1) rfl; have x2 := Blk.cell X0.out (j := 2) rfl; have x3 := Blk.cell X0.out (j := 3) rfl
  have y0 := Blk.cell Y0.out (j := 0) rfl; have y1 := Blk.cell Y0.out (j := 1) rfl; have y2 := Blk.cell Y0.out (j := 2) rfl; have y3 := Blk.cell Y0.out (j := 3) rfl
  rw [hW] at x0 x1 x2 x3 y0 y1 y2 y3
  go_wp2_with fail
  go_loopw [5] (fun iv wr => ∃ i : Nat, i ≤ l.length ∧ iv = .int .i64 i ∧ Blk wr w.heap.size [.int .i64 k, .int .i32 r, .slice sa l.length ca, .int .i64 a] 27 ∧ Blk wr (w.heap.size + 1) [.int .i64 k, .int .i32 r, .slice sb l.length cb, .int .i64 a] 27 ∧ RangesV wr B l sa l.length ca ∧ RangesV wr B l sb l.length cb ∧ Below w.heap.size w wr) (fun iv _ => l.length - (intOf iv).toNat)
  case atStart => exact ⟨0, Nat.zero_le _, rfl, by rw [← hW]; exact X0.out, by rw [← hW]; exact Y0.out, by rw [← hW]; exact RA.out, by rw [← hW]; exact RB.out, by rw [← hW]; exact B0.out⟩
  case round =>
    obtain ⟨i, hi, rfl, hx, hy, ra, rb, hbl⟩ := hrel
    have HX := Lib.hid hx; have HY := Lib.hid hy; have HRA := Lib.hid ra; have HRB := Lib.hid rb; have HBL := Lib.hid hbl
    have z2 := Blk.cell hx (j := 2) rfl; have t2 := Blk.cell hy (j := 2) rfl
    clear hx hy ra rb hbl x0 x1 x2 x3 y0 y1 y2 y3
    have hl := HL.out
    by_cases hlt : i < l.length
    · obtain ⟨b1, o1, rfl, hb1, r1⟩ : ∃ b o, sa = some ⟨b, o, none⟩ ∧ b < B ∧ RangesAt wr l b o := by
        rcases HRA.out.2.2 with h | h
        · omega
        · exact h
      obtain ⟨b2, o2, rfl, hb2, r2⟩ : ∃ b o, sb = some ⟨b, o, none⟩ ∧ b < B ∧ RangesAt wr l b o := by
        rcases HRB.out.2.2 with h | h
        · omega
        · exact h
      obtain ⟨p1, p2⟩ := r1.get i hlt
      obtain ⟨q1, q2⟩ := r2.get i hlt
      obtain ⟨lo, hlo⟩ : ∃ lo, l[i].1 = lo := ⟨_, rfl⟩
      obtain ⟨hx, hhx⟩ : ∃ hx, l[i].2 = hx := ⟨_, rfl⟩
      rw [hlo] at p1 q1; rw [hhx] at p2 q2
      clear hlo hhx r1 r2
      have hlt' : (i : Int) < (l.length : Int) := by omega
      have hwi : IntKind.i64.wrap ((i : Int) + 1) = (i : Int) + 1 := by rw [IntKind.wrap_i64]; omega
      go_wp2_with fail
      go_quiet (fail)
      go_wp2_with fail
      go_roundw
      case rel => exact ⟨i + 1, hlt, by go_num, HX.out.drewN nq, HY.out.drewN nq, HRA.out.below (below_drewN (Below.refl B wr) nq), HRB.out.below (below_drewN (Below.refl B wr) nq), below_drewN HBL.out nq⟩
      case measure => simp [intOf]; omega
    · obtain rfl : i = l.length := by omega
      go_wp2_with fail
      go_ret
      exact ⟨rfl, HBL.out⟩
end Go.Proofs.YtjmgboegipeijaaGreatDoor
