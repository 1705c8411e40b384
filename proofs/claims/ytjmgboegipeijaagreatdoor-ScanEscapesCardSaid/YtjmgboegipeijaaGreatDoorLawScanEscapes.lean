/- ScanEscapes: what any text has at any place as an escape is the document's: the law's walk. -/
import Derived.Test.YtjmgboegipeijaaGreatDoorEscGo
import Derived.Test.YtjmgboegipeijaaGreatDoorEscRef
import Derived.Test.YtjmgboegipeijaaGreatDoorSameEsc
import Derived.Test.YtjmgboegipeijaaGreatDoorHead06
namespace Go.Proofs.YtjmgboegipeijaaGreatDoor
open Go Go.RowKit Go.Proofs Go.Shelf

/-- The set that an answer bears. -/
def EscL (r : EscR) (l : List (Int × Int)) : Prop := match r with
  | .set f _ => IsSet l f
  | _ => l = []
theorem EscL.unique {r : EscR} {l l' : List (Int × Int)} (h : EscL r l) (h' : EscL r l') : l = l' := by
  cases r with
  | wrong e f t => exact h.trans h'.symm
  | lit k r a q => exact h.trans h'.symm
  | set f q => exact IsSet.unique h h'
/-- An answer's numbers. -/
def EscN (r : EscR) : Int × Int × Int × Int × Int × Int × Int := match r with
  | .wrong e f t => (0, 0, 0, 0, e, f, t)
  | .lit k r a q => (k, r, a, q, 0, 0, 0)
  | .set _ q => (2, 0, 0, q, 0, 0, 0)
theorem EscOut.form {w w' : World} {r : EscR} {e : Ending} (h : EscOut w r e w') {k rr a q x f t : Int} (hn : EscN r = (k, rr, a, q, x, f, t)) :
    ∃ l sa ca, e = .returned (.tuple #[.agg #[.int .i64 k, .int .i32 rr, .slice sa l.length ca, .int .i64 a], .int .i64 q, .agg #[.int .i64 x, .int .i64 f, .int .i64 t]]) ∧ EscL r l ∧ l.length ≤ 1000 ∧ RangesV w' w'.heap.size l sa l.length ca ∧ Below w.heap.size w w' := by
  cases r with
  | wrong e f t => cases hn; exact ⟨[], none, 0, h.1, rfl, by simp, ⟨rfl, ⟨Nat.le_refl _, by simp⟩, .inl rfl⟩, h.2⟩
  | lit k r a q => cases hn; exact ⟨[], none, 0, h.1, rfl, by simp, ⟨rfl, ⟨Nat.le_refl _, by simp⟩, .inl rfl⟩, h.2⟩
  | set f q =>
    cases hn
    obtain ⟨v, out, rfl, h1, h2, h3, h4⟩ := h
    obtain ⟨sa, sc, rfl, hr, _⟩ := h1.ranges (by omega)
    exact ⟨out, sa, sc, rfl, h2, h3, hr, h4⟩
theorem escN_ex (r : EscR) : ∃ k rr a q x f t, EscN r = (k, rr, a, q, x, f, t) := ⟨_, _, _, _, _, _, _, rfl⟩

set_option maxRecDepth 100000 in
set_option maxHeartbeats 4000000 in
theorem law_scanEscapes (s : ByteArray) (p : Int) (b : Bool) (w : World) (hT : Tabs w) (hs : s.size ≤ 140737488355328) :
    Calls Tryz.prog 3 #[.string s, .int .i64 p, .bool b] w fun e w' => e = .returned (.bool true) ∧ Below w.heap.size w w' := by
  have HT := Lib.hid hT; clear hT
  by_cases h1 : p < 0
  · go_enter Tryz.func3, Tryz.ntmps3
    go_wp2_with fail
    refine (head06 w).mono ?_
    rintro e w1 ⟨rfl, hB⟩
    have B1 := Lib.hid hB; clear hB
    go_wp2_with fail
    go_ret
    exact ⟨rfl, B1.out⟩
  · by_cases h2 : (s.size : Int) < p
    · go_enter Tryz.func3, Tryz.ntmps3
      go_wp2_with fail
      refine (head06 w).mono ?_
      rintro e w1 ⟨rfl, hB⟩
      have B1 := Lib.hid hB; clear hB
      go_wp2_with fail
      go_ret
      exact ⟨rfl, B1.out⟩
    · obtain ⟨q, rfl⟩ : ∃ q : Nat, p = q := ⟨p.toNat, by omega⟩
      have hq : q ≤ s.size := by omega
      obtain ⟨K, R, A, QQ, X, F, T, hN⟩ := escN_ex (escP s q b)
      have HE1 := Lib.hid (fun W (hT : Tabs W) => (scan_Escape s q b W hT hq hs).mono fun e w' h => h.form hN)
      have HE2 := Lib.hid (fun W (hT : Tabs W) => (ref06_Escape s q b W hT hq hs).mono fun e w' h => h.form hN)
      clear hN
      go_enter Tryz.func3, Tryz.ntmps3
      go_wp2_with fail
      refine (head06 w).mono ?_
      rintro e w1 ⟨rfl, hB⟩
      have T1 := Lib.hid (HT.out.below hB)
      have B1 := Lib.hid hB; clear hB
      go_wp2_with fail
      refine (HE1.out _ T1.out).mono ?_
      rintro e w2 ⟨l, sa, ca, rfl, hl, hn, hr, hB⟩
      have T2 := Lib.hid (T1.out.below hB)
      have B2 := Lib.hid (below_then B1.out hB); clear hB
      obtain ⟨W3, hW3⟩ : ∃ W3, W3 = (w2.alloc (.cells #[.int .i64 K, .int .i32 R, .slice sa l.length ca, .int .i64 A] 27)).alloc (.cells #[.int .i64 X, .int .i64 F, .int .i64 T] 30) := ⟨_, rfl⟩
      have X3 := Lib.hid (show Blk W3 w2.heap.size [.int .i64 K, .int .i32 R, .slice sa l.length ca, .int .i64 A] 27 by rw [hW3]; exact (Blk.new w2 [.int .i64 K, .int .i32 R, .slice sa l.length ca, .int .i64 A] 27).alloc _)
      have Y3 := Lib.hid (show Blk W3 (w2.heap.size + 1) [.int .i64 X, .int .i64 F, .int .i64 T] 30 by
        have h := Blk.new (w2.alloc (.cells #[.int .i64 K, .int .i32 R, .slice sa l.length ca, .int .i64 A] 27)) [.int .i64 X, .int .i64 F, .int .i64 T] 30
        rw [World.size_alloc] at h; rw [hW3]; exact h)
      have hb23 := (show Below w2.heap.size w2 W3 by rw [hW3]; exact ((Below.refl _ w2).alloc (Nat.le_refl _) _).alloc (by simp) _)
      have R3 := Lib.hid (hr.below hb23)
      have T3 := Lib.hid (T2.out.below hb23)
      have B3 := Lib.hid (below_then B2.out hb23)
      have HL := Lib.hid hl; have HN := Lib.hid hn
      have Z3 := Lib.hid hb23.size
      obtain ⟨N2, hN2⟩ : ∃ N2, N2 = w2.heap.size := ⟨_, rfl⟩
      rw [← hN2] at X3 Y3 R3 Z3
      clear hl hn hr hb23
      go_wp2_with fail
      rw [← hW3, ← hN2]
      clear hW3 hN2
      refine (HE2.out _ T3.out).mono ?_
      rintro e w4 ⟨l2, sb, cb, rfl, hl2, hn2, hr2, hB⟩
      obtain rfl : l2 = l := hl2.unique HL.out
      have X4 := Lib.hid (X3.out.below hB X3.out.lt); have Y4 := Lib.hid (Y3.out.below hB Y3.out.lt)
      have R4 := Lib.hid ((R3.out.below (hB.mono Z3.out)).mono (Nat.le_trans Z3.out hB.size)); have S4 := Lib.hid hr2
      have B4 := Lib.hid (below_then B3.out hB)
      have Z4 := Lib.hid (show N2 < w4.heap.size ∧ N2 + 1 < w4.heap.size from ⟨X4.out.lt, Y4.out.lt⟩)
      clear hl2 hn2 hr2 hB
      obtain ⟨W5, hW5⟩ : ∃ W5, W5 = (w4.alloc (.cells #[.int .i64 K, .int .i32 R, .slice sb l2.length cb, .int .i64 A] 27)).alloc (.cells #[.int .i64 X, .int .i64 F, .int .i64 T] 30) := ⟨_, rfl⟩
      have hb45 := (show Below w4.heap.size w4 W5 by rw [hW5]; exact ((Below.refl _ w4).alloc (Nat.le_refl _) _).alloc (by simp) _)
      have X5 := Lib.hid (X4.out.below hb45 X4.out.lt); have Y5 := Lib.hid (Y4.out.below hb45 Y4.out.lt)
      have P5 := Lib.hid (show Blk W5 w4.heap.size [.int .i64 K, .int .i32 R, .slice sb l2.length cb, .int .i64 A] 27 by rw [hW5]; exact (Blk.new w4 [.int .i64 K, .int .i32 R, .slice sb l2.length cb, .int .i64 A] 27).alloc _)
      have Q5 := Lib.hid (show Blk W5 (w4.heap.size + 1) [.int .i64 X, .int .i64 F, .int .i64 T] 30 by
        have h := Blk.new (w4.alloc (.cells #[.int .i64 K, .int .i32 R, .slice sb l2.length cb, .int .i64 A] 27)) [.int .i64 X, .int .i64 F, .int .i64 T] 30
        rw [World.size_alloc] at h; rw [hW5]; exact h)
      have HS := Lib.hid (same_esc K R A l2 sa sb ca cb w4.heap.size W5 (R4.out.below hb45) (S4.out.below hb45) hb45.size HN.out)
      have B5 := Lib.hid (below_then B4.out hb45)
      have x0 := Blk.cell X5.out (j := 0) rfl; have x1 := Blk.cell X5.out (j := 1) rfl; have x2 := Blk.cell X5.out (j := 2) rfl; have x3 := Blk.cell X5.out (j := 3) rfl
      have p0 := Blk.cell P5.out (j := 0) rfl; have p1 := Blk.cell P5.out (j := 1) rfl; have p2 := Blk.cell P5.out (j := 2) rfl; have p3 := Blk.cell P5.out (j := 3) rfl
      rw [hW5] at x0 x1 x2 x3 p0 p1 p2 p3
      clear hb45
      go_wp2_with fail
      rw [← hW5]
      clear x0 x1 x2 x3 p0 p1 p2 p3 hW5
      refine (HS.out).mono ?_
      rintro e w6 ⟨rfl, hB⟩
      have y := Y5.out.below hB Y5.out.lt; have z := Q5.out.below hB Q5.out.lt
      have y0 := Blk.cell y (j := 0) rfl; have y1 := Blk.cell y (j := 1) rfl; have y2 := Blk.cell y (j := 2) rfl
      have z0 := Blk.cell z (j := 0) rfl; have z1 := Blk.cell z (j := 1) rfl; have z2 := Blk.cell z (j := 2) rfl
      have B6 := Lib.hid (below_then B5.out hB)
      clear hB y z
      go_wp2_with fail
      go_ret
      exact ⟨rfl, B6.out⟩
end Go.Proofs.YtjmgboegipeijaaGreatDoor
