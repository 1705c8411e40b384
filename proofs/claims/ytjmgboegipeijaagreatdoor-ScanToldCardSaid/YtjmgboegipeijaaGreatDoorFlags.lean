/- A group's flags: scan.Flags. -/
import Derived.Test.YtjmgboegipeijaaGreatDoorNext
import Derived.BigRegion
import Derived.ScopeJumps
import Derived.LoopTactic
import Derived.Below
namespace Go.Proofs.YtjmgboegipeijaaGreatDoor
open Go Go.RowKit Go.Proofs

/-- A letter's flag. -/
def flagOf (c : Int) : Int := if c = 105 then 1 else if c = 109 then 4 else if c = 115 then 8 else if c = 85 then 16 else 0

theorem scan_flag (c : Int) (w : World) : Calls Tryz.prog 40 #[.int .i32 c] w fun e w' => e = .returned (.int .i64 (flagOf c)) ∧ w' = w := by
  go_enter Tryz.func40, Tryz.ntmps40
  go_wp2_with fail
  all_goals
    go_ret
    refine ⟨?_, rfl⟩
    simp only [beq_iff_eq, beq_eq_false_iff_ne, ne_eq] at *
    unfold flagOf
    simp [*]

/-- The letters, from a place on. -/
def flagsRun (s : ByteArray) : Nat → Nat → Int → Bool → Bool → Except Nat (Int × Bool × Nat)
  | 0, _, _, _, _ => .error s.size
  | k + 1, p, f, off, any =>
    if flagOf (nextC s p) ≠ 0 then
      if off then flagsRun s k (p + 1) (bits .andNot .i64 f (flagOf (nextC s p))) off true
      else flagsRun s k (p + 1) (bits .or .i64 f (flagOf (nextC s p))) off any
    else if nextC s p = 45 ∧ off = false then flagsRun s k (p + 1) f true any
    else if (nextC s p = 58 ∨ nextC s p = 41) ∧ off = any then .ok (f, decide (nextC s p = 58), p + 1)
    else .error (nextW s p)
/-- A group's flags at a place. -/
def flagsP (s : ByteArray) (at_ : Nat) (f : Int) : Except Nat (Int × Bool × Nat) :=
  if nextC s at_ ≠ 40 then .error (nextW s at_)
  else if nextC s (at_ + 1) ≠ 63 then .error (nextW s (at_ + 1))
  else flagsRun s (s.size + 1 - (at_ + 2)) (at_ + 2) f false false
def flagsV (at_ : Nat) : Except Nat (Int × Bool × Nat) → Value
  | .error n => .tuple #[.int .i64 0, .bool false, .int .i64 0, .agg #[.int .i64 65, .int .i64 at_, .int .i64 n]]
  | .ok (f, g, n) => .tuple #[.int .i64 f, .bool g, .int .i64 n, .agg #[.int .i64 0, .int .i64 0, .int .i64 0]]
/-- The place that a reader's block holds. -/
def placeOf (b : Nat) (w : World) : Nat := (intOf ((w.cell? ⟨b, 1, none⟩).getD (.int .i64 0))).toNat
theorem placeOf_rd {w : World} {b : Nat} {s : ByteArray} {p : Nat} {rest : List Value} {t : TypeId} (h : Rd w b s p rest t) : placeOf b w = p := by
  unfold placeOf; rw [h.c1]; simp [intOf]

/-- The end where the flags are read. -/
theorem flagsV_ok (p : Nat) (f : Int) (g : Bool) (n : Nat) : flagsV p (.ok (f, g, n)) = .tuple #[.int .i64 f, .bool g, .int .i64 n, .agg #[.int .i64 0, .int .i64 0, .int .i64 0]] := rfl
theorem flagsV_error (p n : Nat) : flagsV p (.error n) = .tuple #[.int .i64 0, .bool false, .int .i64 0, .agg #[.int .i64 65, .int .i64 p, .int .i64 n]] := rfl

/-- Where 'none' is jumped to: what the frame holds there. -/
def noneAct (s : ByteArray) (p : Nat) (b : Nat) (u : Nat → Value) : Act :=
  ⟨#[.string s, .int .i64 p, u 2, undef, undef, undef, u 6, u 7, u 8, .pointer (some ⟨b, 0, none⟩), .pointer (some ⟨b + 1, 0, none⟩), u 11, u 12, u 13, u 14, u 15, u 16, u 17, u 18, u 19, u 20, u 21, u 22, u 23, u 24, u 25, u 26, u 27, u 28, u 29, u 30, u 31, u 32, u 33, u 34, u 35, u 36, u 37, u 38, u 39, u 40, u 41, u 42, u 43, u 44, u 45, u 46, u 47, u 48, u 49, u 50, u 51, u 52, u 53, u 54, u 55, u 56, u 57, u 58, u 59, u 60, u 61, u 62, u 63, u 64, u 65, u 66, u 67, u 68, u 69, u 70, u 71, u 72, u 73, u 74, u 75, u 76, u 77, u 78], []⟩
def noneJ (s : ByteArray) (p : Nat) (f : Int) (w : World) (a : Act) (w' : World) : Prop :=
  ∃ u n, a = noneAct s p w.heap.size u ∧ flagsP s p f = .error n ∧ Blk w' w.heap.size [.int .i64 0, .int .i64 0, .int .i64 0] 30 ∧ Rd w' (w.heap.size + 1) s n [] 54 ∧ Below w.heap.size w w'

theorem flagOf_small {c : Int} (h : flagOf c ≠ 0) : 0 ≤ c ∧ c < 128 := by
  unfold flagOf at h
  repeat' split at h
  all_goals omega
theorem flagsRun_or {s : ByteArray} {q : Nat} (f : Int) (any : Bool) (h : flagOf (nextC s q) ≠ 0) :
    q + 1 ≤ s.size ∧ nextW s q = q + 1 ∧ flagsRun s (s.size + 1 - q) q f false any = flagsRun s (s.size + 1 - (q + 1)) (q + 1) (bits .or .i64 f (flagOf (nextC s q))) false any := by
  obtain ⟨h3, -, e3, -⟩ := nextC_small s q (flagOf_small h).1 (flagOf_small h).2
  refine ⟨h3, e3, ?_⟩
  rw [show s.size + 1 - q = (s.size + 1 - (q + 1)) + 1 by omega]
  simp [flagsRun, h]
theorem flagsRun_not {s : ByteArray} {q : Nat} (f : Int) (any : Bool) (h : flagOf (nextC s q) ≠ 0) :
    q + 1 ≤ s.size ∧ nextW s q = q + 1 ∧ flagsRun s (s.size + 1 - q) q f true any = flagsRun s (s.size + 1 - (q + 1)) (q + 1) (bits .andNot .i64 f (flagOf (nextC s q))) true true := by
  obtain ⟨h3, -, e3, -⟩ := nextC_small s q (flagOf_small h).1 (flagOf_small h).2
  refine ⟨h3, e3, ?_⟩
  rw [show s.size + 1 - q = (s.size + 1 - (q + 1)) + 1 by omega]
  simp [flagsRun, h]
theorem flagsRun_dash {s : ByteArray} {q : Nat} (f : Int) (any : Bool) (h : nextC s q = 45) :
    q + 1 ≤ s.size ∧ nextW s q = q + 1 ∧ flagsRun s (s.size + 1 - q) q f false any = flagsRun s (s.size + 1 - (q + 1)) (q + 1) f true any := by
  obtain ⟨h3, -, e3, -⟩ := nextC_small s q (by omega) (by omega)
  refine ⟨h3, e3, ?_⟩
  rw [show s.size + 1 - q = (s.size + 1 - (q + 1)) + 1 by omega]
  simp [flagsRun, h, show flagOf 45 = 0 from rfl]
theorem flagsRun_ok {s : ByteArray} {q : Nat} (f : Int) (off : Bool) (h : nextC s q = 58 ∨ nextC s q = 41) :
    q + 1 ≤ s.size ∧ nextW s q = q + 1 ∧ flagsRun s (s.size + 1 - q) q f off off = .ok (f, decide (nextC s q = 58), q + 1) := by
  obtain ⟨h3, -, e3, -⟩ := nextC_small s q (by omega) (by omega)
  refine ⟨h3, e3, ?_⟩
  rw [show s.size + 1 - q = (s.size + 1 - (q + 1)) + 1 by omega]
  rcases h with h | h <;> simp [flagsRun, h, show flagOf 58 = 0 from rfl, show flagOf 41 = 0 from rfl]
theorem flagsRun_bad {s : ByteArray} {q : Nat} (f : Int) (off any : Bool) (hq : q ≤ s.size) (h0 : flagOf (nextC s q) = 0) (h1 : ¬ (nextC s q = 45 ∧ off = false)) (h2 : ¬ ((nextC s q = 58 ∨ nextC s q = 41) ∧ off = any)) :
    flagsRun s (s.size + 1 - q) q f off any = .error (nextW s q) := by
  rw [show s.size + 1 - q = (s.size - q) + 1 by omega]
  unfold flagsRun
  rw [if_neg (by simpa using h0), if_neg h1, if_neg h2]
theorem jump_ret {l : Nat} {J : Act → World → Prop} {Q : Exit → Act → World → Prop} {a : Act} {w : World} : Exit.jump l J Q .ret a w = Q .ret a w := rfl
theorem noneJ_intro {s : ByteArray} {p : Nat} {f : Int} {w : World} {a : Act} {w' : World} {n : Nat} (hfr : a = noneAct s p w.heap.size (fun i => a.tmps.getD i undef)) (hF : flagsP s p f = .error n)
    (hX : Blk w' w.heap.size [.int .i64 0, .int .i64 0, .int .i64 0] 30) (hR : Rd w' (w.heap.size + 1) s n [] 54) (hB : Below w.heap.size w w') : noneJ s p f w a w' := ⟨_, n, hfr, hF, hX, hR, hB⟩

set_option maxHeartbeats 1000000 in
theorem scan_Flags (s : ByteArray) (p : Nat) (f : Int) (w : World) (hT : Tabs w) (hp : p ≤ s.size) (hs : s.size ≤ 140737488355328) :
    Calls Tryz.prog 18 #[.string s, .int .i64 p, .int .i64 f] w fun e w' => e = .returned (flagsV p (flagsP s p f)) ∧ Below w.heap.size w w' := by
  have hs' : s.size ≤ 1000000000000000 := by omega
  obtain ⟨W, hW⟩ : ∃ W, W = (w.alloc (.cells #[.int .i64 0, .int .i64 0, .int .i64 0] 30)).alloc (.cells #[.string s, .int .i64 p] 54) := ⟨_, rfl⟩
  have X0 := Lib.hid (show Blk W w.heap.size [.int .i64 0, .int .i64 0, .int .i64 0] 30 by rw [hW]; exact (Blk.new w [.int .i64 0, .int .i64 0, .int .i64 0] 30).alloc _)
  have R0 := Lib.hid (show Rd W (w.heap.size + 1) s p [] 54 by
    have h := Blk.new (w.alloc (.cells #[.int .i64 0, .int .i64 0, .int .i64 0] 30)) [.string s, .int .i64 p] 54
    rw [World.size_alloc] at h; rw [hW]; exact h)
  have T0 := Lib.hid (show Tabs W by rw [hW]; exact (hT.alloc _).alloc _)
  have B0 := Lib.hid (show Below w.heap.size w W by rw [hW]; exact ((Below.refl _ w).alloc (Nat.le_refl _) _).alloc (by simp) _)
  have hl := hT.lt
  clear hT
  go_enter Tryz.func18, Tryz.ntmps18
  go_wp2_with fail
  refine wp_scope_jumps 0 (noneJ s p f w) (fun _ _ => 0) rfl ?_ ?_
  · go_wp2_with fail
    rw [← hW]
    have HW := Lib.hid hW; clear hW
    refine (scan_next _ s p _ _ _ R0.out T0.out hp hs').mono ?_
    rintro e w1 ⟨rfl, hR, hG⟩
    have X1 := Lib.hid (X0.out.grown hG (ne_some (by omega)))
    have T1 := Lib.hid (T0.out.grown hG (by omega) (by omega))
    have R1 := Lib.hid hR; have B1 := Lib.hid (below_next B0.out (Nat.le_refl _) hG (fun k e => by cases e; omega)); clear hR hG
    have l1 := nextW_le s p hp
    by_cases c1 : nextC s p = 40
    · obtain ⟨h1, -, e1, -⟩ := nextC_small s p (by omega) (by omega)
      rw [e1] at R1 l1
      have HC1 := Lib.hid c1
      rw [c1]
      clear c1 e1
      go_wp2_with fail
      refine (scan_next _ s (p + 1) _ _ _ R1.out T1.out l1 hs').mono ?_
      rintro e w2 ⟨rfl, hR, hG⟩
      have X2 := Lib.hid (X1.out.grown hG (ne_some (by omega)))
      have T2 := Lib.hid (T1.out.grown hG (by omega) (by omega))
      have R2 := Lib.hid hR; have B2 := Lib.hid (below_next B1.out (Nat.le_refl _) hG (fun k e => by cases e; omega)); clear hR hG
      by_cases c2 : nextC s (p + 1) = 63
      · obtain ⟨h2, -, e2, -⟩ := nextC_small s (p + 1) (by omega) (by omega)
        rw [e2] at R2
        have HF := Lib.hid (show flagsP s p f = flagsRun s (s.size + 1 - (p + 2)) (p + 2) f false false by unfold flagsP; rw [if_neg (by simp [HC1.out]), if_neg (by simp [c2])])
        have HC2 := Lib.hid c2
        rw [c2]
        clear c2 e2
        have l2 : p + 1 + 1 ≤ s.size := h2
        go_wp2_with fail
        go_loopw [2, 11, 12] (fun fv ov av wr => ∃ (q : Nat) (fz : Int) (ob ab : Bool), q ≤ s.size ∧ fv = .int .i64 fz ∧ ov = .bool ob ∧ av = .bool ab ∧ Rd wr (w.heap.size + 1) s q [] 54 ∧
          Blk wr w.heap.size [.int .i64 0, .int .i64 0, .int .i64 0] 30 ∧ Tabs wr ∧ Below w.heap.size w wr ∧ flagsP s p f = flagsRun s (s.size + 1 - q) q fz ob ab) (fun _ _ _ wr => s.size - placeOf (w.heap.size + 1) wr)
        case atStart => exact ⟨p + 1 + 1, f, false, false, l2, rfl, rfl, rfl, R2.out, X2.out, T2.out, B2.out, HF.out⟩
        case round =>
          obtain ⟨q, fz, ob, ab, hq, rfl, rfl, rfl, hR, hX, hT, hB, hF⟩ := hrel
          have HX := Lib.hid hX; have HR := Lib.hid hR; have HT := Lib.hid hT; have HB := Lib.hid hB; have HFF := Lib.hid hF
          clear hX hR hT hB hF
          go_wp2_with fail
          refine (scan_next _ s q _ _ _ HR.out HT.out hq hs').mono ?_
          rintro e w3 ⟨rfl, hR, hG⟩
          have X3 := Lib.hid (HX.out.grown hG (ne_some (by omega)))
          have T3 := Lib.hid (HT.out.grown hG (by omega) (by omega))
          have R3 := Lib.hid hR; have B3 := Lib.hid (below_next HB.out (Nat.le_refl _) hG (fun k e => by cases e; omega)); clear hR hG
          have PL := Lib.hid (placeOf_rd HR.out)
          obtain ⟨C, hC⟩ : ∃ C, nextC s q = C := ⟨_, rfl⟩
          by_cases c3 : flagOf C = 0
          · have c3' : (flagOf C != 0) = false := by simpa using c3
            by_cases c4 : C = 45 ∧ ob = false
            · obtain ⟨c4, rfl⟩ := c4
              obtain ⟨hq', e3, hs3⟩ := flagsRun_dash (s := s) (q := q) fz ab (by omega)
              rw [hC] at *
              have FF := Lib.hid (HFF.out.trans hs3); clear hs3
              rw [e3] at R3
              have HC := Lib.hid hC; clear hC e3 c3
              subst c4
              go_wp2_with fail
              refine (scan_flag _ _).mono ?_
              rintro e w4 ⟨rfl, rfl⟩
              go_wp2_with fail
              go_roundw
              case rel => exact ⟨q + 1, fz, true, ab, hq', rfl, rfl, rfl, R3.out, X3.out, T3.out, B3.out, FF.out⟩
              case measure => rw [PL.out, placeOf_rd R3.out]; omega
            · by_cases c5 : (C = 58 ∨ C = 41) ∧ ob = ab
              · obtain ⟨c5, rfl⟩ := c5
                obtain ⟨hq', e3, hs3⟩ := flagsRun_ok (s := s) (q := q) fz ob (by rw [hC]; exact c5)
                rw [hC] at *
                have FF := Lib.hid (HFF.out.trans hs3); clear hs3
                rw [e3] at R3
                have HC := Lib.hid hC; clear hC e3 c3
                have r1 := Rd.c1 R3.out
                have x0 := Blk.cell X3.out (j := 0) rfl; have x1 := Blk.cell X3.out (j := 1) rfl; have x2 := Blk.cell X3.out (j := 2) rfl
                have y0 := X3.out.frozen 0; have y1 := X3.out.frozen 1; have y2 := X3.out.frozen 2
                have d1 : decide (C = 45) = false := by simp; rcases c5 with h | h <;> omega
                clear c4
                rcases c5 with rfl | rfl
                · go_wp2_with fail
                  refine (scan_flag _ _).mono ?_
                  rintro e w4 ⟨rfl, rfl⟩
                  go_wp2_with fail
                  go_region
                  go_wp2_with fail
                  rw [jump_ret]
                  refine bodyPost_ret (v := .tuple #[.int .i64 fz, .bool true, .int .i64 (q + 1 : Nat), .agg #[.int .i64 0, .int .i64 0, .int .i64 0]]) ?_ rfl ⟨?_, ?_⟩
                  · simp [results, Tryz.results18, go_sem, x0, x1, x2]
                  · rw [FF.out]; rfl
                  · exact (((B3.out.setCell (Nat.le_refl _) _).setCell (Nat.le_refl _) _).setCell (Nat.le_refl _) _).drew
                · go_wp2_with fail
                  refine (scan_flag _ _).mono ?_
                  rintro e w4 ⟨rfl, rfl⟩
                  go_wp2_with fail
                  go_region
                  go_wp2_with fail
                  rw [jump_ret]
                  refine bodyPost_ret (v := .tuple #[.int .i64 fz, .bool false, .int .i64 (q + 1 : Nat), .agg #[.int .i64 0, .int .i64 0, .int .i64 0]]) ?_ rfl ⟨?_, ?_⟩
                  · simp [results, Tryz.results18, go_sem, x0, x1, x2]
                  · rw [FF.out]; rfl
                  · exact (((B3.out.setCell (Nat.le_refl _) _).setCell (Nat.le_refl _) _).setCell (Nat.le_refl _) _).drew
              · have FF := Lib.hid (HFF.out.trans (flagsRun_bad (s := s) (q := q) fz ob ab hq (by rw [hC]; exact c3) (by rw [hC]; exact c4) (by rw [hC]; exact c5)))
                rw [hC]
                have HC := Lib.hid hC; clear hC c3
                by_cases d1 : C = 45
                · subst d1
                  have ho : ob = true := by cases ob with | true => rfl | false => exact absurd ⟨rfl, rfl⟩ c4
                  subst ho
                  clear c4 c5
                  go_wp2_with fail
                  refine (scan_flag _ _).mono ?_
                  rintro e w4 ⟨rfl, rfl⟩
                  go_wp2_with fail
                  go_step3
                  exact ⟨rfl, noneJ_intro rfl FF.out X3.out R3.out B3.out⟩
                · by_cases d2 : C = 58
                  · subst d2
                    have ho : (ob == ab) = false := by simpa using c5
                    clear c4 c5
                    go_wp2_with fail
                    refine (scan_flag _ _).mono ?_
                    rintro e w4 ⟨rfl, rfl⟩
                    go_wp2_with fail
                    go_step3
                    exact ⟨rfl, noneJ_intro rfl FF.out X3.out R3.out B3.out⟩
                  · by_cases d3 : C = 41
                    · subst d3
                      have ho : (ob == ab) = false := by simpa using c5
                      clear c4 c5
                      go_wp2_with fail
                      refine (scan_flag _ _).mono ?_
                      rintro e w4 ⟨rfl, rfl⟩
                      go_wp2_with fail
                      go_step3
                      exact ⟨rfl, noneJ_intro rfl FF.out X3.out R3.out B3.out⟩
                    · clear c4 c5
                      go_wp2_with fail
                      refine (scan_flag _ _).mono ?_
                      rintro e w4 ⟨rfl, rfl⟩
                      go_wp2_with fail
                      go_step3
                      exact ⟨rfl, noneJ_intro rfl FF.out X3.out R3.out B3.out⟩
          · have c3' : (flagOf C != 0) = true := by simpa using c3
            cases ob
            · obtain ⟨hq', e3, hs3⟩ := flagsRun_or (s := s) (q := q) fz ab (by rw [hC]; exact c3)
              rw [hC] at *
              have FF := Lib.hid (HFF.out.trans hs3); clear hs3
              rw [e3] at R3
              have HC := Lib.hid hC; clear hC e3 c3
              go_wp2_with fail
              refine (scan_flag _ _).mono ?_
              rintro e w4 ⟨rfl, rfl⟩
              go_wp2_with fail
              go_roundw
              case rel => exact ⟨q + 1, _, false, ab, hq', rfl, rfl, rfl, R3.out, X3.out, T3.out, B3.out, FF.out⟩
              case measure => rw [PL.out, placeOf_rd R3.out]; omega
            · obtain ⟨hq', e3, hs3⟩ := flagsRun_not (s := s) (q := q) fz ab (by rw [hC]; exact c3)
              rw [hC] at *
              have FF := Lib.hid (HFF.out.trans hs3); clear hs3
              rw [e3] at R3
              have HC := Lib.hid hC; clear hC e3 c3
              go_wp2_with fail
              refine (scan_flag _ _).mono ?_
              rintro e w4 ⟨rfl, rfl⟩
              go_wp2_with fail
              go_roundw
              case rel => exact ⟨q + 1, _, true, true, hq', rfl, rfl, rfl, R3.out, X3.out, T3.out, B3.out, FF.out⟩
              case measure => rw [PL.out, placeOf_rd R3.out]; omega
      · have HF := Lib.hid (show flagsP s p f = .error (nextW s (p + 1)) by unfold flagsP; rw [if_neg (by simp [HC1.out]), if_pos c2])
        have c2' : (nextC s (p + 1) != 63) = true := by simpa using c2
        clear c2
        go_wp2_with fail
        go_step3
        exact ⟨rfl, noneJ_intro rfl HF.out X2.out R2.out B2.out⟩
    · have HF := Lib.hid (show flagsP s p f = .error (nextW s p) by unfold flagsP; rw [if_pos c1])
      have c1' : (nextC s p != 40) = true := by simpa using c1
      clear c1
      go_wp2_with fail
      go_step3
      exact ⟨rfl, noneJ_intro rfl HF.out X1.out R1.out B1.out⟩
  · rintro a wc ⟨u, n, rfl, HF, hX, hR, hB⟩
    have HF := Lib.hid HF
    have r1 := Rd.c1 hR
    have x0 := Blk.cell hX (j := 0) rfl; have x1 := Blk.cell hX (j := 1) rfl; have x2 := Blk.cell hX (j := 2) rfl
    have y0 := hX.frozen 0; have y1 := hX.frozen 1; have y2 := hX.frozen 2
    have BB := Lib.hid hB
    clear hX hR hB
    unfold noneAct
    go_wp2_with fail
    go_region
    go_wp2_with fail
    rw [jump_ret]
    refine bodyPost_ret (v := .tuple #[.int .i64 0, .bool false, .int .i64 0, .agg #[.int .i64 65, .int .i64 p, .int .i64 n]]) ?_ rfl ⟨?_, ?_⟩
    · simp [results, Tryz.results18, go_sem, x0, x1, x2]
    · rw [HF.out]; rfl
    · exact (((BB.out.setCell (Nat.le_refl _) _).setCell (Nat.le_refl _) _).setCell (Nat.le_refl _) _).drew
end Go.Proofs.YtjmgboegipeijaaGreatDoor
