/- A group's flags: the document's. -/
import Derived.Test.YtjmgboegipeijaaGreatDoorFlags
namespace Go.Proofs.YtjmgboegipeijaaGreatDoor
open Go Go.RowKit Go.Proofs

theorem ref06_flag (c : Int) (w : World) : Calls Tryz.prog 41 #[.int .u8 c] w fun e w' => e = .returned (.int .i64 (flagOf c)) ∧ w' = w := by
  go_enter Tryz.func41, Tryz.ntmps41
  go_wp2_with fail
  all_goals
    go_ret
    refine ⟨?_, rfl⟩
    simp only [beq_iff_eq, beq_eq_false_iff_ne, ne_eq] at *
    unfold flagOf
    simp [*]

theorem ref06_wrong (a b c : Int) (w : World) : Calls Tryz.prog 30 #[.int .i64 a, .int .i64 b, .int .i64 c] w fun e w' => e = .returned (.agg #[.int .i64 a, .int .i64 b, .int .i64 c]) ∧ Below w.heap.size w w' := by
  go_enter Tryz.func30, Tryz.ntmps30
  go_wp2_with fail
  have k := Blk.new w [.int .i64 a, .int .i64 b, .int .i64 c] 30
  have k0 := Blk.cell k (j := 0) rfl; have k1 := Blk.cell k (j := 1) rfl; have k2 := Blk.cell k (j := 2) rfl
  exact bodyPost_ret (v := .agg #[.int .i64 a, .int .i64 b, .int .i64 c]) (by simp [results, Tryz.results30, go_sem, k0, k1, k2]) rfl ⟨rfl, (Below.refl _ w).alloc (Nat.le_refl _) _⟩

/-- A byte and the rune that begins with it answer small questions alike. -/
theorem next_byte {s : ByteArray} {q : Nat} (h : q < s.size) {c : Int} (hc : c < 128) (h0 : 0 ≤ c) : nextC s q = c ↔ ((s[q]'h).toNat : Int) = c := by
  by_cases hx : (s[q]'h).toNat < 128
  · rw [(nextC_ascii s q h hx).1]
  · have := nextC_high s q h (by omega)
    constructor <;> intro e <;> omega
theorem next_flag {s : ByteArray} {q : Nat} (h : q < s.size) : flagOf (nextC s q) = flagOf ((s[q]'h).toNat : Int) := by
  unfold flagOf
  simp only [next_byte h (show (105 : Int) < 128 by omega) (by omega), next_byte h (show (109 : Int) < 128 by omega) (by omega), next_byte h (show (115 : Int) < 128 by omega) (by omega), next_byte h (show (85 : Int) < 128 by omega) (by omega)]

/-- Where the document's loop stands. -/
def refRel (s : ByteArray) (p : Nat) (f : Int) (q : Nat) (fz : Int) (ob : Bool) (n : Nat) : Prop :=
  (q = p ∧ n = 0 ∧ ob = false ∧ fz = f) ∨ (q = p + 1 ∧ n = 0 ∧ ob = false ∧ fz = f ∧ nextC s p = 40) ∨ (p + 2 ≤ q ∧ flagsP s p f = flagsRun s (s.size + 1 - q) q fz ob (decide (0 < n)))

theorem refRel_end {s : ByteArray} {p : Nat} {f : Int} {q : Nat} {fz : Int} {ob : Bool} {n : Nat} (h : refRel s p f q fz ob n) (hq : s.size = q) : flagsP s p f = .error s.size := by
  have hn := nextC_end s q (by omega)
  rcases h with ⟨rfl, -⟩ | ⟨rfl, -, -, -, h40⟩ | ⟨-, h⟩
  · unfold flagsP; rw [if_pos (by rw [hn.1]; omega), hn.2, hq]
  · unfold flagsP; rw [if_neg (by simp [h40]), if_pos (by rw [hn.1]; omega), hn.2, hq]
  · rw [h, flagsRun_bad fz ob _ (by omega) (by rw [hn.1]; rfl) (by rw [hn.1]; omega) (by rw [hn.1]; omega), hn.2, hq]

set_option maxRecDepth 100000 in
set_option maxHeartbeats 1000000 in
theorem ref06_Flags (s : ByteArray) (p : Nat) (f : Int) (w : World) (hT : Tabs w) (hp : p ≤ s.size) (hs : s.size ≤ 140737488355328) :
    Calls Tryz.prog 19 #[.string s, .int .i64 p, .int .i64 f] w fun e w' => e = .returned (flagsV p (flagsP s p f)) ∧ Below w.heap.size w w' := by
  obtain ⟨W, hW⟩ : ∃ W, W = (w.alloc (.cells #[.int .i64 0, .int .i64 0, .int .i64 0] 30)) := ⟨_, rfl⟩
  have X0 := Lib.hid (show Blk W w.heap.size [.int .i64 0, .int .i64 0, .int .i64 0] 30 by rw [hW]; exact (Blk.new w [.int .i64 0, .int .i64 0, .int .i64 0] 30))
  have T0 := Lib.hid (show Tabs W by rw [hW]; exact (hT.alloc _))
  have B0 := Lib.hid (show Below w.heap.size w W by rw [hW]; exact ((Below.refl _ w).alloc (Nat.le_refl _) _))
  have hl := hT.lt
  clear hT
  go_enter Tryz.func19, Tryz.ntmps19
  go_wp2_with fail
  rw [← hW]
  have HW := Lib.hid hW; clear hW
  go_loopw [2, 10, 11, 12] (fun fv iv ov nv wr => ∃ (q : Nat) (fz : Int) (ob : Bool) (n : Nat), q ≤ s.size ∧ n ≤ q ∧ (ob = false → n = 0) ∧ fv = .int .i64 fz ∧ iv = .int .i64 q ∧ ov = .bool ob ∧ nv = .int .i64 n ∧
    Blk wr w.heap.size [.int .i64 0, .int .i64 0, .int .i64 0] 30 ∧ Tabs wr ∧ Below w.heap.size w wr ∧ refRel s p f q fz ob n) (fun _ i _ _ _ => s.size - (intOf i).toNat)
  case atStart => exact ⟨p, f, false, 0, hp, Nat.zero_le _, fun _ => rfl, rfl, rfl, rfl, rfl, X0.out, T0.out, B0.out, .inl ⟨rfl, rfl, rfl, rfl⟩⟩
  case round =>
    obtain ⟨q, fz, ob, n, hq, hn, hob, rfl, rfl, rfl, rfl, hX, hT, hB, hF⟩ := hrel
    have HX := Lib.hid hX; have HT := Lib.hid hT; have HB := Lib.hid hB; have HFF := Lib.hid hF; have HO := Lib.hid hob
    clear hX hT hB hF hob
    have hmin : min (q : Int) (s.size : Int) = q := by omega
    go_wp2_with fail
    refine (Tryz.utf8_DecodeRuneInString (tail s q) _ HT.out).mono ?_
    rintro e w1 ⟨rfl, hB1⟩
    have hDle := Lib.decodeGo_le_size (tail s q)
    have hDle4 := Lib.decodeGo_le4 (tail s q)
    rw [tail_size] at hDle
    have X1 := Lib.hid (Blk.below HX.out hB1 HX.out.lt); have T1 := Lib.hid (HT.out.below hB1); have B1 := Lib.hid (below_next HB.out (Nat.le_refl _) (grownBy_below hB1 none) (by simp)); clear hB1
    have hNW : q < s.size → q + (Lib.decodeGo (tail s q)).2 = nextW s q := fun h => by rw [decodeGo_tail s q h]; unfold nextW; rw [if_pos h]
    generalize Lib.decodeGo (tail s q) = D at hDle hDle4 hNW ⊢
    obtain ⟨d1, d2⟩ := D
    simp only at hDle hDle4 hNW
    have HNW := Lib.hid hNW; clear hNW
    have hmin2 : min ((q : Int) + (d2 : Int)) (s.size : Int) = ((q + d2 : Nat) : Int) := by omega
    go_wp2_with fail
    refine (ref06_wrong _ _ _ _).mono ?_
    rintro e w2 ⟨rfl, hB2⟩
    obtain ⟨W3, hW3⟩ : ∃ W3, W3 = w2.alloc (.cells #[.int .i64 65, .int .i64 p, .int .i64 ((q : Int) + (d2 : Int))] 30) := ⟨_, rfl⟩
    have Y3 := (show Blk W3 w2.heap.size [.int .i64 65, .int .i64 p, .int .i64 ((q : Int) + (d2 : Int))] 30 by rw [hW3]; exact Blk.new _ _ _)
    have X3 := Lib.hid (show Blk W3 w.heap.size [.int .i64 0, .int .i64 0, .int .i64 0] 30 by rw [hW3]; exact (Blk.below X1.out hB2 X1.out.lt).alloc _)
    have T3 := Lib.hid (show Tabs W3 by rw [hW3]; exact (T1.out.below hB2).alloc _)
    have B3 := Lib.hid (show Below w.heap.size w W3 by rw [hW3]; exact (below_next B1.out (Nat.le_refl _) (grownBy_below hB2 none) (by simp)).alloc (Nat.le_trans (Nat.le_trans (by have := X1.out.lt; omega) hB2.size) (Nat.le_refl _)) _)
    have z0 := Blk.cell Y3 (j := 0) rfl; have z1 := Blk.cell Y3 (j := 1) rfl; have z2 := Blk.cell Y3 (j := 2) rfl
    have x0 := Blk.cell X3.out (j := 0) rfl; have x1 := Blk.cell X3.out (j := 1) rfl; have x2 := Blk.cell X3.out (j := 2) rfl
    have y0 := X3.out.frozen 0; have y1 := X3.out.frozen 1; have y2 := X3.out.frozen 2
    have HW3 := Lib.hid hW3
    clear hB2 Y3 hW3
    by_cases hlt : q < s.size
    · have hq' : ¬ (s.size : Int) ≤ (q : Int) := by omega
      have HN := Lib.hid (HNW.out hlt)
      rcases HFF.out with ⟨rfl, rfl, rfl, rfl⟩ | ⟨rfl, rfl, rfl, rfl, h40⟩ | ⟨h2, hF⟩
      · by_cases hx : (s[q]'hlt).toNat = 40
        · have HH := Lib.hid ((next_byte hlt (show (40 : Int) < 128 by omega) (by omega)).2 (by rw [hx]; rfl))
          go_wp2_with fail
          go_roundw
          case rel => exact ⟨q + 1, _, false, 0, hlt, Nat.zero_le _, fun _ => rfl, rfl, by go_num, rfl, rfl, by rw [← HW3.out]; exact X3.out, by rw [← HW3.out]; exact T3.out, by rw [← HW3.out]; exact B3.out, .inr (.inl ⟨rfl, rfl, rfl, rfl, HH.out⟩)⟩
          case measure => simp [intOf]; omega
        · have h4 : nextC s q ≠ 40 := by
            intro h
            have := (next_byte hlt (show (40 : Int) < 128 by omega) (by omega)).1 h
            omega
          have FF := Lib.hid (show flagsP s q fz = .error (q + d2) by rw [HN.out]; unfold flagsP; rw [if_pos h4])
          clear h4
          have hx' : (((s[q]'hlt).toNat : Int) != ((({ data := #[40, 63] } : ByteArray)[0]'(by decide)).toNat : Int)) = true := bne_iff_ne.2 fun h => hx (by rw [show ((({ data := #[40, 63] } : ByteArray)[0]'(by decide)).toNat : Int) = 40 from rfl] at h; omega)
          go_wp2_with fail
          rw [← HW3.out]
          go_region
          go_wp2_with fail
          exact bodyPost_ret (v := .tuple #[.int .i64 0, .bool false, .int .i64 0, .agg #[.int .i64 65, .int .i64 q, .int .i64 ((q : Int) + (d2 : Int))]]) (by simp [results, Tryz.results19, go_sem, x0, x1, x2]) rfl ⟨by rw [FF.out]; rfl, (((B3.out.setCell (Nat.le_refl _) _).setCell (Nat.le_refl _) _).setCell (Nat.le_refl _) _).drew⟩
      · have HH := Lib.hid h40; clear h40
        have HW4 := Lib.hid (show W3 = w2.alloc (.cells #[.int .i64 65, .int .i64 p, .int .i64 ((p : Int) + 1 + (d2 : Int))] 30) from HW3.out)
        by_cases hx : (s[p + 1]'hlt).toNat = 63
        · have HH2 := Lib.hid ((next_byte hlt (show (63 : Int) < 128 by omega) (by omega)).2 (by rw [hx]; rfl))
          go_wp2_with fail
          go_roundw
          case rel => exact ⟨p + 1 + 1, _, false, 0, hlt, Nat.zero_le _, fun _ => rfl, rfl, by go_num, rfl, rfl, by rw [← HW4.out]; exact X3.out, by rw [← HW4.out]; exact T3.out, by rw [← HW4.out]; exact B3.out, .inr (.inr ⟨Nat.le_refl _, by unfold flagsP; rw [if_neg (by simp [HH.out]), if_neg (by simp [HH2.out])]; rfl⟩)⟩
          case measure => simp [intOf]; omega
        · have h6 : nextC s (p + 1) ≠ 63 := by
            intro h
            have := (next_byte hlt (show (63 : Int) < 128 by omega) (by omega)).1 h
            omega
          have FF := Lib.hid (show flagsP s p fz = .error (p + 1 + d2) by rw [HN.out]; unfold flagsP; rw [if_neg (by simp [HH.out]), if_pos h6])
          clear h6
          have hx' : (((s[p + 1]'hlt).toNat : Int) != ((({ data := #[40, 63] } : ByteArray)[1]'(by decide)).toNat : Int)) = true := bne_iff_ne.2 fun h => hx (by rw [show ((({ data := #[40, 63] } : ByteArray)[1]'(by decide)).toNat : Int) = 63 from rfl] at h; omega)
          go_wp2_with fail
          rw [← HW4.out]
          go_region
          go_wp2_with fail
          exact bodyPost_ret (v := .tuple #[.int .i64 0, .bool false, .int .i64 0, .agg #[.int .i64 65, .int .i64 p, .int .i64 (((p + 1 : Nat) : Int) + (d2 : Int))]]) (by simp [results, Tryz.results19, go_sem, x0, x1, x2]) rfl ⟨by rw [FF.out]; rfl, (((B3.out.setCell (Nat.le_refl _) _).setCell (Nat.le_refl _) _).setCell (Nat.le_refl _) _).drew⟩
      · have hF2 := Lib.hid hF; clear hF
        have h2' : ¬ (q : Int) < (p : Int) + 2 := by omega
        have hfl := next_flag hlt
        obtain ⟨x, hx⟩ : ∃ x, s[q]'hlt = x := ⟨_, rfl⟩
        have NBx : ∀ c : Int, c < 128 → 0 ≤ c → (nextC s q = c ↔ ((x.toNat : Nat) : Int) = c) := fun c h h0 => by rw [← hx]; exact next_byte hlt h h0
        rw [hx] at hfl
        have HNB := Lib.hid NBx; clear NBx
        have g45 : (flagOf 45 != 0) = false := rfl
        have g58 : (flagOf 58 != 0) = false := rfl
        have g41 : (flagOf 41 != 0) = false := rfl
        by_cases c1 : flagOf (x.toNat : Int) = 0
        · have c1' : (flagOf (x.toNat : Int) != 0) = false := by simpa using c1
          by_cases c2 : x.toNat = 45 ∧ ob = false
          · obtain ⟨c2, rfl⟩ := c2
            have hn0 := HO.out rfl
            subst hn0
            obtain ⟨hq1, -, e⟩ := flagsRun_dash (s := s) (q := q) fz (decide (0 < 0)) ((HNB.out 45 (by omega) (by omega)).2 (by omega))
            have FF := Lib.hid (hF2.out.trans e)
            clear e hfl c1
            go_wp2_with fail
            try rw [hx]
            refine (ref06_flag _ _).mono ?_
            rintro e w4 ⟨rfl, rfl⟩
            go_wp2_with fail
            refine (ref06_flag _ _).mono ?_
            rintro e w4 ⟨rfl, rfl⟩
            go_wp2_with fail
            go_roundw
            case rel => exact ⟨q + 1, _, true, 0, hq1, by omega, (fun h => by cases h), rfl, by go_num, rfl, rfl, by rw [← HW3.out]; exact X3.out, by rw [← HW3.out]; exact T3.out, by rw [← HW3.out]; exact B3.out, .inr (.inr ⟨by omega, FF.out⟩)⟩
            case measure => simp [intOf]; omega
          · by_cases c3 : (x.toNat = 58 ∨ x.toNat = 41) ∧ ob = decide (0 < n)
            · obtain ⟨c3, c4⟩ := c3
              have c5 : nextC s q = 58 ∨ nextC s q = 41 := c3.imp (fun h => (HNB.out 58 (by omega) (by omega)).2 (by omega)) (fun h => (HNB.out 41 (by omega) (by omega)).2 (by omega))
              obtain ⟨hq1, -, e⟩ := flagsRun_ok (s := s) (q := q) fz ob c5
              have FF := Lib.hid (hF2.out.trans ((congrArg (flagsRun s (s.size + 1 - q) q fz ob) c4.symm).trans (e.trans (show _ = Except.ok (fz, decide (x.toNat = 58), q + 1) by rw [decide_eq_decide.2 ((HNB.out 58 (by omega) (by omega)).trans (⟨fun h => by omega, fun h => by omega⟩ : _ ↔ x.toNat = 58))]))))
              clear e hfl c1 c5 c2
              rcases Nat.eq_zero_or_pos n with hn0 | hn0
              · subst hn0
                simp only [Nat.lt_irrefl, decide_false] at c4
                subst c4
                rcases c3 with c3 | c3
                · rw [c3] at FF
                  go_wp2_with fail
                  try rw [hx]
                  refine (ref06_flag _ _).mono ?_
                  rintro e w4 ⟨rfl, rfl⟩
                  go_wp2_with fail
                  refine (ref06_flag _ _).mono ?_
                  rintro e w4 ⟨rfl, rfl⟩
                  rw [← HW3.out]
                  go_wp2_with fail
                  refine bodyPost_ret (v := .tuple #[.int .i64 fz, .bool true, .int .i64 (q + 1 : Nat), .agg #[.int .i64 0, .int .i64 0, .int .i64 0]]) (by simp [results, Tryz.results19, go_sem, x0, x1, x2]) rfl ⟨by rw [FF.out]; rfl, (((B3.out.setCell (Nat.le_refl _) _).setCell (Nat.le_refl _) _).setCell (Nat.le_refl _) _)⟩
                · rw [c3] at FF
                  go_wp2_with fail
                  try rw [hx]
                  refine (ref06_flag _ _).mono ?_
                  rintro e w4 ⟨rfl, rfl⟩
                  go_wp2_with fail
                  refine (ref06_flag _ _).mono ?_
                  rintro e w4 ⟨rfl, rfl⟩
                  rw [← HW3.out]
                  go_wp2_with fail
                  refine bodyPost_ret (v := .tuple #[.int .i64 fz, .bool false, .int .i64 (q + 1 : Nat), .agg #[.int .i64 0, .int .i64 0, .int .i64 0]]) (by simp [results, Tryz.results19, go_sem, x0, x1, x2]) rfl ⟨by rw [FF.out]; rfl, (((B3.out.setCell (Nat.le_refl _) _).setCell (Nat.le_refl _) _).setCell (Nat.le_refl _) _)⟩
              · simp only [hn0, decide_true] at c4
                subst c4
                have hn0' : (0 : Int) < (n : Int) := by omega
                rcases c3 with c3 | c3
                · rw [c3] at FF
                  go_wp2_with fail
                  try rw [hx]
                  refine (ref06_flag _ _).mono ?_
                  rintro e w4 ⟨rfl, rfl⟩
                  go_wp2_with fail
                  refine (ref06_flag _ _).mono ?_
                  rintro e w4 ⟨rfl, rfl⟩
                  rw [← HW3.out]
                  go_wp2_with fail
                  refine bodyPost_ret (v := .tuple #[.int .i64 fz, .bool true, .int .i64 (q + 1 : Nat), .agg #[.int .i64 0, .int .i64 0, .int .i64 0]]) (by simp [results, Tryz.results19, go_sem, x0, x1, x2]) rfl ⟨by rw [FF.out]; rfl, (((B3.out.setCell (Nat.le_refl _) _).setCell (Nat.le_refl _) _).setCell (Nat.le_refl _) _)⟩
                · rw [c3] at FF
                  go_wp2_with fail
                  try rw [hx]
                  refine (ref06_flag _ _).mono ?_
                  rintro e w4 ⟨rfl, rfl⟩
                  go_wp2_with fail
                  refine (ref06_flag _ _).mono ?_
                  rintro e w4 ⟨rfl, rfl⟩
                  rw [← HW3.out]
                  go_wp2_with fail
                  refine bodyPost_ret (v := .tuple #[.int .i64 fz, .bool false, .int .i64 (q + 1 : Nat), .agg #[.int .i64 0, .int .i64 0, .int .i64 0]]) (by simp [results, Tryz.results19, go_sem, x0, x1, x2]) rfl ⟨by rw [FF.out]; rfl, (((B3.out.setCell (Nat.le_refl _) _).setCell (Nat.le_refl _) _).setCell (Nat.le_refl _) _)⟩
            · have FF := Lib.hid (show flagsP s p f = .error (q + d2) by
                rw [HN.out, hF2.out]
                refine flagsRun_bad fz ob _ hq (by rw [hfl]; exact c1) (fun h => c2 ⟨?_, h.2⟩) (fun h => c3 ⟨?_, h.2⟩)
                · have := (HNB.out 45 (by omega) (by omega)).1 h.1; omega
                · exact h.1.imp (fun h => by have := (HNB.out 58 (by omega) (by omega)).1 h; omega) (fun h => by have := (HNB.out 41 (by omega) (by omega)).1 h; omega))
              clear hfl c1
              by_cases k1 : x.toNat = 45
              · have ho : ob = true := by cases ob with | true => rfl | false => exact absurd ⟨k1, rfl⟩ c2
                subst ho
                clear c2 c3
                go_wp2_with fail
                try rw [hx]
                refine (ref06_flag _ _).mono ?_
                rintro e w4 ⟨rfl, rfl⟩
                go_wp2_with fail
                refine (ref06_flag _ _).mono ?_
                rintro e w4 ⟨rfl, rfl⟩
                go_wp2_with fail
                rw [← HW3.out]
                go_region
                go_wp2_with fail
                exact bodyPost_ret (v := .tuple #[.int .i64 0, .bool false, .int .i64 0, .agg #[.int .i64 65, .int .i64 p, .int .i64 ((q : Int) + (d2 : Int))]]) (by simp [results, Tryz.results19, go_sem, x0, x1, x2]) rfl ⟨by rw [FF.out]; rfl, (((B3.out.setCell (Nat.le_refl _) _).setCell (Nat.le_refl _) _).setCell (Nat.le_refl _) _).drew⟩
              · by_cases k2 : x.toNat = 58 ∨ x.toNat = 41
                · have ho : ob = true ∧ n = 0 := by
                    cases ob with
                    | true => exact ⟨rfl, Nat.eq_zero_of_not_pos fun h => c3 ⟨k2, by simp [h]⟩⟩
                    | false => exact absurd ⟨k2, by rw [HO.out rfl]; rfl⟩ c3
                  obtain ⟨rfl, rfl⟩ := ho
                  clear c2 c3
                  rcases k2 with k2 | k2
                  · go_wp2_with fail
                    try rw [hx]
                    refine (ref06_flag _ _).mono ?_
                    rintro e w4 ⟨rfl, rfl⟩
                    go_wp2_with fail
                    refine (ref06_flag _ _).mono ?_
                    rintro e w4 ⟨rfl, rfl⟩
                    go_wp2_with fail
                    rw [← HW3.out]
                    go_region
                    go_wp2_with fail
                    exact bodyPost_ret (v := .tuple #[.int .i64 0, .bool false, .int .i64 0, .agg #[.int .i64 65, .int .i64 p, .int .i64 ((q : Int) + (d2 : Int))]]) (by simp [results, Tryz.results19, go_sem, x0, x1, x2]) rfl ⟨by rw [FF.out]; rfl, (((B3.out.setCell (Nat.le_refl _) _).setCell (Nat.le_refl _) _).setCell (Nat.le_refl _) _).drew⟩
                  · go_wp2_with fail
                    try rw [hx]
                    refine (ref06_flag _ _).mono ?_
                    rintro e w4 ⟨rfl, rfl⟩
                    go_wp2_with fail
                    refine (ref06_flag _ _).mono ?_
                    rintro e w4 ⟨rfl, rfl⟩
                    go_wp2_with fail
                    rw [← HW3.out]
                    go_region
                    go_wp2_with fail
                    exact bodyPost_ret (v := .tuple #[.int .i64 0, .bool false, .int .i64 0, .agg #[.int .i64 65, .int .i64 p, .int .i64 ((q : Int) + (d2 : Int))]]) (by simp [results, Tryz.results19, go_sem, x0, x1, x2]) rfl ⟨by rw [FF.out]; rfl, (((B3.out.setCell (Nat.le_refl _) _).setCell (Nat.le_refl _) _).setCell (Nat.le_refl _) _).drew⟩
                · have k3 : ¬ x.toNat = 58 := fun h => k2 (.inl h)
                  have k4 : ¬ x.toNat = 41 := fun h => k2 (.inr h)
                  clear c2 c3 k2
                  go_wp2_with fail
                  try rw [hx]
                  refine (ref06_flag _ _).mono ?_
                  rintro e w4 ⟨rfl, rfl⟩
                  go_wp2_with fail
                  refine (ref06_flag _ _).mono ?_
                  rintro e w4 ⟨rfl, rfl⟩
                  go_wp2_with fail
                  rw [← HW3.out]
                  go_region
                  go_wp2_with fail
                  exact bodyPost_ret (v := .tuple #[.int .i64 0, .bool false, .int .i64 0, .agg #[.int .i64 65, .int .i64 p, .int .i64 ((q : Int) + (d2 : Int))]]) (by simp [results, Tryz.results19, go_sem, x0, x1, x2]) rfl ⟨by rw [FF.out]; rfl, (((B3.out.setCell (Nat.le_refl _) _).setCell (Nat.le_refl _) _).setCell (Nat.le_refl _) _).drew⟩
        · have c1' : (flagOf (x.toNat : Int) != 0) = true := by simpa using c1
          cases ob
          · obtain ⟨hq1, -, e⟩ := flagsRun_or (s := s) (q := q) fz (decide (0 < n)) (by rw [hfl]; exact c1)
            rw [hfl] at e
            have FF := Lib.hid (hF2.out.trans e)
            clear e hfl c1
            go_wp2_with fail
            try rw [hx]
            refine (ref06_flag _ _).mono ?_
            rintro e w4 ⟨rfl, rfl⟩
            go_wp2_with fail
            refine (ref06_flag _ _).mono ?_
            rintro e w4 ⟨rfl, rfl⟩
            go_wp2_with fail
            refine (ref06_flag _ _).mono ?_
            rintro e w4 ⟨rfl, rfl⟩
            go_wp2_with fail
            go_roundw
            case rel => exact ⟨q + 1, _, false, n, hq1, by omega, fun _ => HO.out trivial, rfl, by go_num, rfl, rfl, by rw [← HW3.out]; exact X3.out, by rw [← HW3.out]; exact T3.out, by rw [← HW3.out]; exact B3.out, .inr (.inr ⟨by omega, FF.out⟩)⟩
            case measure => simp [intOf]; omega
          · obtain ⟨hq1, -, e⟩ := flagsRun_not (s := s) (q := q) fz (decide (0 < n)) (by rw [hfl]; exact c1)
            rw [hfl] at e
            have FF := Lib.hid (hF2.out.trans (e.trans (show _ = flagsRun s (s.size + 1 - (q + 1)) (q + 1) (bits .andNot .i64 fz (flagOf (x.toNat : Int))) true (decide (0 < n + 1)) by simp)))
            clear e hfl c1
            go_wp2_with fail
            try rw [hx]
            refine (ref06_flag _ _).mono ?_
            rintro e w4 ⟨rfl, rfl⟩
            go_wp2_with fail
            refine (ref06_flag _ _).mono ?_
            rintro e w4 ⟨rfl, rfl⟩
            go_wp2_with fail
            go_roundw
            case rel => exact ⟨q + 1, _, true, n + 1, hq1, by omega, (fun h => by cases h), rfl, by go_num, rfl, by go_num, by rw [← HW3.out]; exact X3.out, by rw [← HW3.out]; exact T3.out, by rw [← HW3.out]; exact B3.out, .inr (.inr ⟨by omega, FF.out⟩)⟩
            case measure => simp [intOf]; omega
    · have hq' : (s.size : Int) ≤ (q : Int) := by omega
      have FF := Lib.hid (refRel_end HFF.out (by omega))
      go_wp2_with fail
      refine (ref06_wrong _ _ _ _).mono ?_
      rintro e w4 ⟨rfl, hB⟩
      rw [← HW3.out] at hB
      have X4 := Blk.below X3.out hB X3.out.lt
      have v0 := Blk.cell X4 (j := 0) rfl; have v1 := Blk.cell X4 (j := 1) rfl; have v2 := Blk.cell X4 (j := 2) rfl
      have t0 := X4.frozen 0; have t1 := X4.frozen 1; have t2 := X4.frozen 2
      have B4 := Lib.hid (below_next B3.out (Nat.le_refl _) (grownBy_below hB none) (by simp))
      clear hB X4
      go_wp2_with fail
      refine bodyPost_ret (v := .tuple #[.int .i64 0, .bool false, .int .i64 0, .agg #[.int .i64 65, .int .i64 p, .int .i64 s.size]]) (by simp [results, Tryz.results19, go_sem, v0, v1, v2]) rfl ⟨by rw [FF.out]; rfl, ?_⟩
      exact ((B4.out.setCell (Nat.le_refl _) _).setCell (Nat.le_refl _) _).setCell (Nat.le_refl _) _
end Go.Proofs.YtjmgboegipeijaaGreatDoor
