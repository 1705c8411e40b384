/- A tree, or its Kid, if it has one alone to put together: printer.through and the document's bare. -/
import Derived.Test.YtihbmgpjihgodaaGreatDoorQPrintSpec
import Derived.Test.YtihbmgpjihgodaaGreatDoorQBlk
import Derived.Test.YtihbmgpjihgodaaGreatDoorProg
import Derived.WalkKit
import Derived.Lib.Hide
import Derived.WalkSpells
import Derived.WalkLawsBesides
import Derived.LoopTactic
import Derived.BigRegion
namespace Go.Proofs.YtihbmgpjihgodaaGreatDoor
open Go Go.RowKit Go.Proofs

abbrev zeroT : List Value := [.int .i64 0, .slice none 0 0, .int .i32 0, .slice none 0 0, .int .i64 0, .int .i64 0, .string ⟨#[]⟩, .int .i64 0, .int .i64 0, .bool false]
/-- A tree stored over a block. -/
def World.set10 (w : World) (b : Nat) (v0 v1 v2 v3 v4 v5 v6 v7 v8 v9 : Value) : World := ((((((((((w.setCell ⟨b, 0, none⟩ v0).setCell ⟨b, 1, none⟩ v1).setCell ⟨b, 2, none⟩ v2).setCell ⟨b, 3, none⟩ v3).setCell ⟨b, 4, none⟩ v4).setCell ⟨b, 5, none⟩ v5).setCell ⟨b, 6, none⟩ v6).setCell ⟨b, 7, none⟩ v7).setCell ⟨b, 8, none⟩ v8).setCell ⟨b, 9, none⟩ v9)
theorem Blk.set10 {w : World} {b : Nat} {c0 c1 c2 c3 c4 c5 c6 c7 c8 c9 : Value} {t : TypeId} (h : Blk w b [c0, c1, c2, c3, c4, c5, c6, c7, c8, c9] t) (v0 v1 v2 v3 v4 v5 v6 v7 v8 v9 : Value) : Blk (World.set10 w b v0 v1 v2 v3 v4 v5 v6 v7 v8 v9) b [v0, v1, v2, v3, v4, v5, v6, v7, v8, v9] t :=
  ((((((((((h.set 0 v0).set 1 v1).set 2 v2).set 3 v3).set 4 v4).set 5 v5).set 6 v6).set 7 v7).set 8 v8).set 9 v9)
theorem grownBy_set10 (w : World) (b : Nat) (v0 v1 v2 v3 v4 v5 v6 v7 v8 v9 : Value) : w.grownBy (World.set10 w b v0 v1 v2 v3 v4 v5 v6 v7 v8 v9) (some b) :=
  grownBy_trans (grownBy_trans (grownBy_trans (grownBy_trans (grownBy_trans (grownBy_trans (grownBy_trans (grownBy_trans (grownBy_trans (grownBy_trans (grownBy_refl w _) (grownBy_setCell _ b 0 v0)) (grownBy_setCell _ b 1 v1)) (grownBy_setCell _ b 2 v2)) (grownBy_setCell _ b 3 v3)) (grownBy_setCell _ b 4 v4)) (grownBy_setCell _ b 5 v5)) (grownBy_setCell _ b 6 v6)) (grownBy_setCell _ b 7 v7)) (grownBy_setCell _ b 8 v8)) (grownBy_setCell _ b 9 v9)
/-- What hands a tree back. -/
def TreeOut (w : World) (B : Nat) (t : T) (e : Ending) (w' : World) : Prop := (∃ cs, e = .returned (.agg cs.toArray) ∧ TreeV w' B t cs) ∧ Below w.heap.size w w'

set_option maxHeartbeats 4000000 in
theorem printer_through (t : T) : ∀ (cs : List Value) (B : Nat) (w : World), TreeV w B t cs → B ≤ w.heap.size →
    Calls Tryz.prog 16 #[.agg cs.toArray] w (TreeOut w B (throughT t)) := by
  induction t using T.ind with
  | h op kids rune set pl cap name mn mx lz ih =>
    intro cs B w h hB
    by_cases hc : kids.length = 1 ∧ (op = 11 ∨ op = 12)
    · obtain ⟨h1, ho⟩ := hc
      obtain ⟨k1, rfl⟩ : ∃ k1, kids = [k1] := List.length_eq_one_iff.1 h1
      rw [throughT_one, if_pos ho]
      obtain ⟨ka, kn, kc, sa, sn, sc, rfl, ⟨rfl, h2, h3⟩, h4⟩ := h.open
      obtain ⟨b, o, rfl, hbB, hK⟩ : ∃ b o, ka = some ⟨b, o, none⟩ ∧ b < B ∧ KidsAt w B [k1] b o := h3.resolve_left (by simp)
      obtain ⟨cs1, hc1, hr1⟩ := (KidsAt.cons.1 hK).1
      have hbw : b < w.heap.size := by omega
      have HC := Lib.hid hc1
      have HI := Lib.hid (ih k1 (by simp) cs1 B)
      have HBB := Lib.hid hB
      obtain ⟨op1, ka1, kn1, kc1, rune1, sa1, sn1, sc1, pl1, cap1, name1, mn1, mx1, lz1, rfl⟩ := hc1.form
      have two : ∀ (o1 o2 : Obj), Below w.heap.size w ((w.alloc o1).alloc o2) := fun o1 o2 => ((Below.refl _ w).alloc (Nat.le_refl _) o1).trans ((Below.refl _ _).alloc (by simp) o2)
      have g0 := fun (o1 o2 : Obj) => (hr1.below (two o1 o2) hbw).ten.1
      have g1 := fun (o1 o2 : Obj) => (hr1.below (two o1 o2) hbw).ten.2.1
      have g2 := fun (o1 o2 : Obj) => (hr1.below (two o1 o2) hbw).ten.2.2.1
      have g3 := fun (o1 o2 : Obj) => (hr1.below (two o1 o2) hbw).ten.2.2.2.1
      have g4 := fun (o1 o2 : Obj) => (hr1.below (two o1 o2) hbw).ten.2.2.2.2.1
      have g5 := fun (o1 o2 : Obj) => (hr1.below (two o1 o2) hbw).ten.2.2.2.2.2.1
      have g6 := fun (o1 o2 : Obj) => (hr1.below (two o1 o2) hbw).ten.2.2.2.2.2.2.1
      have g7 := fun (o1 o2 : Obj) => (hr1.below (two o1 o2) hbw).ten.2.2.2.2.2.2.2.1
      have g8 := fun (o1 o2 : Obj) => (hr1.below (two o1 o2) hbw).ten.2.2.2.2.2.2.2.2.1
      have g9 := fun (o1 o2 : Obj) => (hr1.below (two o1 o2) hbw).ten.2.2.2.2.2.2.2.2.2
      have TWO := Lib.hid two
      clear h h3 h4 ih hK hc1 hr1 two hB
      simp only [List.length_singleton] at h2 ⊢
      rcases ho with rfl | rfl
      · go_enter Tryz.func16, Tryz.ntmps16
        go_wp2_with fail
        refine (HI.out _ (HC.out.below (TWO.out _ _ |>.mono HBB.out)) (by simp; have := HBB.out; omega)).mono ?_
        rintro e w2 ⟨⟨cs2, rfl, hv⟩, hb⟩
        have hz := (Blk.new (w.alloc (.cells #[.int .i64 11, .slice (some ⟨b, o, none⟩) 1 kc, .int .i32 rune, .slice sa sn sc, .int .i64 pl, .int .i64 cap, .string name, .int .i64 mn, .int .i64 mx, .bool lz] 27)) [.int .i64 0, .slice none 0 0, .int .i32 0, .slice none 0 0, .int .i64 0, .int .i64 0, .string ⟨#[]⟩, .int .i64 0, .int .i64 0, .bool false] 27).below hb (by simp)
        simp only [World.size_alloc] at hz
        obtain ⟨op2, ka2, kn2, kc2, rune2, sa2, sn2, sc2, pl2, cap2, name2, mn2, mx2, lz2, rfl⟩ := hv.form
        have HV := Lib.hid hv; have HB2 := Lib.hid hb; have HZ := Lib.hid hz
        clear hv hb
        have z0 := hz.cell (j := 0) rfl
        have y0 := hz.frozen 0
        have z1 := hz.cell (j := 1) rfl
        have y1 := hz.frozen 1
        have z2 := hz.cell (j := 2) rfl
        have y2 := hz.frozen 2
        have z3 := hz.cell (j := 3) rfl
        have y3 := hz.frozen 3
        have z4 := hz.cell (j := 4) rfl
        have y4 := hz.frozen 4
        have z5 := hz.cell (j := 5) rfl
        have y5 := hz.frozen 5
        have z6 := hz.cell (j := 6) rfl
        have y6 := hz.frozen 6
        have z7 := hz.cell (j := 7) rfl
        have y7 := hz.frozen 7
        have z8 := hz.cell (j := 8) rfl
        have y8 := hz.frozen 8
        have z9 := hz.cell (j := 9) rfl
        have y9 := hz.frozen 9
        clear hz
        go_wp2_with fail
        obtain ⟨W3, hW3⟩ : ∃ W3, W3 = World.set10 w2 (w.heap.size + 1) (.int .i64 op2) (.slice ka2 kn2 kc2) (.int .i32 rune2) (.slice sa2 sn2 sc2) (.int .i64 pl2) (.int .i64 cap2) (.string name2) (.int .i64 mn2) (.int .i64 mx2) (.bool lz2) := ⟨_, rfl⟩
        have hb3 := HZ.out.set10 (.int .i64 op2) (.slice ka2 kn2 kc2) (.int .i32 rune2) (.slice sa2 sn2 sc2) (.int .i64 pl2) (.int .i64 cap2) (.string name2) (.int .i64 mn2) (.int .i64 mx2) (.bool lz2)
        have hg3 := grownBy_set10 w2 (w.heap.size + 1) (.int .i64 op2) (.slice ka2 kn2 kc2) (.int .i32 rune2) (.slice sa2 sn2 sc2) (.int .i64 pl2) (.int .i64 cap2) (.string name2) (.int .i64 mn2) (.int .i64 mx2) (.bool lz2)
        rw [← hW3] at hb3 hg3
        unfold World.set10 at hW3
        rw [← hW3]
        clear hW3
        have hB3 : Below w.heap.size w W3 := below_next ((TWO.out _ _).trans (HB2.out.mono (by simp only [World.size_alloc]; omega))) (Nat.le_refl _) hg3 (fun k e => by cases e; omega)
        have hV3 := HV.out.below ((Below.refl _ w2).grown hg3 (by have := HB2.out.size; have := HBB.out; simp only [World.size_alloc] at *; omega) (fun k e => by cases e; have := HBB.out; omega) : Below B w2 W3)
        have q0 := hb3.cell (j := 0) rfl
        have q1 := hb3.cell (j := 1) rfl
        have q2 := hb3.cell (j := 2) rfl
        have q3 := hb3.cell (j := 3) rfl
        have q4 := hb3.cell (j := 4) rfl
        have q5 := hb3.cell (j := 5) rfl
        have q6 := hb3.cell (j := 6) rfl
        have q7 := hb3.cell (j := 7) rfl
        have q8 := hb3.cell (j := 8) rfl
        have q9 := hb3.cell (j := 9) rfl
        refine bodyPost_ret (v := .agg #[.int .i64 op2, .slice ka2 kn2 kc2, .int .i32 rune2, .slice sa2 sn2 sc2, .int .i64 pl2, .int .i64 cap2, .string name2, .int .i64 mn2, .int .i64 mx2, .bool lz2]) ?_ rfl ⟨⟨_, rfl, hV3⟩, hB3⟩
        simp [results, Tryz.results16, go_sem, q0, q1, q2, q3, q4, q5, q6, q7, q8, q9]
      · go_enter Tryz.func16, Tryz.ntmps16
        go_wp2_with fail
        refine (HI.out _ (HC.out.below (TWO.out _ _ |>.mono HBB.out)) (by simp; have := HBB.out; omega)).mono ?_
        rintro e w2 ⟨⟨cs2, rfl, hv⟩, hb⟩
        have hz := (Blk.new (w.alloc (.cells #[.int .i64 12, .slice (some ⟨b, o, none⟩) 1 kc, .int .i32 rune, .slice sa sn sc, .int .i64 pl, .int .i64 cap, .string name, .int .i64 mn, .int .i64 mx, .bool lz] 27)) [.int .i64 0, .slice none 0 0, .int .i32 0, .slice none 0 0, .int .i64 0, .int .i64 0, .string ⟨#[]⟩, .int .i64 0, .int .i64 0, .bool false] 27).below hb (by simp)
        simp only [World.size_alloc] at hz
        obtain ⟨op2, ka2, kn2, kc2, rune2, sa2, sn2, sc2, pl2, cap2, name2, mn2, mx2, lz2, rfl⟩ := hv.form
        have HV := Lib.hid hv; have HB2 := Lib.hid hb; have HZ := Lib.hid hz
        clear hv hb
        have z0 := hz.cell (j := 0) rfl
        have y0 := hz.frozen 0
        have z1 := hz.cell (j := 1) rfl
        have y1 := hz.frozen 1
        have z2 := hz.cell (j := 2) rfl
        have y2 := hz.frozen 2
        have z3 := hz.cell (j := 3) rfl
        have y3 := hz.frozen 3
        have z4 := hz.cell (j := 4) rfl
        have y4 := hz.frozen 4
        have z5 := hz.cell (j := 5) rfl
        have y5 := hz.frozen 5
        have z6 := hz.cell (j := 6) rfl
        have y6 := hz.frozen 6
        have z7 := hz.cell (j := 7) rfl
        have y7 := hz.frozen 7
        have z8 := hz.cell (j := 8) rfl
        have y8 := hz.frozen 8
        have z9 := hz.cell (j := 9) rfl
        have y9 := hz.frozen 9
        clear hz
        go_wp2_with fail
        obtain ⟨W3, hW3⟩ : ∃ W3, W3 = World.set10 w2 (w.heap.size + 1) (.int .i64 op2) (.slice ka2 kn2 kc2) (.int .i32 rune2) (.slice sa2 sn2 sc2) (.int .i64 pl2) (.int .i64 cap2) (.string name2) (.int .i64 mn2) (.int .i64 mx2) (.bool lz2) := ⟨_, rfl⟩
        have hb3 := HZ.out.set10 (.int .i64 op2) (.slice ka2 kn2 kc2) (.int .i32 rune2) (.slice sa2 sn2 sc2) (.int .i64 pl2) (.int .i64 cap2) (.string name2) (.int .i64 mn2) (.int .i64 mx2) (.bool lz2)
        have hg3 := grownBy_set10 w2 (w.heap.size + 1) (.int .i64 op2) (.slice ka2 kn2 kc2) (.int .i32 rune2) (.slice sa2 sn2 sc2) (.int .i64 pl2) (.int .i64 cap2) (.string name2) (.int .i64 mn2) (.int .i64 mx2) (.bool lz2)
        rw [← hW3] at hb3 hg3
        unfold World.set10 at hW3
        rw [← hW3]
        clear hW3
        have hB3 : Below w.heap.size w W3 := below_next ((TWO.out _ _).trans (HB2.out.mono (by simp only [World.size_alloc]; omega))) (Nat.le_refl _) hg3 (fun k e => by cases e; omega)
        have hV3 := HV.out.below ((Below.refl _ w2).grown hg3 (by have := HB2.out.size; have := HBB.out; simp only [World.size_alloc] at *; omega) (fun k e => by cases e; have := HBB.out; omega) : Below B w2 W3)
        have q0 := hb3.cell (j := 0) rfl
        have q1 := hb3.cell (j := 1) rfl
        have q2 := hb3.cell (j := 2) rfl
        have q3 := hb3.cell (j := 3) rfl
        have q4 := hb3.cell (j := 4) rfl
        have q5 := hb3.cell (j := 5) rfl
        have q6 := hb3.cell (j := 6) rfl
        have q7 := hb3.cell (j := 7) rfl
        have q8 := hb3.cell (j := 8) rfl
        have q9 := hb3.cell (j := 9) rfl
        refine bodyPost_ret (v := .agg #[.int .i64 op2, .slice ka2 kn2 kc2, .int .i32 rune2, .slice sa2 sn2 sc2, .int .i64 pl2, .int .i64 cap2, .string name2, .int .i64 mn2, .int .i64 mx2, .bool lz2]) ?_ rfl ⟨⟨_, rfl, hV3⟩, hB3⟩
        simp [results, Tryz.results16, go_sem, q0, q1, q2, q3, q4, q5, q6, q7, q8, q9]
    · have ht : throughT (.mk op kids rune set pl cap name mn mx lz) = .mk op kids rune set pl cap name mn mx lz := throughT_other (by simp only [T.kids, T.op]; exact not_one hc)
      rw [ht]
      have H := Lib.hid h
      obtain ⟨ka, kn, kc, sa, sn, sc, rfl, ⟨rfl, h2, h3⟩, h4⟩ := h.open
      clear h h3 h4 ih ht
      by_cases h1 : kids.length = 1
      · have e1 : ¬ op = 11 := fun e => hc ⟨h1, .inl e⟩
        have e2 : ¬ op = 12 := fun e => hc ⟨h1, .inr e⟩
        have d1 : (op == 11) = false := by simpa using e1
        have d2 : (op == 12) = false := by simpa using e2
        clear hc e1 e2
        go_enter Tryz.func16, Tryz.ntmps16
        go_wp2_with fail
        refine bodyPost_ret (v := .agg #[.int .i64 op, .slice ka 1 kc, .int .i32 rune, .slice sa sn sc, .int .i64 pl, .int .i64 cap, .string name, .int .i64 mn, .int .i64 mx, .bool lz]) ?_ rfl ⟨⟨_, rfl, ?_⟩, ?_⟩
        · simp [results, Tryz.results16, go_sem]
        · rw [← h1]; exact H.out.below ((((Below.refl _ w).alloc (Nat.le_refl _) _).trans ((Below.refl _ _).alloc (by simp) _)).mono hB)
        · exact ((Below.refl _ w).alloc (Nat.le_refl _) _).trans ((Below.refl _ _).alloc (by simp) _)
      · have d1 : ((kids.length : Int) == 1) = false := by simp; omega
        clear hc h1
        go_enter Tryz.func16, Tryz.ntmps16
        go_wp2_with fail
        refine bodyPost_ret (v := .agg #[.int .i64 op, .slice ka kids.length kc, .int .i32 rune, .slice sa sn sc, .int .i64 pl, .int .i64 cap, .string name, .int .i64 mn, .int .i64 mx, .bool lz]) ?_ rfl ⟨⟨_, rfl, ?_⟩, ?_⟩
        · simp [results, Tryz.results16, go_sem]
        · exact H.out.below ((((Below.refl _ w).alloc (Nat.le_refl _) _).trans ((Below.refl _ _).alloc (by simp) _)).mono hB)
        · exact ((Below.refl _ w).alloc (Nat.le_refl _) _).trans ((Below.refl _ _).alloc (by simp) _)
end Go.Proofs.YtihbmgpjihgodaaGreatDoor
