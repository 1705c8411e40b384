/- A right tree's text: the document's: martelloref09.text. -/
import Derived.Test.YtihbmgpjihgodaaGreatDoorQTextAid
import Derived.Test.YtihbmgpjihgodaaGreatDoorQTextG
import Derived.Test.YtihbmgpjihgodaaGreatDoorQPrintBare
import Derived.Test.YtihbmgpjihgodaaGreatDoorPrintOne
import Derived.Test.YtihbmgpjihgodaaGreatDoorQPrintPlaceR
import Derived.Deep.RegionHeld3
import Derived.Deep.Cut
import Derived.Deep.DrawnRows
namespace Go.Proofs.YtihbmgpjihgodaaGreatDoor
open Go Go.RowKit Go.Proofs Go.Shelf
attribute [local go_sem ↓] Go.wp_at_zero Go.wp_at_succ

set_option maxRecDepth 100000 in
set_option maxHeartbeats 8000000 in
theorem ref09_text : ∀ (n : Nat) (t : T), SizeOf.sizeOf t ≤ n → ∀ (cs : List Value) (B : Nat) (w : World), TreeV w B t cs → B ≤ w.heap.size → PlainAll t → pcT t ≤ 1000000 → Tb w →
    Calls Tryz.prog 11 #[.agg cs.toArray] w fun e w' => e = .returned (.string ⟨(textT t).toArray⟩) ∧ Below w.heap.size w w' := by
  intro n
  induction n with
  | zero => intro t ht; cases t; simp at ht
  | succ n ih =>
    intro t hsz cs B w h hB hP hpc hT
    have HBare := Lib.hid (fun o => ref09_bare t cs B (w.alloc o) (h.below (((Below.refl _ w).alloc (Nat.le_refl _) o).mono hB)) (by simp; omega))
    obtain ⟨u, hu⟩ : ∃ u, u = throughT t := ⟨_, rfl⟩
    have HTX := Lib.hid (show textT t = textT u by rw [hu, textT_through])
    have hus : SizeOf.sizeOf u ≤ n + 1 := by rw [hu]; exact Nat.le_trans (throughT_size t) hsz
    have hup : PlainAll u := by rw [hu]; exact hP.through
    have huc : pcT u ≤ 1000000 := by rw [hu]; exact Nat.le_trans (throughT_pc t) hpc
    have IH := Lib.hid ih
    have HTB := Lib.hid (fun W (hW : Below w.heap.size w W) => hT.below hW)
    have HBB := Lib.hid hB
    have HU := Lib.hid hu
    rw [← hu] at HBare
    obtain ⟨op0, ka0, kn0, kc0, rune0, sa0, sn0, sc0, pl0, cap0, name0, mn0, mx0, lz0, rfl⟩ := h.form
    clear h hP hpc hT ih hsz hB hu
    go_enter Tryz.func11, Tryz.ntmps11
    go_wp2_with fail
    refine (HBare.out _).mono ?_
    rintro e w2 ⟨⟨cs2, rfl, hv⟩, hb⟩
    have hz := (Blk.new w (cellsT op0 ka0 kn0 kc0 rune0 sa0 sn0 sc0 pl0 cap0 name0 mn0 mx0 lz0) 27).below hb (by simp)
    obtain ⟨op, kids, rune, set, pl, cap, name, mn, mx, lz⟩ := u
    have HV := Lib.hid hv
    obtain ⟨ka, kn, kc, sa, sn, sc, rfl, ⟨rfl, h2, h3⟩, h4⟩ := hv.open
    have HB2 := Lib.hid (((Below.refl _ w).alloc (Nat.le_refl _) (.cells (cellsT op0 ka0 kn0 kc0 rune0 sa0 sn0 sc0 pl0 cap0 name0 mn0 mx0 lz0).toArray 27)).trans (hb.mono (by simp)))
    have HZ := Lib.hid hz; have H3 := Lib.hid h3; have H4 := Lib.hid h4
    clear hv hb h3 h4
    have z0 := hz.cell (j := 0) rfl; have y0 := hz.frozen 0
    have z1 := hz.cell (j := 1) rfl; have y1 := hz.frozen 1
    have z2 := hz.cell (j := 2) rfl; have y2 := hz.frozen 2
    have z3 := hz.cell (j := 3) rfl; have y3 := hz.frozen 3
    have z4 := hz.cell (j := 4) rfl; have y4 := hz.frozen 4
    have z5 := hz.cell (j := 5) rfl; have y5 := hz.frozen 5
    have z6 := hz.cell (j := 6) rfl; have y6 := hz.frozen 6
    have z7 := hz.cell (j := 7) rfl; have y7 := hz.frozen 7
    have z8 := hz.cell (j := 8) rfl; have y8 := hz.frozen 8
    have z9 := hz.cell (j := 9) rfl; have y9 := hz.frozen 9
    clear hz
    go_upto_region 2 with (fail)
    obtain ⟨W3, hW3⟩ : ∃ W3, W3 = World.set10 w2 w.heap.size (.int .i64 op) (.slice ka kids.length kc) (.int .i32 rune) (.slice sa sn sc) (.int .i64 pl) (.int .i64 cap) (.string name) (.int .i64 mn) (.int .i64 mx) (.bool lz) := ⟨_, rfl⟩
    have hb3 := HZ.out.set10 (.int .i64 op) (.slice ka kids.length kc) (.int .i32 rune) (.slice sa sn sc) (.int .i64 pl) (.int .i64 cap) (.string name) (.int .i64 mn) (.int .i64 mx) (.bool lz)
    have hg3 := grownBy_set10 w2 w.heap.size (.int .i64 op) (.slice ka kids.length kc) (.int .i32 rune) (.slice sa sn sc) (.int .i64 pl) (.int .i64 cap) (.string name) (.int .i64 mn) (.int .i64 mx) (.bool lz)
    rw [← hW3] at hb3 hg3
    unfold World.set10 at hW3
    rw [← hW3]
    clear hW3 z0 z1 z2 z3 z4 z5 z6 z7 z8 z9 y0 y1 y2 y3 y4 y5 y6 y7 y8 y9
    have hB3 : Below w.heap.size w W3 := below_next HB2.out (Nat.le_refl _) hg3 (fun k e => by cases e; exact Nat.le_refl _)
    have hbel : Below B w2 W3 := (Below.refl _ w2).grown hg3 (Nat.le_trans HBB.out HB2.out.size) (fun k e => by cases e; exact HBB.out)
    have HB3 := Lib.hid hB3; have HX := Lib.hid hb3
    have HKV := Lib.hid (show kids.length = 0 ∨ ∃ b o, ka = some ⟨b, o, none⟩ ∧ b < B ∧ KidsAt W3 B kids b o from H3.out.imp_right fun ⟨b, o, e, hlt, hk⟩ => ⟨b, o, e, hlt, hk.below hbel hlt⟩)
    have HRV := Lib.hid (H4.out.below hbel)
    have x0 := hb3.cell (j := 0) rfl; have x1 := hb3.cell (j := 1) rfl; have x2 := hb3.cell (j := 2) rfl; have x3 := hb3.cell (j := 3) rfl; have x4 := hb3.cell (j := 4) rfl
    have x5 := hb3.cell (j := 5) rfl; have x6 := hb3.cell (j := 6) rfl; have x7 := hb3.cell (j := 7) rfl; have x8 := hb3.cell (j := 8) rfl; have x9 := hb3.cell (j := 9) rfl
    clear hb3 hg3 hB3 hbel H3 H4 HV HZ HB2
    have hpl := plainT_is hup.self
    have HPL := Lib.hid hpl
    have HUP := Lib.hid hup; have HUC := Lib.hid huc; have HUS := Lib.hid hus
    obtain ⟨ho1, ho2⟩ := hpl.op1
    clear hpl hup huc hus
    have hops : op = 1 ∨ op = 2 ∨ op = 3 ∨ op = 4 ∨ op = 5 ∨ op = 6 ∨ op = 7 ∨ op = 8 ∨ op = 9 ∨ op = 10 ∨ op = 11 ∨ op = 12 := by omega
    clear ho1 ho2
    have hops : op = 1 ∨ op = 2 ∨ op = 3 ∨ op = 4 ∨ op = 5 ∨ op = 6 ∨ (7 ≤ op ∧ op ≤ 10) ∨ op = 11 ∨ op = 12 := by omega
    rcases hops with rfl | rfl | rfl | rfl | rfl | rfl | hops
    · go_wp2_with fail
      go_ret
      exact ⟨by rw [HTX.out, textT_1]; rfl, HB3.out⟩
    · have hk0 := HPL.out.leaf (by decide)
      obtain rfl := List.eq_nil_of_length_eq_zero hk0
      clear hk0
      go_wp2_with fail
      go_ret
      exact ⟨by rw [HTX.out, textT_2]; rfl, HB3.out⟩
    · obtain ⟨r1, r2⟩ := HPL.out.rune rfl
      obtain ⟨r, rfl⟩ : ∃ r : Nat, rune = r := ⟨rune.toNat, by omega⟩
      go_wp2_with fail
      refine (ref09_one r _ (by omega) (HTB.out _ HB3.out).1).mono ?_
      rintro e w4 ⟨rfl, hb4⟩
      go_wp2_with fail
      go_ret
      exact ⟨by rw [HTX.out, textT_3]; rfl, HB3.out.trans (hb4.mono HB3.out.size)⟩
    · have hsl : set.length ≤ 1000000 := by have := HUC.out; simp only [pcT] at this; omega
      go_wp2_with fail
      refine (ref09_set set sa sn sc B _ HRV.out (Nat.le_trans HBB.out HB3.out.size) (HPL.out.set rfl) hsl (HTB.out _ HB3.out).1).mono ?_
      rintro e w4 ⟨rfl, hb4⟩
      go_wp2_with fail
      go_ret
      exact ⟨by rw [HTX.out, textT_4]; rfl, HB3.out.trans (hb4.mono HB3.out.size)⟩
    · go_wp2_with fail
      refine (ref09_place pl _).mono ?_
      rintro e w4 ⟨rfl, rfl⟩
      go_wp2_with fail
      go_ret
      exact ⟨by rw [HTX.out, textT_5]; rfl, HB3.out⟩
    · -- a group
      obtain ⟨k1, rfl⟩ := List.length_eq_one_iff.1 (HPL.out.one (by decide) (by decide))
      obtain ⟨b, o, rfl, hbB, hK⟩ : ∃ b o, ka = some ⟨b, o, none⟩ ∧ b < B ∧ KidsAt W3 B [k1] b o := HKV.out.resolve_left (by simp)
      obtain ⟨cs1, hc1, hr1⟩ := (KidsAt.cons.1 hK).1
      obtain ⟨op1, ka1, kn1, kc1, rune1, sa1, sn1, sc1, pl1, cap1, name1, mn1, mx1, lz1, rfl⟩ := hc1.form
      obtain ⟨g0, g1, g2, g3, g4, g5, g6, g7, g8, g9⟩ := hr1.ten
      have hk1 : PlainAll k1 := HUP.out.kid k1 (by simp)
      have hk2 : pcT k1 ≤ 1000000 := by have := HUC.out; simp only [pcT, pcL] at this; omega
      have IHk := Lib.hid (fun W (hW : Below w.heap.size W3 W) => IH.out k1 (by have := HUS.out; simp at this; omega) _ B W (hc1.below (hW.mono HBB.out)) (Nat.le_trans HBB.out (Nat.le_trans HB3.out.size hW.size)) hk1 hk2 (HTB.out _ (HB3.out.trans hW)))
      have HSZ := Lib.hid (text_size hk1 hk2)
      have hnm := HPL.out.name
      simp only [List.length_singleton] at h2 x1 ⊢
      clear hK hc1 hr1 hk1 hk2
      by_cases hn0 : name.size = 0
      · obtain rfl := size_zero hn0
        clear hn0
        go_wp2_with fail
        refine (IHk.out _ (Below.refl _ _)).mono ?_
        rintro e w4 ⟨rfl, hb4⟩
        have HB4 := Lib.hid (HB3.out.trans (hb4.mono HB3.out.size))
        have hsz := HSZ.out
        generalize hS : (⟨(textT k1).toArray⟩ : ByteArray) = S at hsz ⊢
        have HS := Lib.hid hS
        clear hS hb4
        go_wp2_with fail
        go_ret
        refine ⟨?_, HB4.out⟩
        rw [HTX.out, textT_6, ← HS.out]
        show Ending.returned (.string ((⟨[40].toArray⟩ : ByteArray) ++ ⟨(textT k1).toArray⟩ ++ ⟨[41].toArray⟩)) = _
        rw [ba_app, ba_app]; rfl
      · have k2 := list_ne hn0
        have k3 := list_nil hn0
        have HN0 := Lib.hid hn0
        clear hn0
        have hxlt : w.heap.size < W3.heap.size := HX.out.lt
        have hN3 : w.heap.size ≤ W3.heap.size := HB3.out.size
        have q1 : ¬ 9223372036854775807 < 4 + name.size := by omega
        have q2 : ¬ 9223372036854775807 < 4 + name.size + 1 := by omega
        have hW3 : Below w.heap.size W3 W3.drew := below_drewN (Below.refl w.heap.size W3) 1
        go_wp2_with fail
        go_region_held3 (fun w' => Below w.heap.size W3 w' ∧ w'.cell? ⟨w.heap.size, 1, none⟩ = some (.slice (some ⟨b, o, none⟩) 1 kc) ∧ w'.cell? ⟨w.heap.size, 6, none⟩ = some (.string name) ∧ w'.cell? ⟨b, o, none⟩ = some (.int .i64 op1) ∧ w'.cell? ⟨b, o + 1, none⟩ = some (.slice ka1 kn1 kc1) ∧ w'.cell? ⟨b, o + 2, none⟩ = some (.int .i32 rune1) ∧ w'.cell? ⟨b, o + 3, none⟩ = some (.slice sa1 sn1 sc1) ∧ w'.cell? ⟨b, o + 4, none⟩ = some (.int .i64 pl1) ∧ w'.cell? ⟨b, o + 5, none⟩ = some (.int .i64 cap1) ∧ w'.cell? ⟨b, o + 6, none⟩ = some (.string name1) ∧ w'.cell? ⟨b, o + 7, none⟩ = some (.int .i64 mn1) ∧ w'.cell? ⟨b, o + 8, none⟩ = some (.int .i64 mx1) ∧ w'.cell? ⟨b, o + 9, none⟩ = some (.bool lz1))
          (first | (refine ⟨below_keep (by assumption) hN3 hb4, cell_keep hb4 (by assumption), cell_keep hb4 (by assumption), cell_keep hb4 (by assumption), cell_keep hb4 (by assumption), cell_keep hb4 (by assumption), cell_keep hb4 (by assumption), cell_keep hb4 (by assumption), cell_keep hb4 (by assumption), cell_keep hb4 (by assumption), cell_keep hb4 (by assumption), cell_keep hb4 (by assumption), cell_keep hb4 (by assumption)⟩) | go_keep)
          (first | (go_at_call 11; refine (IHk.out _ (by assumption)).mono ?_; rintro e w4 ⟨rfl, hb4⟩; have hsz := HSZ.out; generalize hS : (⟨(textT k1).toArray⟩ : ByteArray) = S at hsz ⊢; have HS := Lib.hid hS; clear hS; have q3 : ¬ 9223372036854775807 < 4 + name.size + 1 + S.size := (by omega); have q4 : ¬ 9223372036854775807 < 4 + name.size + 1 + S.size + 1 := (by omega)))
        -- TAIL
        go_wp2_with fail
        go_ret
        refine ⟨?_, HB3.out.trans (below_keep hW3 hN3 hb4)⟩
        rw [HTX.out, textT_6, if_neg HN0.out]
        show Ending.returned (.string ((⟨[40, 63, 80, 60].toArray⟩ : ByteArray) ++ ⟨name.data.toList.toArray⟩ ++ ⟨[62].toArray⟩ ++ S ++ ⟨[41].toArray⟩)) = _
        rw [← HS.out, ba_app, ba_app, ba_app, ba_app]
    · rcases hops with hrep | rfl | rfl
      · -- a repeat
        have hop : op = 7 ∨ op = 8 ∨ op = 9 ∨ op = 10 := by omega
        have e1 : (op == 1) = false := by simp; omega
        have e2 : (op == 2) = false := by simp; omega
        have e3 : (op == 3) = false := by simp; omega
        have e4 : (op == 4) = false := by simp; omega
        have e5 : (op == 5) = false := by simp; omega
        have e6 : (op == 6) = false := by simp; omega
        have e11 : (op == 11) = false := by simp; omega
        have e12 : (op == 12) = false := by simp; omega
        have HOP := Lib.hid hop
        obtain ⟨k1, rfl⟩ := List.length_eq_one_iff.1 (HPL.out.one (by omega) (by omega))
        clear hrep hop
        obtain ⟨b, o, rfl, hbB, hK⟩ : ∃ b o, ka = some ⟨b, o, none⟩ ∧ b < B ∧ KidsAt W3 B [k1] b o := HKV.out.resolve_left (by simp)
        obtain ⟨cs1, hc1, hr1⟩ := (KidsAt.cons.1 hK).1
        obtain ⟨op1, ka1, kn1, kc1, rune1, sa1, sn1, sc1, pl1, cap1, name1, mn1, mx1, lz1, rfl⟩ := hc1.form
        obtain ⟨g0, g1, g2, g3, g4, g5, g6, g7, g8, g9⟩ := hr1.ten
        have hk1 : PlainAll k1 := HUP.out.kid k1 (by simp)
        have hk2 : pcT k1 ≤ 1000000 := by have := HUC.out; simp only [pcT, pcL] at this; omega
        obtain ⟨⟨m1, m2⟩, ⟨m3, m4⟩⟩ := And.intro HPL.out.mn HPL.out.mx
        obtain ⟨n1, rfl⟩ : ∃ n1 : Nat, mn = n1 := ⟨mn.toNat, by omega⟩
        have HBR := Lib.hid (ref09_bare k1 _ B W3 hc1 (Nat.le_trans HBB.out HB3.out.size))
        have HMU := Lib.hid (mustT_cases hk1)
        obtain ⟨u2, hu2⟩ : ∃ u2, u2 = throughT k1 := ⟨_, rfl⟩
        have hup2 : PlainAll u2 := by rw [hu2]; exact hk1.through
        have huc2 : pcT u2 ≤ 1000000 := by rw [hu2]; exact Nat.le_trans (throughT_pc k1) hk2
        have hus2 : SizeOf.sizeOf u2 ≤ n := by have h1 := throughT_size k1; have h2 := HUS.out; rw [hu2]; simp at h2; omega
        have HTX2 := Lib.hid (show textT k1 = textT u2 by rw [hu2, textT_through])
        rw [← hu2] at HBR HMU
        have hszS := text_size hup2 huc2
        have hszR : (⟨(signTx op n1 mx lz).toArray⟩ : ByteArray).size ≤ 45 := signTx_len op n1 mx lz m2 m4
        have HSZS := Lib.hid hszS; have HSZR := Lib.hid hszR
        have HUC2 := Lib.hid (And.intro hup2 (And.intro huc2 hus2))
        simp only [List.length_singleton] at h2 x1 ⊢
        clear hK hc1 hr1 hk1 hk2 hup2 huc2 hus2 hszS hszR hu2
        go_wp2_with fail
        refine (HBR.out).mono ?_
        rintro e wb ⟨⟨cs3, rfl, hv3⟩, hbb⟩
        obtain ⟨op2, kids2, rune2, set2, pl2, cap2, name2, mn2, mx2, lz2⟩ := u2
        have HV3 := Lib.hid hv3
        obtain ⟨ka2, kn2, kc2, sa2, sn2, sc2, rfl, ⟨rfl, j2, _⟩, _⟩ := hv3.open
        obtain ⟨ho1, ho2⟩ := (plainT_is HUC2.out.1.self).op1
        have HBB2 := Lib.hid hbb
        clear hv3 hbb g0 g1 g2 g3 g4 g5 g6 g7 g8 g9
        go_upto_region 39 with (fail)
        obtain ⟨W4, hW4⟩ : ∃ W4, W4 = wb.alloc (.cells #[.int .i64 op2, .slice ka2 kids2.length kc2, .int .i32 rune2, .slice sa2 sn2 sc2, .int .i64 pl2, .int .i64 cap2, .string name2, .int .i64 mn2, .int .i64 mx2, .bool lz2] 27) := ⟨_, rfl⟩
        obtain ⟨X, hX⟩ : ∃ X, X = wb.heap.size := ⟨_, rfl⟩
        have hxb : Blk W4 X [.int .i64 op2, .slice ka2 kids2.length kc2, .int .i32 rune2, .slice sa2 sn2 sc2, .int .i64 pl2, .int .i64 cap2, .string name2, .int .i64 mn2, .int .i64 mx2, .bool lz2] 27 := by rw [hW4, hX]; exact Blk.new wb [.int .i64 op2, .slice ka2 kids2.length kc2, .int .i32 rune2, .slice sa2 sn2 sc2, .int .i64 pl2, .int .i64 cap2, .string name2, .int .i64 mn2, .int .i64 mx2, .bool lz2] 27
        have hbw4 : Below W3.heap.size W3 W4 := by rw [hW4]; exact HBB2.out.alloc HBB2.out.size _
        have htb := HX.out.below hbw4 HX.out.lt
        have HB4 := Lib.hid (HB3.out.trans (hbw4.mono HB3.out.size))
        have hN4 : w.heap.size ≤ W4.heap.size := HB4.out.size
        have HV4 := Lib.hid (show TreeV W4 B (.mk op2 kids2 rune2 set2 pl2 cap2 name2 mn2 mx2 lz2) _ by rw [hW4]; exact HV3.out.below ((Below.refl _ wb).alloc (Nat.le_trans HBB.out (Nat.le_trans HB3.out.size HBB2.out.size)) _))
        rw [← hW4, ← hX]
        clear hW4 hX hbw4 x0 x1 x2 x3 x4 x5 x6 x7 x8 x9
        have x0 := htb.cell (j := 0) rfl; have x1 := htb.cell (j := 1) rfl; have x2 := htb.cell (j := 2) rfl; have x3 := htb.cell (j := 3) rfl; have x4 := htb.cell (j := 4) rfl
        have x5 := htb.cell (j := 5) rfl; have x6 := htb.cell (j := 6) rfl; have x7 := htb.cell (j := 7) rfl; have x8 := htb.cell (j := 8) rfl; have x9 := htb.cell (j := 9) rfl
        have z0 := hxb.cell (j := 0) rfl; have z1 := hxb.cell (j := 1) rfl; have z2 := hxb.cell (j := 2) rfl; have z3 := hxb.cell (j := 3) rfl; have z4 := hxb.cell (j := 4) rfl
        have z5 := hxb.cell (j := 5) rfl; have z6 := hxb.cell (j := 6) rfl; have z7 := hxb.cell (j := 7) rfl; have z8 := hxb.cell (j := 8) rfl; have z9 := hxb.cell (j := 9) rfl
        clear htb hxb
        have hd4 : Below w.heap.size W4 W4.drew := below_drewN (Below.refl w.heap.size W4) 1
        have IHk := Lib.hid (fun W (hW : Below w.heap.size W4 W) => IH.out (.mk op2 kids2 rune2 set2 pl2 cap2 name2 mn2 mx2 lz2) HUC2.out.2.2 _ B W (HV4.out.below (hW.mono HBB.out)) (Nat.le_trans HBB.out (Nat.le_trans hN4 hW.size)) HUC2.out.1 HUC2.out.2.1 (HTB.out _ (HB4.out.trans hW)))
        have HREP := Lib.hid (fun W (hW : Below w.heap.size W4 W) => ref09_repeat op (some ⟨b, o, none⟩) 1 kc rune sa sn sc pl cap name n1 mx lz W HOP.out (by omega) ⟨m3, m4⟩ (HTB.out _ (HB4.out.trans hW)).2)
        generalize hS : (⟨(textT (.mk op2 kids2 rune2 set2 pl2 cap2 name2 mn2 mx2 lz2)).toArray⟩ : ByteArray) = S at IHk HSZS
        generalize hR : (⟨(signTx op n1 mx lz).toArray⟩ : ByteArray) = R at HREP HSZR
        have HS := Lib.hid hS; have HR := Lib.hid hR
        have sS := HSZS.out; have sR := HSZR.out
        clear hS hR
        by_cases hmust : mustT k1 = true
        · have HMUST := Lib.hid hmust
          have hm2 := HMU.out
          rw [hmust] at hm2
          have q1 : ¬ 9223372036854775807 < 3 + S.size := by omega
          have q2 : ¬ 9223372036854775807 < 3 + S.size + 1 := by omega
          have q3 : ¬ 9223372036854775807 < 3 + S.size + 1 + R.size := by omega
          have hsplit : (op2 = 11 ∧ 0 < kids2.length) ∨ (op2 ≠ 11 ∧ 7 ≤ op2) := by
            by_cases h11 : op2 = 11
            · exact .inl ⟨h11, of_decide_eq_true (by rw [if_pos (by exact h11)] at hm2; exact hm2.symm)⟩
            · exact .inr ⟨h11, of_decide_eq_true (by rw [if_neg (by exact h11)] at hm2; exact hm2.symm)⟩
          clear hm2 hmust
          have hmet : ∀ {K : Prop}, True := fun {_} => trivial
          clear hmet
          rcases hsplit with ⟨rfl, hlen⟩ | ⟨h11, h7⟩
          · skip
            have d1 : decide (0 < kids2.length) = true := decide_eq_true hlen
            go_upto_region 40 with (fail)
            go_region_held3 (fun w' => Below w.heap.size W4 w' ∧ w'.cell? ⟨X, 0, none⟩ = some (.int .i64 11) ∧ w'.cell? ⟨X, 1, none⟩ = some (.slice ka2 kids2.length kc2) ∧ w'.cell? ⟨X, 2, none⟩ = some (.int .i32 rune2) ∧ w'.cell? ⟨X, 3, none⟩ = some (.slice sa2 sn2 sc2) ∧ w'.cell? ⟨X, 4, none⟩ = some (.int .i64 pl2) ∧ w'.cell? ⟨X, 5, none⟩ = some (.int .i64 cap2) ∧ w'.cell? ⟨X, 6, none⟩ = some (.string name2) ∧ w'.cell? ⟨X, 7, none⟩ = some (.int .i64 mn2) ∧ w'.cell? ⟨X, 8, none⟩ = some (.int .i64 mx2) ∧ w'.cell? ⟨X, 9, none⟩ = some (.bool lz2) ∧ w'.cell? ⟨w.heap.size, 0, none⟩ = some (.int .i64 op) ∧ w'.cell? ⟨w.heap.size, 1, none⟩ = some (.slice (some ⟨b, o, none⟩) 1 kc) ∧ w'.cell? ⟨w.heap.size, 2, none⟩ = some (.int .i32 rune) ∧ w'.cell? ⟨w.heap.size, 3, none⟩ = some (.slice sa sn sc) ∧ w'.cell? ⟨w.heap.size, 4, none⟩ = some (.int .i64 pl) ∧ w'.cell? ⟨w.heap.size, 5, none⟩ = some (.int .i64 cap) ∧ w'.cell? ⟨w.heap.size, 6, none⟩ = some (.string name) ∧ w'.cell? ⟨w.heap.size, 7, none⟩ = some (.int .i64 n1) ∧ w'.cell? ⟨w.heap.size, 8, none⟩ = some (.int .i64 mx) ∧ w'.cell? ⟨w.heap.size, 9, none⟩ = some (.bool lz))
              (first | (refine ⟨below_keep (below_keep hd4 hN4 hb5) hN4 hb6, cell_keep hb6 (cell_keep hb5 (by assumption)), cell_keep hb6 (cell_keep hb5 (by assumption)), cell_keep hb6 (cell_keep hb5 (by assumption)), cell_keep hb6 (cell_keep hb5 (by assumption)), cell_keep hb6 (cell_keep hb5 (by assumption)), cell_keep hb6 (cell_keep hb5 (by assumption)), cell_keep hb6 (cell_keep hb5 (by assumption)), cell_keep hb6 (cell_keep hb5 (by assumption)), cell_keep hb6 (cell_keep hb5 (by assumption)), cell_keep hb6 (cell_keep hb5 (by assumption)), cell_keep hb6 (cell_keep hb5 (by assumption)), cell_keep hb6 (cell_keep hb5 (by assumption)), cell_keep hb6 (cell_keep hb5 (by assumption)), cell_keep hb6 (cell_keep hb5 (by assumption)), cell_keep hb6 (cell_keep hb5 (by assumption)), cell_keep hb6 (cell_keep hb5 (by assumption)), cell_keep hb6 (cell_keep hb5 (by assumption)), cell_keep hb6 (cell_keep hb5 (by assumption)), cell_keep hb6 (cell_keep hb5 (by assumption)), cell_keep hb6 (cell_keep hb5 (by assumption))⟩) | (refine ⟨below_keep hd4 hN4 hb5, cell_keep hb5 (by assumption), cell_keep hb5 (by assumption), cell_keep hb5 (by assumption), cell_keep hb5 (by assumption), cell_keep hb5 (by assumption), cell_keep hb5 (by assumption), cell_keep hb5 (by assumption), cell_keep hb5 (by assumption), cell_keep hb5 (by assumption), cell_keep hb5 (by assumption), cell_keep hb5 (by assumption), cell_keep hb5 (by assumption), cell_keep hb5 (by assumption), cell_keep hb5 (by assumption), cell_keep hb5 (by assumption), cell_keep hb5 (by assumption), cell_keep hb5 (by assumption), cell_keep hb5 (by assumption), cell_keep hb5 (by assumption), cell_keep hb5 (by assumption)⟩) | go_keep)
              (first | (go_at_call 11; refine (IHk.out _ (by assumption)).mono ?_; rintro e w5 ⟨rfl, hb5⟩; have hs5 := below_keep hd4 hN4 hb5) | (go_at_call 32; refine (HREP.out _ (by assumption)).mono ?_; rintro e w6 ⟨rfl, hb6⟩))
            go_wp2_with fail
            go_ret
            refine ⟨?_, HB4.out.trans (below_keep (below_keep hd4 hN4 hb5) hN4 hb6)⟩
            rw [HTX.out, textT_rep _ _ _ _ _ _ _ _ HOP.out, HMUST.out, HTX2.out]
            show Ending.returned (.string ((⟨[40, 63, 58].toArray⟩ : ByteArray) ++ S ++ ⟨[41].toArray⟩ ++ R)) = _
            rw [← HS.out, ← HR.out, ba_app, ba_app, ba_app, bracedTx_yes]
          · skip
            have d1 : (op2 == 11) = false := by simpa using h11
            have d2 : (op2 != 11) = true := by simpa using h11
            have d3 : decide (7 ≤ op2) = true := decide_eq_true h7
            clear h11
            go_upto_region 40 with (fail)
            go_region_held3 (fun w' => Below w.heap.size W4 w' ∧ w'.cell? ⟨X, 0, none⟩ = some (.int .i64 op2) ∧ w'.cell? ⟨X, 1, none⟩ = some (.slice ka2 kids2.length kc2) ∧ w'.cell? ⟨X, 2, none⟩ = some (.int .i32 rune2) ∧ w'.cell? ⟨X, 3, none⟩ = some (.slice sa2 sn2 sc2) ∧ w'.cell? ⟨X, 4, none⟩ = some (.int .i64 pl2) ∧ w'.cell? ⟨X, 5, none⟩ = some (.int .i64 cap2) ∧ w'.cell? ⟨X, 6, none⟩ = some (.string name2) ∧ w'.cell? ⟨X, 7, none⟩ = some (.int .i64 mn2) ∧ w'.cell? ⟨X, 8, none⟩ = some (.int .i64 mx2) ∧ w'.cell? ⟨X, 9, none⟩ = some (.bool lz2) ∧ w'.cell? ⟨w.heap.size, 0, none⟩ = some (.int .i64 op) ∧ w'.cell? ⟨w.heap.size, 1, none⟩ = some (.slice (some ⟨b, o, none⟩) 1 kc) ∧ w'.cell? ⟨w.heap.size, 2, none⟩ = some (.int .i32 rune) ∧ w'.cell? ⟨w.heap.size, 3, none⟩ = some (.slice sa sn sc) ∧ w'.cell? ⟨w.heap.size, 4, none⟩ = some (.int .i64 pl) ∧ w'.cell? ⟨w.heap.size, 5, none⟩ = some (.int .i64 cap) ∧ w'.cell? ⟨w.heap.size, 6, none⟩ = some (.string name) ∧ w'.cell? ⟨w.heap.size, 7, none⟩ = some (.int .i64 n1) ∧ w'.cell? ⟨w.heap.size, 8, none⟩ = some (.int .i64 mx) ∧ w'.cell? ⟨w.heap.size, 9, none⟩ = some (.bool lz))
              (first | (refine ⟨below_keep (below_keep hd4 hN4 hb5) hN4 hb6, cell_keep hb6 (cell_keep hb5 (by assumption)), cell_keep hb6 (cell_keep hb5 (by assumption)), cell_keep hb6 (cell_keep hb5 (by assumption)), cell_keep hb6 (cell_keep hb5 (by assumption)), cell_keep hb6 (cell_keep hb5 (by assumption)), cell_keep hb6 (cell_keep hb5 (by assumption)), cell_keep hb6 (cell_keep hb5 (by assumption)), cell_keep hb6 (cell_keep hb5 (by assumption)), cell_keep hb6 (cell_keep hb5 (by assumption)), cell_keep hb6 (cell_keep hb5 (by assumption)), cell_keep hb6 (cell_keep hb5 (by assumption)), cell_keep hb6 (cell_keep hb5 (by assumption)), cell_keep hb6 (cell_keep hb5 (by assumption)), cell_keep hb6 (cell_keep hb5 (by assumption)), cell_keep hb6 (cell_keep hb5 (by assumption)), cell_keep hb6 (cell_keep hb5 (by assumption)), cell_keep hb6 (cell_keep hb5 (by assumption)), cell_keep hb6 (cell_keep hb5 (by assumption)), cell_keep hb6 (cell_keep hb5 (by assumption)), cell_keep hb6 (cell_keep hb5 (by assumption))⟩) | (refine ⟨below_keep hd4 hN4 hb5, cell_keep hb5 (by assumption), cell_keep hb5 (by assumption), cell_keep hb5 (by assumption), cell_keep hb5 (by assumption), cell_keep hb5 (by assumption), cell_keep hb5 (by assumption), cell_keep hb5 (by assumption), cell_keep hb5 (by assumption), cell_keep hb5 (by assumption), cell_keep hb5 (by assumption), cell_keep hb5 (by assumption), cell_keep hb5 (by assumption), cell_keep hb5 (by assumption), cell_keep hb5 (by assumption), cell_keep hb5 (by assumption), cell_keep hb5 (by assumption), cell_keep hb5 (by assumption), cell_keep hb5 (by assumption), cell_keep hb5 (by assumption), cell_keep hb5 (by assumption)⟩) | go_keep)
              (first | (go_at_call 11; refine (IHk.out _ (by assumption)).mono ?_; rintro e w5 ⟨rfl, hb5⟩; have hs5 := below_keep hd4 hN4 hb5) | (go_at_call 32; refine (HREP.out _ (by assumption)).mono ?_; rintro e w6 ⟨rfl, hb6⟩))
            go_wp2_with fail
            go_ret
            refine ⟨?_, HB4.out.trans (below_keep (below_keep hd4 hN4 hb5) hN4 hb6)⟩
            rw [HTX.out, textT_rep _ _ _ _ _ _ _ _ HOP.out, HMUST.out, HTX2.out]
            show Ending.returned (.string ((⟨[40, 63, 58].toArray⟩ : ByteArray) ++ S ++ ⟨[41].toArray⟩ ++ R)) = _
            rw [← HS.out, ← HR.out, ba_app, ba_app, ba_app, bracedTx_yes]
        · have hmust2 : mustT k1 = false := by simpa using hmust
          have HMUST := Lib.hid hmust2
          have hm2 := HMU.out
          rw [hmust2] at hm2
          have q3 : ¬ 9223372036854775807 < S.size + R.size := by omega
          have hsplit : (op2 = 11 ∧ ¬ 0 < kids2.length) ∨ (op2 ≠ 11 ∧ ¬ 7 ≤ op2) := by
            by_cases h11 : op2 = 11
            · exact .inl ⟨h11, of_decide_eq_false (by rw [if_pos (by exact h11)] at hm2; exact hm2.symm)⟩
            · exact .inr ⟨h11, of_decide_eq_false (by rw [if_neg (by exact h11)] at hm2; exact hm2.symm)⟩
          clear hm2 hmust hmust2
          rcases hsplit with ⟨rfl, hlen⟩ | ⟨h11, h7⟩
          · skip
            have d1 : decide (0 < kids2.length) = false := decide_eq_false hlen
            go_upto_region 41 with (fail)
            go_region_held3 (fun w' => Below w.heap.size W4 w' ∧ w'.cell? ⟨X, 0, none⟩ = some (.int .i64 11) ∧ w'.cell? ⟨X, 1, none⟩ = some (.slice ka2 kids2.length kc2) ∧ w'.cell? ⟨X, 2, none⟩ = some (.int .i32 rune2) ∧ w'.cell? ⟨X, 3, none⟩ = some (.slice sa2 sn2 sc2) ∧ w'.cell? ⟨X, 4, none⟩ = some (.int .i64 pl2) ∧ w'.cell? ⟨X, 5, none⟩ = some (.int .i64 cap2) ∧ w'.cell? ⟨X, 6, none⟩ = some (.string name2) ∧ w'.cell? ⟨X, 7, none⟩ = some (.int .i64 mn2) ∧ w'.cell? ⟨X, 8, none⟩ = some (.int .i64 mx2) ∧ w'.cell? ⟨X, 9, none⟩ = some (.bool lz2) ∧ w'.cell? ⟨w.heap.size, 0, none⟩ = some (.int .i64 op) ∧ w'.cell? ⟨w.heap.size, 1, none⟩ = some (.slice (some ⟨b, o, none⟩) 1 kc) ∧ w'.cell? ⟨w.heap.size, 2, none⟩ = some (.int .i32 rune) ∧ w'.cell? ⟨w.heap.size, 3, none⟩ = some (.slice sa sn sc) ∧ w'.cell? ⟨w.heap.size, 4, none⟩ = some (.int .i64 pl) ∧ w'.cell? ⟨w.heap.size, 5, none⟩ = some (.int .i64 cap) ∧ w'.cell? ⟨w.heap.size, 6, none⟩ = some (.string name) ∧ w'.cell? ⟨w.heap.size, 7, none⟩ = some (.int .i64 n1) ∧ w'.cell? ⟨w.heap.size, 8, none⟩ = some (.int .i64 mx) ∧ w'.cell? ⟨w.heap.size, 9, none⟩ = some (.bool lz))
              (first | (refine ⟨below_keep (below_keep hd4 hN4 hb5) hN4 hb6, cell_keep hb6 (cell_keep hb5 (by assumption)), cell_keep hb6 (cell_keep hb5 (by assumption)), cell_keep hb6 (cell_keep hb5 (by assumption)), cell_keep hb6 (cell_keep hb5 (by assumption)), cell_keep hb6 (cell_keep hb5 (by assumption)), cell_keep hb6 (cell_keep hb5 (by assumption)), cell_keep hb6 (cell_keep hb5 (by assumption)), cell_keep hb6 (cell_keep hb5 (by assumption)), cell_keep hb6 (cell_keep hb5 (by assumption)), cell_keep hb6 (cell_keep hb5 (by assumption)), cell_keep hb6 (cell_keep hb5 (by assumption)), cell_keep hb6 (cell_keep hb5 (by assumption)), cell_keep hb6 (cell_keep hb5 (by assumption)), cell_keep hb6 (cell_keep hb5 (by assumption)), cell_keep hb6 (cell_keep hb5 (by assumption)), cell_keep hb6 (cell_keep hb5 (by assumption)), cell_keep hb6 (cell_keep hb5 (by assumption)), cell_keep hb6 (cell_keep hb5 (by assumption)), cell_keep hb6 (cell_keep hb5 (by assumption)), cell_keep hb6 (cell_keep hb5 (by assumption))⟩) | (refine ⟨below_keep hd4 hN4 hb5, cell_keep hb5 (by assumption), cell_keep hb5 (by assumption), cell_keep hb5 (by assumption), cell_keep hb5 (by assumption), cell_keep hb5 (by assumption), cell_keep hb5 (by assumption), cell_keep hb5 (by assumption), cell_keep hb5 (by assumption), cell_keep hb5 (by assumption), cell_keep hb5 (by assumption), cell_keep hb5 (by assumption), cell_keep hb5 (by assumption), cell_keep hb5 (by assumption), cell_keep hb5 (by assumption), cell_keep hb5 (by assumption), cell_keep hb5 (by assumption), cell_keep hb5 (by assumption), cell_keep hb5 (by assumption), cell_keep hb5 (by assumption), cell_keep hb5 (by assumption)⟩) | go_keep)
              (first | (go_at_call 11; refine (IHk.out _ (by assumption)).mono ?_; rintro e w5 ⟨rfl, hb5⟩; have hs5 := below_keep hd4 hN4 hb5) | (go_at_call 32; refine (HREP.out _ (by assumption)).mono ?_; rintro e w6 ⟨rfl, hb6⟩))
            go_wp2_with fail
            go_ret
            refine ⟨?_, HB4.out.trans (below_keep (below_keep hd4 hN4 hb5) hN4 hb6)⟩
            rw [HTX.out, textT_rep _ _ _ _ _ _ _ _ HOP.out, HMUST.out, HTX2.out]
            show Ending.returned (.string (S ++ R)) = _
            rw [← HS.out, ← HR.out, ba_app]; rfl
          · skip
            have d1 : (op2 == 11) = false := by simpa using h11
            have d3 : decide (7 ≤ op2) = false := decide_eq_false h7
            clear h11
            go_upto_region 41 with (fail)
            go_region_held3 (fun w' => Below w.heap.size W4 w' ∧ w'.cell? ⟨X, 0, none⟩ = some (.int .i64 op2) ∧ w'.cell? ⟨X, 1, none⟩ = some (.slice ka2 kids2.length kc2) ∧ w'.cell? ⟨X, 2, none⟩ = some (.int .i32 rune2) ∧ w'.cell? ⟨X, 3, none⟩ = some (.slice sa2 sn2 sc2) ∧ w'.cell? ⟨X, 4, none⟩ = some (.int .i64 pl2) ∧ w'.cell? ⟨X, 5, none⟩ = some (.int .i64 cap2) ∧ w'.cell? ⟨X, 6, none⟩ = some (.string name2) ∧ w'.cell? ⟨X, 7, none⟩ = some (.int .i64 mn2) ∧ w'.cell? ⟨X, 8, none⟩ = some (.int .i64 mx2) ∧ w'.cell? ⟨X, 9, none⟩ = some (.bool lz2) ∧ w'.cell? ⟨w.heap.size, 0, none⟩ = some (.int .i64 op) ∧ w'.cell? ⟨w.heap.size, 1, none⟩ = some (.slice (some ⟨b, o, none⟩) 1 kc) ∧ w'.cell? ⟨w.heap.size, 2, none⟩ = some (.int .i32 rune) ∧ w'.cell? ⟨w.heap.size, 3, none⟩ = some (.slice sa sn sc) ∧ w'.cell? ⟨w.heap.size, 4, none⟩ = some (.int .i64 pl) ∧ w'.cell? ⟨w.heap.size, 5, none⟩ = some (.int .i64 cap) ∧ w'.cell? ⟨w.heap.size, 6, none⟩ = some (.string name) ∧ w'.cell? ⟨w.heap.size, 7, none⟩ = some (.int .i64 n1) ∧ w'.cell? ⟨w.heap.size, 8, none⟩ = some (.int .i64 mx) ∧ w'.cell? ⟨w.heap.size, 9, none⟩ = some (.bool lz))
              (first | (refine ⟨below_keep (below_keep hd4 hN4 hb5) hN4 hb6, cell_keep hb6 (cell_keep hb5 (by assumption)), cell_keep hb6 (cell_keep hb5 (by assumption)), cell_keep hb6 (cell_keep hb5 (by assumption)), cell_keep hb6 (cell_keep hb5 (by assumption)), cell_keep hb6 (cell_keep hb5 (by assumption)), cell_keep hb6 (cell_keep hb5 (by assumption)), cell_keep hb6 (cell_keep hb5 (by assumption)), cell_keep hb6 (cell_keep hb5 (by assumption)), cell_keep hb6 (cell_keep hb5 (by assumption)), cell_keep hb6 (cell_keep hb5 (by assumption)), cell_keep hb6 (cell_keep hb5 (by assumption)), cell_keep hb6 (cell_keep hb5 (by assumption)), cell_keep hb6 (cell_keep hb5 (by assumption)), cell_keep hb6 (cell_keep hb5 (by assumption)), cell_keep hb6 (cell_keep hb5 (by assumption)), cell_keep hb6 (cell_keep hb5 (by assumption)), cell_keep hb6 (cell_keep hb5 (by assumption)), cell_keep hb6 (cell_keep hb5 (by assumption)), cell_keep hb6 (cell_keep hb5 (by assumption)), cell_keep hb6 (cell_keep hb5 (by assumption))⟩) | (refine ⟨below_keep hd4 hN4 hb5, cell_keep hb5 (by assumption), cell_keep hb5 (by assumption), cell_keep hb5 (by assumption), cell_keep hb5 (by assumption), cell_keep hb5 (by assumption), cell_keep hb5 (by assumption), cell_keep hb5 (by assumption), cell_keep hb5 (by assumption), cell_keep hb5 (by assumption), cell_keep hb5 (by assumption), cell_keep hb5 (by assumption), cell_keep hb5 (by assumption), cell_keep hb5 (by assumption), cell_keep hb5 (by assumption), cell_keep hb5 (by assumption), cell_keep hb5 (by assumption), cell_keep hb5 (by assumption), cell_keep hb5 (by assumption), cell_keep hb5 (by assumption), cell_keep hb5 (by assumption)⟩) | go_keep)
              (first | (go_at_call 11; refine (IHk.out _ (by assumption)).mono ?_; rintro e w5 ⟨rfl, hb5⟩; have hs5 := below_keep hd4 hN4 hb5) | (go_at_call 32; refine (HREP.out _ (by assumption)).mono ?_; rintro e w6 ⟨rfl, hb6⟩))
            go_wp2_with fail
            go_ret
            refine ⟨?_, HB4.out.trans (below_keep (below_keep hd4 hN4 hb5) hN4 hb6)⟩
            rw [HTX.out, textT_rep _ _ _ _ _ _ _ _ HOP.out, HMUST.out, HTX2.out]
            show Ending.returned (.string (S ++ R)) = _
            rw [← HS.out, ← HR.out, ba_app]; rfl
      · -- one behind the other
        have HAL := Lib.hid (throughT_alone HU.out)
        go_wp2_with fail
        go_loopw [3, 4] (fun sv iv wr => ∃ (k : Nat) (S : ByteArray), k ≤ kids.length ∧ iv = .int .i64 k ∧ sv = .string S ∧ S = ⟨((brTs (kids.take k)).flatten).toArray⟩ ∧ Below W3.heap.size W3 wr) (fun _ iv _ => kids.length - (intOf iv).toNat)
        case atStart => exact ⟨0, ⟨#[]⟩, Nat.zero_le _, rfl, rfl, rfl, Below.refl _ _⟩
        case round =>
          obtain ⟨k, S, hk, rfl, rfl, hS, hbw⟩ := hrel
          have HS := Lib.hid hS; have HBW := Lib.hid hbw
          have hSs : S.size ≤ 100000000 := by
            have h1 := brs_len (kids.take k) (fun q hq => HUP.out.kid q (List.mem_of_mem_take hq))
            have h2 := pcL_take_le kids k
            have h3 := HUC.out
            simp only [pcT] at h3
            rw [hS]
            show ((brTs (kids.take k)).flatten).length ≤ _
            omega
          have htb := HX.out.below hbw HX.out.lt
          have HTBX := Lib.hid htb
          clear hS hbw x0 x1 x2 x3 x4 x5 x6 x7 x8 x9
          have x1 := htb.cell (j := 1) rfl
          clear htb
          by_cases hlt : k < kids.length
          · rcases HKV.out with h0 | ⟨b, o, rfl, hbB, hK⟩
            · omega
            obtain ⟨cs, hc, hr⟩ := (hK.get k hlt)
            have hc' := hc.below (HBW.out.mono (Nat.le_trans HBB.out HB3.out.size))
            have hr' := hr.below (HBW.out.mono (Nat.le_trans HBB.out HB3.out.size)) hbB
            obtain ⟨op1, ka1, kn1, kc1, rune1, sa1, sn1, sc1, pl1, cap1, name1, mn1, mx1, lz1, rfl⟩ := hc.form
            obtain ⟨g0, g1, g2, g3, g4, g5, g6, g7, g8, g9⟩ := hr'.ten
            have hk1 : PlainAll kids[k] := HUP.out.kid _ (List.getElem_mem hlt)
            have hpck := pcT_mem (List.getElem_mem hlt)
            have hpcu : pcL kids ≤ 1000000 := by have := HUC.out; simp only [pcT] at this; omega
            have hk2 : pcT kids[k] ≤ 1000000 := by omega
            have HC := Lib.hid hc'
            have HW4S := Lib.hid (show w.heap.size ≤ wr.heap.size from Nat.le_trans HB3.out.size HBW.out.size)
            have hus2 : SizeOf.sizeOf (throughT kids[k]) ≤ n := by
              have h1 := throughT_size kids[k]
              have h2 := List.sizeOf_lt_of_mem (List.getElem_mem hlt)
              have h3 := HUS.out
              simp at h3; omega
            have HQ := Lib.hid (brs_take kids k hlt)
            have HBR := Lib.hid (ref09_bare kids[k] _ B wr hc' (Nat.le_trans HBB.out HW4S.out))
            have hsz2 := text_size hk1 hk2
            obtain ⟨u2, hu2⟩ : ∃ u2, u2 = throughT kids[k] := ⟨_, rfl⟩
            have hup2 : PlainAll u2 := by rw [hu2]; exact hk1.through
            have huc2 : pcT u2 ≤ 1000000 := by rw [hu2]; exact Nat.le_trans (throughT_pc kids[k]) hk2
            have HTX2 := Lib.hid (show textT kids[k] = textT u2 by rw [hu2, textT_through])
            rw [← hu2] at HBR HQ hus2
            rw [HTX2.out] at hsz2
            clear hc hr hr' hc' hK hk1 hpck hpcu hk2 hu2
            go_wp2_with fail
            refine (HBR.out).mono ?_
            rintro e wb ⟨⟨cs3, rfl, hv3⟩, hbb⟩
            obtain ⟨op2, kids2, rune2, set2, pl2, cap2, name2, mn2, mx2, lz2⟩ := u2
            have HV3 := Lib.hid hv3
            obtain ⟨ka2, kn2, kc2, sa2, sn2, sc2, rfl, ⟨rfl, j2, _⟩, _⟩ := hv3.open
            have HBB2 := Lib.hid hbb
            clear hv3 hbb g0 g1 g2 g3 g4 g5 g6 g7 g8 g9 x1
            go_upto_region 23 with (fail)
            obtain ⟨W4, hW4⟩ : ∃ W4, W4 = wb.alloc (.cells #[.int .i64 op2, .slice ka2 kids2.length kc2, .int .i32 rune2, .slice sa2 sn2 sc2, .int .i64 pl2, .int .i64 cap2, .string name2, .int .i64 mn2, .int .i64 mx2, .bool lz2] 27) := ⟨_, rfl⟩
            obtain ⟨X, hX⟩ : ∃ X, X = wb.heap.size := ⟨_, rfl⟩
            have hxb : Blk W4 X [.int .i64 op2, .slice ka2 kids2.length kc2, .int .i32 rune2, .slice sa2 sn2 sc2, .int .i64 pl2, .int .i64 cap2, .string name2, .int .i64 mn2, .int .i64 mx2, .bool lz2] 27 := by rw [hW4, hX]; exact Blk.new wb [.int .i64 op2, .slice ka2 kids2.length kc2, .int .i32 rune2, .slice sa2 sn2 sc2, .int .i64 pl2, .int .i64 cap2, .string name2, .int .i64 mn2, .int .i64 mx2, .bool lz2] 27
            have HBW4 := Lib.hid (show Below W3.heap.size W3 W4 by rw [hW4]; exact (below_then HBW.out HBB2.out).alloc (Nat.le_trans HBW.out.size HBB2.out.size) _)
            have HV4 := Lib.hid (show TreeV W4 B (.mk op2 kids2 rune2 set2 pl2 cap2 name2 mn2 mx2 lz2) _ by rw [hW4]; exact HV3.out.below ((Below.refl _ wb).alloc (Nat.le_trans HBB.out (Nat.le_trans HW4S.out HBB2.out.size)) _))
            rw [← hW4, ← hX]
            clear hW4 hX
            have z0 := hxb.cell (j := 0) rfl; have z1 := hxb.cell (j := 1) rfl; have z2 := hxb.cell (j := 2) rfl; have z3 := hxb.cell (j := 3) rfl; have z4 := hxb.cell (j := 4) rfl
            have z5 := hxb.cell (j := 5) rfl; have z6 := hxb.cell (j := 6) rfl; have z7 := hxb.cell (j := 7) rfl; have z8 := hxb.cell (j := 8) rfl; have z9 := hxb.cell (j := 9) rfl
            clear hxb
            have HB4 := Lib.hid (HB3.out.trans (HBW4.out.mono HB3.out.size))
            have HCT := Lib.hid (IH.out (.mk op2 kids2 rune2 set2 pl2 cap2 name2 mn2 mx2 lz2) hus2 _ B W4 HV4.out (Nat.le_trans HBB.out HB4.out.size) hup2 huc2 (HTB.out _ HB4.out))
            generalize hS2 : (⟨(textT (.mk op2 kids2 rune2 set2 pl2 cap2 name2 mn2 mx2 lz2)).toArray⟩ : ByteArray) = S2 at HCT hsz2
            have HS2 := Lib.hid hS2
            clear hS2 hus2 hup2 huc2
            by_cases h12 : op2 = 12
            · subst h12
              go_wp2_with fail
              refine (HCT.out).mono ?_
              rintro e w5 ⟨rfl, hb5⟩
              have HB5 := Lib.hid (below_then HBW4.out hb5)
              clear hb5
              go_wp2_with fail
              go_roundw
              case rel =>
                refine ⟨k + 1, _, hlt, by go_num, rfl, ?_, HB5.out⟩
                rw [HQ.out, HTX2.out, show decide ((T.mk 12 kids2 rune2 set2 pl2 cap2 name2 mn2 mx2 lz2).op = 12) = true from rfl, bracedTx_yes, HS.out, ← HS2.out]
                show (⟨((brTs (kids.take k)).flatten).toArray⟩ : ByteArray) ++ ⟨[40, 63, 58].toArray⟩ ++ ⟨(textT (.mk 12 kids2 rune2 set2 pl2 cap2 name2 mn2 mx2 lz2)).toArray⟩ ++ ⟨[41].toArray⟩ = _
                rw [ba_app, ba_app, ba_app]; simp
              case measure => simp [intOf]; omega
            · have d1 : (op2 == 12) = false := by simpa using h12
              have H12 := Lib.hid h12
              clear h12
              go_wp2_with fail
              refine (HCT.out).mono ?_
              rintro e w5 ⟨rfl, hb5⟩
              have HB5 := Lib.hid (below_then HBW4.out hb5)
              clear hb5
              go_wp2_with fail
              go_roundw
              case rel =>
                refine ⟨k + 1, _, hlt, by go_num, rfl, ?_, HB5.out⟩
                rw [HQ.out, HTX2.out, show decide ((T.mk op2 kids2 rune2 set2 pl2 cap2 name2 mn2 mx2 lz2).op = 12) = false from decide_eq_false H12.out, HS.out, ← HS2.out, ba_app]
                rfl
              case measure => simp [intOf]; omega
          · have hke : k = kids.length := by omega
            have HBF := Lib.hid (HB3.out.trans (HBW.out.mono HB3.out.size))
            have HSE := Lib.hid (show S = ⟨((brTs kids).flatten).toArray⟩ by rw [HS.out, hke, List.take_length])
            have HT11 := Lib.hid (textT_11 kids rune set pl cap name mn mx lz (fun e => HAL.out ⟨e, (by simp)⟩))
            clear hke
            by_cases h0 : kids.length = 0
            · have HT := Lib.hid (show textT (.mk 11 kids rune set pl cap name mn mx lz) = [40, 63, 58, 41] by rw [HT11.out, if_pos h0])
              obtain rfl := List.eq_nil_of_length_eq_zero h0
              clear h0
              simp only [List.length_nil] at *
              go_wp2_with fail
              go_ret
              exact ⟨by rw [HTX.out, HT.out]; rfl, HBF.out⟩
            · have HT := Lib.hid (show textT (.mk 11 kids rune set pl cap name mn mx lz) = (brTs kids).flatten by rw [HT11.out, if_neg h0])
              have d0 : ((kids.length : Int) == 0) = false := beq_eq_false_iff_ne.2 (by omega)
              have d1 : ¬ kids = [] := fun e => h0 (by rw [e]; rfl)
              clear h0
              go_wp2_with fail
              go_ret
              exact ⟨by rw [HTX.out, HT.out, ← HSE.out]; rfl, HBF.out⟩
      · -- one of several
        go_wp2_with fail
        go_loopw [6, 7] (fun sv iv wr => ∃ (k : Nat) (S : ByteArray), k ≤ kids.length ∧ iv = .int .i64 k ∧ sv = .string S ∧ S = ⟨(joinTx (textsT (kids.take k))).toArray⟩ ∧ Below W3.heap.size W3 wr) (fun _ iv _ => kids.length - (intOf iv).toNat)
        case atStart => exact ⟨0, ⟨#[]⟩, Nat.zero_le _, rfl, rfl, rfl, Below.refl _ _⟩
        case round =>
          obtain ⟨k, S, hk, rfl, rfl, hS, hbw⟩ := hrel
          have HS := Lib.hid hS; have HBW := Lib.hid hbw
          have hSs : S.size ≤ 100000000 := by
            have h1 := join_len (kids.take k) (fun q hq => HUP.out.kid q (List.mem_of_mem_take hq))
            have h2 := pcL_take_le kids k
            have h3 := HUC.out
            simp only [pcT] at h3
            rw [hS]
            show (joinTx (textsT (kids.take k))).length ≤ _
            omega
          have htb := HX.out.below hbw HX.out.lt
          clear hS hbw x0 x1 x2 x3 x4 x5 x6 x7 x8 x9
          have x1 := htb.cell (j := 1) rfl
          clear htb
          by_cases hlt : k < kids.length
          · rcases HKV.out with h0 | ⟨b, o, rfl, hbB, hK⟩
            · omega
            obtain ⟨cs, hc, hr⟩ := (hK.get k hlt)
            have hc' := hc.below (HBW.out.mono (Nat.le_trans HBB.out HB3.out.size))
            have hr' := hr.below (HBW.out.mono (Nat.le_trans HBB.out HB3.out.size)) hbB
            obtain ⟨op1, ka1, kn1, kc1, rune1, sa1, sn1, sc1, pl1, cap1, name1, mn1, mx1, lz1, rfl⟩ := hc.form
            obtain ⟨g0, g1, g2, g3, g4, g5, g6, g7, g8, g9⟩ := hr'.ten
            have hk1 : PlainAll kids[k] := HUP.out.kid _ (List.getElem_mem hlt)
            have hpck := pcT_mem (List.getElem_mem hlt)
            have hpcu : pcL kids ≤ 1000000 := by have := HUC.out; simp only [pcT] at this; omega
            have hk2 : pcT kids[k] ≤ 1000000 := by omega
            have HC := Lib.hid hc'
            have HW4S := Lib.hid (show w.heap.size ≤ wr.heap.size from Nat.le_trans HB3.out.size HBW.out.size)
            have hus2 : SizeOf.sizeOf kids[k] ≤ n := by
              have h2 := List.sizeOf_lt_of_mem (List.getElem_mem hlt)
              have h3 := HUS.out
              simp at h3; omega
            have HQ := Lib.hid (show joinTx (textsT (kids.take (k + 1))) = if textsT (kids.take k) = [] then textT kids[k] else joinTx (textsT (kids.take k)) ++ [124] ++ textT kids[k] by rw [texts_take kids k hlt, joinTx_snoc])
            have HNE := Lib.hid (show textsT (kids.take k) = [] ↔ k = 0 by
              rw [textsT_map, List.map_eq_nil_iff]
              constructor
              · intro h
                have := congrArg List.length h
                rw [List.length_take, List.length_nil] at this; omega
              · rintro rfl; rfl)
            have HB4 := Lib.hid (HB3.out.trans (HBW.out.mono HB3.out.size))
            have hsz2 := text_size hk1 hk2
            have HCT := Lib.hid (IH.out kids[k] hus2 _ B wr hc' (Nat.le_trans HBB.out HW4S.out) hk1 hk2 (HTB.out _ HB4.out))
            generalize hS2 : (⟨(textT kids[k]).toArray⟩ : ByteArray) = S2 at HCT hsz2
            have HS2 := Lib.hid hS2
            clear hc hr hr' hc' hK hk1 hpck hpcu hk2 hS2 hus2
            by_cases hk0 : k = 0
            · have HK0 := Lib.hid hk0
              have d0 : decide (0 < k) = false := by simp; omega
              have d1 : ¬ 0 < k := by omega
              clear hk0
              go_wp2_with fail
              refine (HCT.out).mono ?_
              rintro e w5 ⟨rfl, hb5⟩
              have HB5 := Lib.hid (below_then HBW.out hb5)
              clear hb5
              go_wp2_with fail
              go_roundw
              case rel =>
                refine ⟨k + 1, _, hlt, by go_num, rfl, ?_, HB5.out⟩
                rw [HQ.out, if_pos (HNE.out.2 HK0.out), HS.out, HNE.out.2 HK0.out, ← HS2.out]
                show (⟨([] : List UInt8).toArray⟩ : ByteArray) ++ ⟨(textT kids[k]).toArray⟩ = _
                rw [ba_app]; rfl
              case measure => simp [intOf]; omega
            · have HK0 := Lib.hid hk0
              have d0 : decide (0 < k) = true := by simp; omega
              have d1 : 0 < k := by omega
              clear hk0
              go_wp2_with fail
              refine (HCT.out).mono ?_
              rintro e w5 ⟨rfl, hb5⟩
              have HB5 := Lib.hid (below_then HBW.out hb5)
              clear hb5
              go_wp2_with fail
              go_roundw
              case rel =>
                refine ⟨k + 1, _, hlt, by go_num, rfl, ?_, HB5.out⟩
                rw [HQ.out, if_neg (fun h => HK0.out (HNE.out.1 h)), HS.out, ← HS2.out]
                show (⟨(joinTx (textsT (kids.take k))).toArray⟩ : ByteArray) ++ ⟨[124].toArray⟩ ++ ⟨(textT kids[k]).toArray⟩ = _
                rw [ba_app, ba_app]
              case measure => simp [intOf]; omega
          · have HBF := Lib.hid (HB3.out.trans (HBW.out.mono HB3.out.size))
            have HSE := Lib.hid (show S = ⟨(joinTx (textsT kids)).toArray⟩ by rw [HS.out, show k = kids.length by omega, List.take_length])
            go_wp2_with fail
            go_ret
            exact ⟨by rw [HTX.out, textT_12, ← HSE.out]; rfl, HBF.out⟩
end Go.Proofs.YtihbmgpjihgodaaGreatDoor
