/- A right tree's text: the program's, of a repeat (Op 7). (Printed by gen_textg.py.) -/
import Derived.Test.YtihbmgpjihgodaaGreatDoorQTextAid
namespace Go.Proofs.YtihbmgpjihgodaaGreatDoor
open Go Go.RowKit Go.Proofs Go.Shelf
attribute [local go_sem ↓] Go.wp_at_zero Go.wp_at_succ

set_option maxRecDepth 100000 in
set_option maxHeartbeats 8000000 in
theorem printer_text_7 (n : Nat) (ih : ∀ (t : T), SizeOf.sizeOf t ≤ n → ∀ (cs : List Value) (B : Nat) (w : World), TreeV w B t cs → B ≤ w.heap.size → PlainAll t → pcT t ≤ 1000000 → Tb w →
    Calls Tryz.prog 9 #[.agg cs.toArray] w fun e w' => e = .returned (.string ⟨(textT t).toArray⟩) ∧ Below w.heap.size w w') (t : T) (hsz : SizeOf.sizeOf t ≤ n + 1) (hop : (throughT t).op = 7) (cs : List Value) (B : Nat) (w : World) (h : TreeV w B t cs) (hB : B ≤ w.heap.size) (hP : PlainAll t) (hpc : pcT t ≤ 1000000) (hT : Tb w) :
    Calls Tryz.prog 9 #[.agg cs.toArray] w fun e w' => e = .returned (.string ⟨(textT t).toArray⟩) ∧ Below w.heap.size w w' := by
  obtain ⟨i0, hi, hz0, hz1, hz2⟩ := info_parts infoStrT
  have HThr := Lib.hid (fun o => printer_through t cs B (w.alloc o) (h.below (((Below.refl _ w).alloc (Nat.le_refl _) o).mono hB)) (by simp; omega))
  obtain ⟨u, hu⟩ : ∃ u, u = throughT t := ⟨_, rfl⟩
  rw [← hu] at hop
  have HTX := Lib.hid (show textT t = textT u by rw [hu, textT_through])
  have hus : SizeOf.sizeOf u ≤ n + 1 := by rw [hu]; exact Nat.le_trans (throughT_size t) hsz
  have hup : PlainAll u := by rw [hu]; exact hP.through
  have huc : pcT u ≤ 1000000 := by rw [hu]; exact Nat.le_trans (throughT_pc t) hpc
  have IH := Lib.hid ih
  have HTB := Lib.hid (fun W (hW : Below w.heap.size w W) => hT.below hW)
  have HBB := Lib.hid hB
  have HU := Lib.hid hu
  rw [← hu] at HThr
  obtain ⟨op0, ka0, kn0, kc0, rune0, sa0, sn0, sc0, pl0, cap0, name0, mn0, mx0, lz0, rfl⟩ := h.form
  clear h hP hpc hT ih hsz hB hu
  obtain ⟨op, kids, rune, set, pl, cap, name, mn, mx, lz⟩ := u
  obtain rfl : op = 7 := hop
  go_enter Tryz.func9, Tryz.ntmps9
  go_wp2_with fail
  refine (HThr.out _).mono ?_
  rintro e w2 ⟨⟨cs2, rfl, hv⟩, hb⟩
  have hz := (Blk.new w (cellsT op0 ka0 kn0 kc0 rune0 sa0 sn0 sc0 pl0 cap0 name0 mn0 mx0 lz0) 27).below hb (by simp)
  have HV := Lib.hid hv
  obtain ⟨ka, kn, kc, sa, sn, sc, rfl, ⟨rfl, h2, h3⟩, h4⟩ := hv.open
  have HB2 := Lib.hid (((Below.refl _ w).alloc (Nat.le_refl _) (.cells (cellsT op0 ka0 kn0 kc0 rune0 sa0 sn0 sc0 pl0 cap0 name0 mn0 mx0 lz0).toArray 27)).trans (hb.mono (by simp)))
  have HZ := Lib.hid hz; have H3 := Lib.hid h3; have H4 := Lib.hid h4
  clear hv hb h3 h4
  have z0 := hz.cell (j := 0) rfl; have y0 := hz.frozen 0
  have z1 := hz.cell (j := 1) rfl; have y1 := hz.frozen 1
  have z2 := hz.cell (j := 2) rfl; have y2 := hz.frozen 2
  have z3 := hz.cell (j := 3) rfl; have y3 := hz.frozen 3
  have z4 := hz.cell (j := 4) rfl; have y4 := hz.frozen 4
  have z5 := hz.cell (j := 5) rfl; have y5 := hz.frozen 5
  have z6 := hz.cell (j := 6) rfl; have y6 := hz.frozen 6
  have z7 := hz.cell (j := 7) rfl; have y7 := hz.frozen 7
  have z8 := hz.cell (j := 8) rfl; have y8 := hz.frozen 8
  have z9 := hz.cell (j := 9) rfl; have y9 := hz.frozen 9
  clear hz
  go_upto_region 3 with (fail)
  obtain ⟨W3, hW3⟩ : ∃ W3, W3 = World.set10 w2 w.heap.size (.int .i64 7) (.slice ka kids.length kc) (.int .i32 rune) (.slice sa sn sc) (.int .i64 pl) (.int .i64 cap) (.string name) (.int .i64 mn) (.int .i64 mx) (.bool lz) := ⟨_, rfl⟩
  have hb3 := HZ.out.set10 (.int .i64 7) (.slice ka kids.length kc) (.int .i32 rune) (.slice sa sn sc) (.int .i64 pl) (.int .i64 cap) (.string name) (.int .i64 mn) (.int .i64 mx) (.bool lz)
  have hg3 := grownBy_set10 w2 w.heap.size (.int .i64 7) (.slice ka kids.length kc) (.int .i32 rune) (.slice sa sn sc) (.int .i64 pl) (.int .i64 cap) (.string name) (.int .i64 mn) (.int .i64 mx) (.bool lz)
  rw [← hW3] at hb3 hg3
  unfold World.set10 at hW3
  rw [← hW3]
  clear hW3 z0 z1 z2 z3 z4 z5 z6 z7 z8 z9 y0 y1 y2 y3 y4 y5 y6 y7 y8 y9
  have hB3 : Below w.heap.size w W3 := below_next HB2.out (Nat.le_refl _) hg3 (fun k e => by cases e; exact Nat.le_refl _)
  have hbel : Below B w2 W3 := (Below.refl _ w2).grown hg3 (Nat.le_trans HBB.out HB2.out.size) (fun k e => by cases e; exact HBB.out)
  have HB3 := Lib.hid hB3; have HX := Lib.hid hb3
  have HKV := Lib.hid (show kids.length = 0 ∨ ∃ b o, ka = some ⟨b, o, none⟩ ∧ b < B ∧ KidsAt W3 B kids b o from H3.out.imp_right fun ⟨b, o, e, hlt, hk⟩ => ⟨b, o, e, hlt, hk.below hbel hlt⟩)
  have HRV := Lib.hid (H4.out.below hbel)
  have x1 := hb3.cell (j := 1) rfl
  clear hb3 hg3 hB3 hbel H3 H4 HV HZ HB2
  have HPL := Lib.hid (plainT_is hup.self)
  have HUP := Lib.hid hup; have HUC := Lib.hid huc; have HUS := Lib.hid hus
  clear hup huc hus
  obtain ⟨ucells, huc⟩ : ∃ ucells, ucells = (cellsT 7 ka kids.length kc rune sa sn sc pl cap name mn mx lz) := ⟨_, rfl⟩
  have HCE := Lib.hid huc
  have HXU := Lib.hid (show Blk W3 w.heap.size ucells 27 by rw [huc]; exact HX.out)
  clear huc
  have hkl : kids.length ≤ 1000000 := by have h1 := HUC.out; have h2 := pcL_len kids; simp only [pcT] at h1; omega
  go_wp2_with fail
  go_loopw [3, 13] (fun lv iv wr => ∃ k : Nat, k ≤ kids.length ∧ iv = .int .i64 k ∧ LI w W3 ucells 7 (kids.take k) lv wr) (fun _ iv _ => kids.length - (intOf iv).toNat)
  case atStart => exact ⟨0, Nat.zero_le _, rfl, World.ownsRow_nil _ _ _ _, Below.refl _ _, HXU.out⟩
  case round =>
    obtain ⟨k, hk, rfl, ho, hbw, hbox⟩ := hrel
    have hlk : (kids.take k).length = k := by rw [List.length_take]; omega
    rw [hlk] at ho
    have HO := Lib.hid ho; have HBW := Lib.hid hbw; have HBX := Lib.hid hbox
    clear x1 ho hbw hbox hlk
    by_cases hlt : k < kids.length
    · rcases HKV.out with h0 | ⟨b, o, rfl, hbB, hK⟩
      · omega
      obtain ⟨cs, hc, hr⟩ := (hK.get k hlt)
      have hc' := hc.below (HBW.out.mono HBB.out)
      have hr' := hr.below (HBW.out.mono HBB.out) hbB
      obtain ⟨op1, ka1, kn1, kc1, rune1, sa1, sn1, sc1, pl1, cap1, name1, mn1, mx1, lz1, rfl⟩ := hc.form
      have hblt : b < wr.heap.size := by have := HBW.out.size; have := HB3.out.size; have := HBB.out; omega
      have g0 := cell_lift (Below.alloc (Below.refl wr.heap.size wr) (Nat.le_refl _) (.cells zeroT.toArray 27)) hblt hr'.ten.1
      have g1 := cell_lift (Below.alloc (Below.refl wr.heap.size wr) (Nat.le_refl _) (.cells zeroT.toArray 27)) hblt hr'.ten.2.1
      have g2 := cell_lift (Below.alloc (Below.refl wr.heap.size wr) (Nat.le_refl _) (.cells zeroT.toArray 27)) hblt hr'.ten.2.2.1
      have g3 := cell_lift (Below.alloc (Below.refl wr.heap.size wr) (Nat.le_refl _) (.cells zeroT.toArray 27)) hblt hr'.ten.2.2.2.1
      have g4 := cell_lift (Below.alloc (Below.refl wr.heap.size wr) (Nat.le_refl _) (.cells zeroT.toArray 27)) hblt hr'.ten.2.2.2.2.1
      have g5 := cell_lift (Below.alloc (Below.refl wr.heap.size wr) (Nat.le_refl _) (.cells zeroT.toArray 27)) hblt hr'.ten.2.2.2.2.2.1
      have g6 := cell_lift (Below.alloc (Below.refl wr.heap.size wr) (Nat.le_refl _) (.cells zeroT.toArray 27)) hblt hr'.ten.2.2.2.2.2.2.1
      have g7 := cell_lift (Below.alloc (Below.refl wr.heap.size wr) (Nat.le_refl _) (.cells zeroT.toArray 27)) hblt hr'.ten.2.2.2.2.2.2.2.1
      have g8 := cell_lift (Below.alloc (Below.refl wr.heap.size wr) (Nat.le_refl _) (.cells zeroT.toArray 27)) hblt hr'.ten.2.2.2.2.2.2.2.2.1
      have g9 := cell_lift (Below.alloc (Below.refl wr.heap.size wr) (Nat.le_refl _) (.cells zeroT.toArray 27)) hblt hr'.ten.2.2.2.2.2.2.2.2.2
      obtain ⟨g0', g1', g2', g3', g4', g5', g6', g7', g8', g9'⟩ := hr'.ten
      have hk1 : PlainAll kids[k] := HUP.out.kid _ (List.getElem_mem hlt)
      have hpck := pcT_mem (List.getElem_mem hlt)
      have hpcu : pcL kids ≤ 1000000 := by have := HUC.out; simp only [pcT] at this; omega
      have hk2 : pcT kids[k] ≤ 1000000 := by omega
      have hus2 : SizeOf.sizeOf kids[k] ≤ n := by
        have h2 := List.sizeOf_lt_of_mem (List.getElem_mem hlt)
        have h3 := HUS.out
        simp at h3; omega
      have HQ := Lib.hid (kidsV_take 7 kids k hlt)
      have HC := Lib.hid hc'
      have HKK := Lib.hid (And.intro hk1 (And.intro hk2 hus2))
      have hszS : (textT kids[k]).length ≤ 140737488355000 := by have := textT_len _ hk1; omega
      clear hr hr' hc hc' hK hk1 hpck hpcu hk2 hus2
      go_upto_region 6 with (fail)
      obtain ⟨W5, hW5⟩ : ∃ W5, W5 = wr.alloc (.cells #[.int .i64 op1, .slice ka1 kn1 kc1, .int .i32 rune1, .slice sa1 sn1 sc1, .int .i64 pl1, .int .i64 cap1, .string name1, .int .i64 mn1, .int .i64 mx1, .bool lz1] 27) := ⟨_, rfl⟩
      obtain ⟨X, hX⟩ : ∃ X, X = wr.heap.size := ⟨_, rfl⟩
      have hxb : Blk W5 X [.int .i64 op1, .slice ka1 kn1 kc1, .int .i32 rune1, .slice sa1 sn1 sc1, .int .i64 pl1, .int .i64 cap1, .string name1, .int .i64 mn1, .int .i64 mx1, .bool lz1] 27 := by rw [hW5, hX]; exact Blk.new wr [.int .i64 op1, .slice ka1 kn1 kc1, .int .i32 rune1, .slice sa1 sn1 sc1, .int .i64 pl1, .int .i64 cap1, .string name1, .int .i64 mn1, .int .i64 mx1, .bool lz1] 27
      have htb : Blk W5 w.heap.size ucells 27 := by rw [hW5]; exact HBX.out.alloc _
      have HO5 := Lib.hid (show W5.ownsRow (w.heap.size + 1) 9 1 u3 k (kidsV 7 (kids.take k)) by rw [hW5]; exact HO.out.alloc _)
      have HBW5 := Lib.hid (show Below w.heap.size W3 W5 by rw [hW5]; exact HBW.out.alloc (Nat.le_trans HB3.out.size HBW.out.size) _)
      have HV5 := Lib.hid (show TreeV W5 B kids[k] _ by rw [hW5]; exact HC.out.below ((Below.refl _ wr).alloc (Nat.le_trans HBB.out (Nat.le_trans HB3.out.size HBW.out.size)) _))
      have hne : some X ≠ u3.ownBlock := fun e => by have := (HO.out.lt X e.symm).2; omega
      have hne0 : some w.heap.size ≠ u3.ownBlock := fun e => by have := (HO.out.lt w.heap.size e.symm).1; omega
      rw [← hW5, ← hX]
      clear hW5 hX g0 g1 g2 g3 g4 g5 g6 g7 g8 g9 g0' g1' g2' g3' g4' g5' g6' g7' g8' g9'
      have HB5 := Lib.hid (HB3.out.trans HBW5.out)
      have hN5 : w.heap.size + 1 ≤ W5.heap.size := htb.lt
      have hT5 : w.heap.size < W5.heap.size := htb.lt
      have hX5 : X < W5.heap.size := hxb.lt
      have hNB5 : B ≤ W5.heap.size := Nat.le_trans HBB.out HB5.out.size
      have HTH := Lib.hid (fun W (hW : Below W5.heap.size W5 W) => printer_through kids[k] _ B W (HV5.out.below (hW.mono hNB5)) (Nat.le_trans hNB5 hW.size))
      have IHk := Lib.hid (fun W (hW : Below W5.heap.size W5 W) => IH.out kids[k] HKK.out.2.2 _ B W (HV5.out.below (hW.mono hNB5)) (Nat.le_trans hNB5 hW.size) HKK.out.1 HKK.out.2.1 (HTB.out _ (HB5.out.trans (hW.mono HB5.out.size))))
      have c0 : W5.cell? ⟨w.heap.size, 0, none⟩ = some (.int .i64 7) := htb.cell (by rw [HCE.out]; rfl)
      have HTB5 := Lib.hid htb
      have z0 := hxb.cell (j := 0) rfl
      have z1 := hxb.cell (j := 1) rfl
      have z2 := hxb.cell (j := 2) rfl
      have z3 := hxb.cell (j := 3) rfl
      have z4 := hxb.cell (j := 4) rfl
      have z5 := hxb.cell (j := 5) rfl
      have z6 := hxb.cell (j := 6) rfl
      have z7 := hxb.cell (j := 7) rfl
      have z8 := hxb.cell (j := 8) rfl
      have z9 := hxb.cell (j := 9) rfl
      have hd5 : Below W5.heap.size W5 W5.drew := below_drewN (Below.refl W5.heap.size W5) 1
      have od5 : W5.drew.ownsRow (w.heap.size + 1) 9 1 u3 k (kidsV 7 (kids.take k)) := HO5.out
      go_region_law (first | (refine step_append_lies _ (by rfl) _ _ 40 (by rfl) (w.heap.size + 1) 9 i0 (.string ⟨#[]⟩) 1 16 Tryz.underlying40 hi hz0 hz1 hz2 rfl (by decide) u3 k _ (by rfl) (o7.alloc _) ⟨w7.heap.size, 0, none⟩ 1 1 [.string ⟨(bracedTx (textT kids[k]) false).toArray⟩] (by rfl) rfl (cell_one_new _ _ _) (fun x hx => by simp at hx; subst hx; rfl) (by decide) (by unfold maxLen; omega) (by omega) (by have := h7.size; simp; omega) (w7.heap.size + 1) (by simp) ?_; intro g9 cap9 w9 hown9 hgrow9 hat9 hlt9) | (go_simp; first | (go_at_call 9; refine (IHk.out _ (by assumption)).mono ?_; rintro e w5 ⟨rfl, hb5⟩; have h5 := below_keep (by assumption : Below W5.heap.size W5 _) (Nat.le_refl _) hb5; have c05 := cell_lift (B := W5.heap.size) h5 hT5 c0; have o5 := own_keep (by assumption) hb5) | (go_at_call 17; refine (printer_braced (textT kids[k]) false _ hszS).mono ?_; rintro e w7 ⟨rfl, hb7⟩; have h7 := below_keep (by assumption : Below W5.heap.size W5 _) (Nat.le_refl _) hb7; have o7 := own_keep (by assumption) hb7)))
      all_goals (
      have hx9 : Blk w9 w.heap.size ucells 27 := ((HTB5.out.below h7 hT5).alloc _).grown hgrow9 hne0
      have hb9 : Below w.heap.size W3 w9 := (HBW5.out.trans ((below_al h7 _).mono HB5.out.size)).grown hgrow9 (by have := (below_al h7 (.cells #[.string ⟨(bracedTx (textT kids[k]) false).toArray⟩] 9)).size; omega) (fun j e => Nat.le_of_succ_le (HO5.out.lt j e).1)
      have hq9 : w9.ownsRow (w.heap.size + 1) 9 1 (.slice (some ⟨g9, 0, none⟩) (k + 1) cap9) (k + 1) (kidsV 7 (kids.take (k + 1))) := by
        rw [HQ.out]
        have e : kidTx 7 kids[k] = bracedTx (textT kids[k]) false := kidTx_no (by decide) _
        rw [e]; exact hown9
      have H9 := Lib.hid (And.intro hq9 (And.intro hb9 hx9))
      clear hq9 hb9 hx9 hown9 hgrow9 hat9 hlt9 c0 z0 z1 z2 z3 z4 z5 z6 z7 z8 z9
      go_wp2_with fail
      go_roundw
      case rel =>
        refine ⟨k + 1, hlt, by go_num, ?_⟩
        have hlk : (kids.take (k + 1)).length = k + 1 := by rw [List.length_take]; omega
        unfold LI
        rw [hlk]
        exact H9.out
      case measure => simp [intOf]; omega)
    · have hke : k = kids.length := by omega
      have HBF := Lib.hid (HB3.out.trans HBW.out)
      have HOF := Lib.hid (show wr.ownsRow (w.heap.size + 1) 9 1 u3 kids.length (kidsV 7 kids) by have := HO.out; rwa [hke, List.take_length] at this)
      have htb := HBX.out
      rw [HCE.out] at htb
      have x0 := htb.cell (j := 0) rfl
      have x1 := htb.cell (j := 1) rfl
      have x2 := htb.cell (j := 2) rfl
      have x3 := htb.cell (j := 3) rfl
      have x4 := htb.cell (j := 4) rfl
      have x5 := htb.cell (j := 5) rfl
      have x6 := htb.cell (j := 6) rfl
      have x7 := htb.cell (j := 7) rfl
      have x8 := htb.cell (j := 8) rfl
      have x9 := htb.cell (j := 9) rfl
      have HTBF := Lib.hid htb
      clear htb hke
      obtain ⟨k1, rfl⟩ := List.length_eq_one_iff.1 (HPL.out.one (by decide) (by decide))
      have hk1 : PlainAll k1 := HUP.out.kid k1 (by simp)
      have hk2 : pcT k1 ≤ 1000000 := by have := HUC.out; simp only [pcT, pcL] at this; omega
      have hszS := textT_len k1 hk1
      obtain ⟨g, vc, rfl⟩ : ∃ g vc, u3 = .slice (some ⟨g, 0, none⟩) 1 vc := by
        rcases HOF.out.2 with ⟨rfl, h0⟩ | ⟨g, cap', cur, rfl, _⟩
        · simp at h0
        · exact ⟨_, _, rfl⟩
      have hvc : 1 ≤ vc := by
        rcases HOF.out.2 with ⟨h0, _⟩ | ⟨g, cap', cur, h0, _, _, h1, _⟩
        · cases h0
        · cases h0; simpa using h1
      have l0 : wr.cell? ⟨g, 0, none⟩ = some (.string ⟨(textT k1).toArray⟩) := by
        rw [HOF.out.cellAt 0 (by simp)]
        simp only [kidsV, List.map_cons, List.map_nil, List.getElem?_cons_zero]
        rw [kidTx_no (by decide)]
      obtain ⟨⟨m1, m2⟩, ⟨m3, m4⟩⟩ := And.intro HPL.out.mn HPL.out.mx
      obtain ⟨n1, rfl⟩ : ∃ n1 : Nat, mn = n1 := ⟨mn.toNat, by omega⟩
      obtain ⟨b, o, rfl, hbB, hK⟩ : ∃ b o, ka = some ⟨b, o, none⟩ ∧ b < B ∧ KidsAt W3 B [k1] b o := HKV.out.resolve_left (by simp)
      obtain ⟨cs1, hc1, hr1⟩ := (KidsAt.cons.1 hK).1
      obtain ⟨op1, ka1, kn1, kc1, rune1, sa1, sn1, sc1, pl1, cap1, name1, mn1, mx1, lz1, rfl⟩ := hc1.form
      have hc2 := hc1.below (HBW.out.mono HBB.out)
      obtain ⟨g0, g1, g2, g3, g4, g5, g6, g7, g8, g9⟩ := (hr1.below (HBW.out.mono HBB.out) hbB).ten
      have HTHR := Lib.hid (printer_through k1 _ B wr hc2 (Nat.le_trans HBB.out HBF.out.size))
      have HMU := Lib.hid (mustT_cases hk1)
      obtain ⟨u2, hu2⟩ : ∃ u2, u2 = throughT k1 := ⟨_, rfl⟩
      have hup2 : PlainAll u2 := by rw [hu2]; exact hk1.through
      rw [← hu2] at HTHR HMU
      have hszR := signTx_len 7 n1 mx lz m2 m4
      simp only [List.length_singleton] at *
      clear hK hc1 hr1 hc2 hk1 hu2
      go_wp2_with fail
      refine (HTHR.out).mono ?_
      rintro e wb ⟨⟨cs3, rfl, hv3⟩, hbb⟩
      obtain ⟨op2, kids2, rune2, set2, pl2, cap2, name2, mn2, mx2, lz2⟩ := u2
      obtain ⟨ka2, kn2, kc2, sa2, sn2, sc2, rfl, ⟨rfl, j2, _⟩, _⟩ := hv3.open
      obtain ⟨ho1, ho2⟩ := (plainT_is hup2.self).op1
      have HBB2 := Lib.hid hbb
      clear hv3 hbb g0 g1 g2 g3 g4 g5 g6 g7 g8 g9 hup2
      go_upto_region 29 with (fail)
      obtain ⟨W6, hW6⟩ : ∃ W6, W6 = wb.alloc (.cells #[.int .i64 op2, .slice ka2 kids2.length kc2, .int .i32 rune2, .slice sa2 sn2 sc2, .int .i64 pl2, .int .i64 cap2, .string name2, .int .i64 mn2, .int .i64 mx2, .bool lz2] 27) := ⟨_, rfl⟩
      obtain ⟨X, hX⟩ : ∃ X, X = wb.heap.size := ⟨_, rfl⟩
      have hxb : Blk W6 X [.int .i64 op2, .slice ka2 kids2.length kc2, .int .i32 rune2, .slice sa2 sn2 sc2, .int .i64 pl2, .int .i64 cap2, .string name2, .int .i64 mn2, .int .i64 mx2, .bool lz2] 27 := by rw [hW6, hX]; exact Blk.new wb [.int .i64 op2, .slice ka2 kids2.length kc2, .int .i32 rune2, .slice sa2 sn2 sc2, .int .i64 pl2, .int .i64 cap2, .string name2, .int .i64 mn2, .int .i64 mx2, .bool lz2] 27
      have hb6 : Below wr.heap.size wr W6 := by rw [hW6]; exact below_al HBB2.out _
      rw [← hW6, ← hX]
      clear hW6 hX
      have l0 := cell_lift hb6 (cell_lt16 l0) l0
      have x0 := cell_lift hb6 (cell_lt16 x0) x0
      have x1 := cell_lift hb6 (cell_lt16 x1) x1
      have x2 := cell_lift hb6 (cell_lt16 x2) x2
      have x3 := cell_lift hb6 (cell_lt16 x3) x3
      have x4 := cell_lift hb6 (cell_lt16 x4) x4
      have x5 := cell_lift hb6 (cell_lt16 x5) x5
      have x6 := cell_lift hb6 (cell_lt16 x6) x6
      have x7 := cell_lift hb6 (cell_lt16 x7) x7
      have x8 := cell_lift hb6 (cell_lt16 x8) x8
      have x9 := cell_lift hb6 (cell_lt16 x9) x9
      have HB6 := Lib.hid (HBF.out.trans (hb6.mono HBF.out.size))
      have z0 := hxb.cell (j := 0) rfl; have z1 := hxb.cell (j := 1) rfl
      have hlg : g < W6.heap.size := cell_lt16 l0
      have hlx : w.heap.size < W6.heap.size := cell_lt16 x0
      have hd6 : Below W6.heap.size W6 W6.drew := below_drewN (Below.refl W6.heap.size W6) 1
      have HSG := Lib.hid (fun W (hW : Below W6.heap.size W6 W) => printer_sign 7 (some ⟨b, o, none⟩) 1 kc rune sa sn sc pl cap name n1 mx lz W (by decide) (by omega) ⟨m3, m4⟩ (HTB.out _ (HB6.out.trans (hW.mono HB6.out.size))).2)
      have hszB : (textT k1).length ≤ 140737488355000 := by omega
      have HF := Lib.hid (fun (m : Bool) (hm : m = mustT k1) => (show textT t = bracedTx (textT k1) m ++ signTx 7 n1 mx lz by rw [HTX.out, textT_rep _ _ _ _ _ _ _ _ (by decide), hm]))
      have hbl := fun m => bracedTx_len (textT k1) m
      clear hxb hb6
      have hcase : op2 = 11 ∨ op2 = 12 ∨ op2 = 7 ∨ op2 = 8 ∨ op2 = 9 ∨ op2 = 10 ∨ op2 < 7 := by omega
      rcases hcase with rfl | rfl | rfl | rfl | rfl | rfl | h7
      · skip
        have HM := Lib.hid (HF.out (decide (0 < kids2.length)) (by rw [HMU.out]; rfl))
        have hbm := hbl (decide (0 < kids2.length))
        go_upto_region 38 with (fail)
        go_region_held_law (fun w' => w'.cell? ⟨g, 0, none⟩ = some (.string ⟨(textT k1).toArray⟩) ∧ w'.cell? ⟨w.heap.size, 0, none⟩ = some (.int .i64 7) ∧ w'.cell? ⟨w.heap.size, 1, none⟩ = some (.slice (some ⟨b, o, none⟩) 1 kc) ∧ w'.cell? ⟨w.heap.size, 2, none⟩ = some (.int .i32 rune) ∧ w'.cell? ⟨w.heap.size, 3, none⟩ = some (.slice sa sn sc) ∧ w'.cell? ⟨w.heap.size, 4, none⟩ = some (.int .i64 pl) ∧ w'.cell? ⟨w.heap.size, 5, none⟩ = some (.int .i64 cap) ∧ w'.cell? ⟨w.heap.size, 6, none⟩ = some (.string name) ∧ w'.cell? ⟨w.heap.size, 7, none⟩ = some (.int .i64 n1) ∧ w'.cell? ⟨w.heap.size, 8, none⟩ = some (.int .i64 mx) ∧ w'.cell? ⟨w.heap.size, 9, none⟩ = some (.bool lz))
          (first | (refine ⟨cell_lift (B := W6.heap.size) (by assumption) hlg l0, cell_lift (B := W6.heap.size) (by assumption) hlx x0, cell_lift (B := W6.heap.size) (by assumption) hlx x1, cell_lift (B := W6.heap.size) (by assumption) hlx x2, cell_lift (B := W6.heap.size) (by assumption) hlx x3, cell_lift (B := W6.heap.size) (by assumption) hlx x4, cell_lift (B := W6.heap.size) (by assumption) hlx x5, cell_lift (B := W6.heap.size) (by assumption) hlx x6, cell_lift (B := W6.heap.size) (by assumption) hlx x7, cell_lift (B := W6.heap.size) (by assumption) hlx x8, cell_lift (B := W6.heap.size) (by assumption) hlx x9⟩) | (refine ⟨cell_lift (B := W6.heap.size) (below_al (by assumption) _) hlg l0, cell_lift (B := W6.heap.size) (below_al (by assumption) _) hlx x0, cell_lift (B := W6.heap.size) (below_al (by assumption) _) hlx x1, cell_lift (B := W6.heap.size) (below_al (by assumption) _) hlx x2, cell_lift (B := W6.heap.size) (below_al (by assumption) _) hlx x3, cell_lift (B := W6.heap.size) (below_al (by assumption) _) hlx x4, cell_lift (B := W6.heap.size) (below_al (by assumption) _) hlx x5, cell_lift (B := W6.heap.size) (below_al (by assumption) _) hlx x6, cell_lift (B := W6.heap.size) (below_al (by assumption) _) hlx x7, cell_lift (B := W6.heap.size) (below_al (by assumption) _) hlx x8, cell_lift (B := W6.heap.size) (below_al (by assumption) _) hlx x9⟩) | go_keep)
          (first | (go_at_call 17; refine (printer_braced (textT k1) (decide (0 < kids2.length)) _ hszB).mono ?_; rintro e w7 ⟨rfl, hb7⟩; have h7 := below_keep (by assumption : Below W6.heap.size W6 _) (Nat.le_refl _) hb7) | (go_at_call 23; refine (HSG.out _ (by assumption)).mono ?_; rintro e w8 ⟨rfl, hb8⟩; have h8 := below_keep (by assumption : Below W6.heap.size W6 _) (Nat.le_refl _) hb8) | (go_at_call 21; refine (joined_new [bracedTx (textT k1) (decide (0 < kids2.length)), signTx 7 n1 mx lz] 9 w8 (by simp) (by simp; omega)).mono ?_; rintro e w9 ⟨rfl, hb9⟩; have h9 := below_keep h8 (Nat.le_refl _) hb9))
        go_wp2_with fail
        go_ret
        refine ⟨?_, HB6.out.trans (h9.mono HB6.out.size)⟩
        rw [HM.out]; simp
      · skip
        have HM := Lib.hid (HF.out true (by rw [HMU.out]; rfl))
        have hbm := hbl true
        go_upto_region 38 with (fail)
        go_region_held_law (fun w' => w'.cell? ⟨g, 0, none⟩ = some (.string ⟨(textT k1).toArray⟩) ∧ w'.cell? ⟨w.heap.size, 0, none⟩ = some (.int .i64 7) ∧ w'.cell? ⟨w.heap.size, 1, none⟩ = some (.slice (some ⟨b, o, none⟩) 1 kc) ∧ w'.cell? ⟨w.heap.size, 2, none⟩ = some (.int .i32 rune) ∧ w'.cell? ⟨w.heap.size, 3, none⟩ = some (.slice sa sn sc) ∧ w'.cell? ⟨w.heap.size, 4, none⟩ = some (.int .i64 pl) ∧ w'.cell? ⟨w.heap.size, 5, none⟩ = some (.int .i64 cap) ∧ w'.cell? ⟨w.heap.size, 6, none⟩ = some (.string name) ∧ w'.cell? ⟨w.heap.size, 7, none⟩ = some (.int .i64 n1) ∧ w'.cell? ⟨w.heap.size, 8, none⟩ = some (.int .i64 mx) ∧ w'.cell? ⟨w.heap.size, 9, none⟩ = some (.bool lz))
          (first | (refine ⟨cell_lift (B := W6.heap.size) (by assumption) hlg l0, cell_lift (B := W6.heap.size) (by assumption) hlx x0, cell_lift (B := W6.heap.size) (by assumption) hlx x1, cell_lift (B := W6.heap.size) (by assumption) hlx x2, cell_lift (B := W6.heap.size) (by assumption) hlx x3, cell_lift (B := W6.heap.size) (by assumption) hlx x4, cell_lift (B := W6.heap.size) (by assumption) hlx x5, cell_lift (B := W6.heap.size) (by assumption) hlx x6, cell_lift (B := W6.heap.size) (by assumption) hlx x7, cell_lift (B := W6.heap.size) (by assumption) hlx x8, cell_lift (B := W6.heap.size) (by assumption) hlx x9⟩) | (refine ⟨cell_lift (B := W6.heap.size) (below_al (by assumption) _) hlg l0, cell_lift (B := W6.heap.size) (below_al (by assumption) _) hlx x0, cell_lift (B := W6.heap.size) (below_al (by assumption) _) hlx x1, cell_lift (B := W6.heap.size) (below_al (by assumption) _) hlx x2, cell_lift (B := W6.heap.size) (below_al (by assumption) _) hlx x3, cell_lift (B := W6.heap.size) (below_al (by assumption) _) hlx x4, cell_lift (B := W6.heap.size) (below_al (by assumption) _) hlx x5, cell_lift (B := W6.heap.size) (below_al (by assumption) _) hlx x6, cell_lift (B := W6.heap.size) (below_al (by assumption) _) hlx x7, cell_lift (B := W6.heap.size) (below_al (by assumption) _) hlx x8, cell_lift (B := W6.heap.size) (below_al (by assumption) _) hlx x9⟩) | go_keep)
          (first | (go_at_call 17; refine (printer_braced (textT k1) true _ hszB).mono ?_; rintro e w7 ⟨rfl, hb7⟩; have h7 := below_keep (by assumption : Below W6.heap.size W6 _) (Nat.le_refl _) hb7) | (go_at_call 23; refine (HSG.out _ (by assumption)).mono ?_; rintro e w8 ⟨rfl, hb8⟩; have h8 := below_keep (by assumption : Below W6.heap.size W6 _) (Nat.le_refl _) hb8) | (go_at_call 21; refine (joined_new [bracedTx (textT k1) true, signTx 7 n1 mx lz] 9 w8 (by simp) (by simp; omega)).mono ?_; rintro e w9 ⟨rfl, hb9⟩; have h9 := below_keep h8 (Nat.le_refl _) hb9))
        go_wp2_with fail
        go_ret
        refine ⟨?_, HB6.out.trans (h9.mono HB6.out.size)⟩
        rw [HM.out]; simp
      · skip
        have HM := Lib.hid (HF.out true (by rw [HMU.out]; rfl))
        have hbm := hbl true
        go_upto_region 38 with (fail)
        go_region_held_law (fun w' => w'.cell? ⟨g, 0, none⟩ = some (.string ⟨(textT k1).toArray⟩) ∧ w'.cell? ⟨w.heap.size, 0, none⟩ = some (.int .i64 7) ∧ w'.cell? ⟨w.heap.size, 1, none⟩ = some (.slice (some ⟨b, o, none⟩) 1 kc) ∧ w'.cell? ⟨w.heap.size, 2, none⟩ = some (.int .i32 rune) ∧ w'.cell? ⟨w.heap.size, 3, none⟩ = some (.slice sa sn sc) ∧ w'.cell? ⟨w.heap.size, 4, none⟩ = some (.int .i64 pl) ∧ w'.cell? ⟨w.heap.size, 5, none⟩ = some (.int .i64 cap) ∧ w'.cell? ⟨w.heap.size, 6, none⟩ = some (.string name) ∧ w'.cell? ⟨w.heap.size, 7, none⟩ = some (.int .i64 n1) ∧ w'.cell? ⟨w.heap.size, 8, none⟩ = some (.int .i64 mx) ∧ w'.cell? ⟨w.heap.size, 9, none⟩ = some (.bool lz))
          (first | (refine ⟨cell_lift (B := W6.heap.size) (by assumption) hlg l0, cell_lift (B := W6.heap.size) (by assumption) hlx x0, cell_lift (B := W6.heap.size) (by assumption) hlx x1, cell_lift (B := W6.heap.size) (by assumption) hlx x2, cell_lift (B := W6.heap.size) (by assumption) hlx x3, cell_lift (B := W6.heap.size) (by assumption) hlx x4, cell_lift (B := W6.heap.size) (by assumption) hlx x5, cell_lift (B := W6.heap.size) (by assumption) hlx x6, cell_lift (B := W6.heap.size) (by assumption) hlx x7, cell_lift (B := W6.heap.size) (by assumption) hlx x8, cell_lift (B := W6.heap.size) (by assumption) hlx x9⟩) | (refine ⟨cell_lift (B := W6.heap.size) (below_al (by assumption) _) hlg l0, cell_lift (B := W6.heap.size) (below_al (by assumption) _) hlx x0, cell_lift (B := W6.heap.size) (below_al (by assumption) _) hlx x1, cell_lift (B := W6.heap.size) (below_al (by assumption) _) hlx x2, cell_lift (B := W6.heap.size) (below_al (by assumption) _) hlx x3, cell_lift (B := W6.heap.size) (below_al (by assumption) _) hlx x4, cell_lift (B := W6.heap.size) (below_al (by assumption) _) hlx x5, cell_lift (B := W6.heap.size) (below_al (by assumption) _) hlx x6, cell_lift (B := W6.heap.size) (below_al (by assumption) _) hlx x7, cell_lift (B := W6.heap.size) (below_al (by assumption) _) hlx x8, cell_lift (B := W6.heap.size) (below_al (by assumption) _) hlx x9⟩) | go_keep)
          (first | (go_at_call 17; refine (printer_braced (textT k1) true _ hszB).mono ?_; rintro e w7 ⟨rfl, hb7⟩; have h7 := below_keep (by assumption : Below W6.heap.size W6 _) (Nat.le_refl _) hb7) | (go_at_call 23; refine (HSG.out _ (by assumption)).mono ?_; rintro e w8 ⟨rfl, hb8⟩; have h8 := below_keep (by assumption : Below W6.heap.size W6 _) (Nat.le_refl _) hb8) | (go_at_call 21; refine (joined_new [bracedTx (textT k1) true, signTx 7 n1 mx lz] 9 w8 (by simp) (by simp; omega)).mono ?_; rintro e w9 ⟨rfl, hb9⟩; have h9 := below_keep h8 (Nat.le_refl _) hb9))
        go_wp2_with fail
        go_ret
        refine ⟨?_, HB6.out.trans (h9.mono HB6.out.size)⟩
        rw [HM.out]; simp
      · skip
        have HM := Lib.hid (HF.out true (by rw [HMU.out]; rfl))
        have hbm := hbl true
        go_upto_region 38 with (fail)
        go_region_held_law (fun w' => w'.cell? ⟨g, 0, none⟩ = some (.string ⟨(textT k1).toArray⟩) ∧ w'.cell? ⟨w.heap.size, 0, none⟩ = some (.int .i64 7) ∧ w'.cell? ⟨w.heap.size, 1, none⟩ = some (.slice (some ⟨b, o, none⟩) 1 kc) ∧ w'.cell? ⟨w.heap.size, 2, none⟩ = some (.int .i32 rune) ∧ w'.cell? ⟨w.heap.size, 3, none⟩ = some (.slice sa sn sc) ∧ w'.cell? ⟨w.heap.size, 4, none⟩ = some (.int .i64 pl) ∧ w'.cell? ⟨w.heap.size, 5, none⟩ = some (.int .i64 cap) ∧ w'.cell? ⟨w.heap.size, 6, none⟩ = some (.string name) ∧ w'.cell? ⟨w.heap.size, 7, none⟩ = some (.int .i64 n1) ∧ w'.cell? ⟨w.heap.size, 8, none⟩ = some (.int .i64 mx) ∧ w'.cell? ⟨w.heap.size, 9, none⟩ = some (.bool lz))
          (first | (refine ⟨cell_lift (B := W6.heap.size) (by assumption) hlg l0, cell_lift (B := W6.heap.size) (by assumption) hlx x0, cell_lift (B := W6.heap.size) (by assumption) hlx x1, cell_lift (B := W6.heap.size) (by assumption) hlx x2, cell_lift (B := W6.heap.size) (by assumption) hlx x3, cell_lift (B := W6.heap.size) (by assumption) hlx x4, cell_lift (B := W6.heap.size) (by assumption) hlx x5, cell_lift (B := W6.heap.size) (by assumption) hlx x6, cell_lift (B := W6.heap.size) (by assumption) hlx x7, cell_lift (B := W6.heap.size) (by assumption) hlx x8, cell_lift (B := W6.heap.size) (by assumption) hlx x9⟩) | (refine ⟨cell_lift (B := W6.heap.size) (below_al (by assumption) _) hlg l0, cell_lift (B := W6.heap.size) (below_al (by assumption) _) hlx x0, cell_lift (B := W6.heap.size) (below_al (by assumption) _) hlx x1, cell_lift (B := W6.heap.size) (below_al (by assumption) _) hlx x2, cell_lift (B := W6.heap.size) (below_al (by assumption) _) hlx x3, cell_lift (B := W6.heap.size) (below_al (by assumption) _) hlx x4, cell_lift (B := W6.heap.size) (below_al (by assumption) _) hlx x5, cell_lift (B := W6.heap.size) (below_al (by assumption) _) hlx x6, cell_lift (B := W6.heap.size) (below_al (by assumption) _) hlx x7, cell_lift (B := W6.heap.size) (below_al (by assumption) _) hlx x8, cell_lift (B := W6.heap.size) (below_al (by assumption) _) hlx x9⟩) | go_keep)
          (first | (go_at_call 17; refine (printer_braced (textT k1) true _ hszB).mono ?_; rintro e w7 ⟨rfl, hb7⟩; have h7 := below_keep (by assumption : Below W6.heap.size W6 _) (Nat.le_refl _) hb7) | (go_at_call 23; refine (HSG.out _ (by assumption)).mono ?_; rintro e w8 ⟨rfl, hb8⟩; have h8 := below_keep (by assumption : Below W6.heap.size W6 _) (Nat.le_refl _) hb8) | (go_at_call 21; refine (joined_new [bracedTx (textT k1) true, signTx 7 n1 mx lz] 9 w8 (by simp) (by simp; omega)).mono ?_; rintro e w9 ⟨rfl, hb9⟩; have h9 := below_keep h8 (Nat.le_refl _) hb9))
        go_wp2_with fail
        go_ret
        refine ⟨?_, HB6.out.trans (h9.mono HB6.out.size)⟩
        rw [HM.out]; simp
      · skip
        have HM := Lib.hid (HF.out true (by rw [HMU.out]; rfl))
        have hbm := hbl true
        go_upto_region 38 with (fail)
        go_region_held_law (fun w' => w'.cell? ⟨g, 0, none⟩ = some (.string ⟨(textT k1).toArray⟩) ∧ w'.cell? ⟨w.heap.size, 0, none⟩ = some (.int .i64 7) ∧ w'.cell? ⟨w.heap.size, 1, none⟩ = some (.slice (some ⟨b, o, none⟩) 1 kc) ∧ w'.cell? ⟨w.heap.size, 2, none⟩ = some (.int .i32 rune) ∧ w'.cell? ⟨w.heap.size, 3, none⟩ = some (.slice sa sn sc) ∧ w'.cell? ⟨w.heap.size, 4, none⟩ = some (.int .i64 pl) ∧ w'.cell? ⟨w.heap.size, 5, none⟩ = some (.int .i64 cap) ∧ w'.cell? ⟨w.heap.size, 6, none⟩ = some (.string name) ∧ w'.cell? ⟨w.heap.size, 7, none⟩ = some (.int .i64 n1) ∧ w'.cell? ⟨w.heap.size, 8, none⟩ = some (.int .i64 mx) ∧ w'.cell? ⟨w.heap.size, 9, none⟩ = some (.bool lz))
          (first | (refine ⟨cell_lift (B := W6.heap.size) (by assumption) hlg l0, cell_lift (B := W6.heap.size) (by assumption) hlx x0, cell_lift (B := W6.heap.size) (by assumption) hlx x1, cell_lift (B := W6.heap.size) (by assumption) hlx x2, cell_lift (B := W6.heap.size) (by assumption) hlx x3, cell_lift (B := W6.heap.size) (by assumption) hlx x4, cell_lift (B := W6.heap.size) (by assumption) hlx x5, cell_lift (B := W6.heap.size) (by assumption) hlx x6, cell_lift (B := W6.heap.size) (by assumption) hlx x7, cell_lift (B := W6.heap.size) (by assumption) hlx x8, cell_lift (B := W6.heap.size) (by assumption) hlx x9⟩) | (refine ⟨cell_lift (B := W6.heap.size) (below_al (by assumption) _) hlg l0, cell_lift (B := W6.heap.size) (below_al (by assumption) _) hlx x0, cell_lift (B := W6.heap.size) (below_al (by assumption) _) hlx x1, cell_lift (B := W6.heap.size) (below_al (by assumption) _) hlx x2, cell_lift (B := W6.heap.size) (below_al (by assumption) _) hlx x3, cell_lift (B := W6.heap.size) (below_al (by assumption) _) hlx x4, cell_lift (B := W6.heap.size) (below_al (by assumption) _) hlx x5, cell_lift (B := W6.heap.size) (below_al (by assumption) _) hlx x6, cell_lift (B := W6.heap.size) (below_al (by assumption) _) hlx x7, cell_lift (B := W6.heap.size) (below_al (by assumption) _) hlx x8, cell_lift (B := W6.heap.size) (below_al (by assumption) _) hlx x9⟩) | go_keep)
          (first | (go_at_call 17; refine (printer_braced (textT k1) true _ hszB).mono ?_; rintro e w7 ⟨rfl, hb7⟩; have h7 := below_keep (by assumption : Below W6.heap.size W6 _) (Nat.le_refl _) hb7) | (go_at_call 23; refine (HSG.out _ (by assumption)).mono ?_; rintro e w8 ⟨rfl, hb8⟩; have h8 := below_keep (by assumption : Below W6.heap.size W6 _) (Nat.le_refl _) hb8) | (go_at_call 21; refine (joined_new [bracedTx (textT k1) true, signTx 7 n1 mx lz] 9 w8 (by simp) (by simp; omega)).mono ?_; rintro e w9 ⟨rfl, hb9⟩; have h9 := below_keep h8 (Nat.le_refl _) hb9))
        go_wp2_with fail
        go_ret
        refine ⟨?_, HB6.out.trans (h9.mono HB6.out.size)⟩
        rw [HM.out]; simp
      · skip
        have HM := Lib.hid (HF.out true (by rw [HMU.out]; rfl))
        have hbm := hbl true
        go_upto_region 38 with (fail)
        go_region_held_law (fun w' => w'.cell? ⟨g, 0, none⟩ = some (.string ⟨(textT k1).toArray⟩) ∧ w'.cell? ⟨w.heap.size, 0, none⟩ = some (.int .i64 7) ∧ w'.cell? ⟨w.heap.size, 1, none⟩ = some (.slice (some ⟨b, o, none⟩) 1 kc) ∧ w'.cell? ⟨w.heap.size, 2, none⟩ = some (.int .i32 rune) ∧ w'.cell? ⟨w.heap.size, 3, none⟩ = some (.slice sa sn sc) ∧ w'.cell? ⟨w.heap.size, 4, none⟩ = some (.int .i64 pl) ∧ w'.cell? ⟨w.heap.size, 5, none⟩ = some (.int .i64 cap) ∧ w'.cell? ⟨w.heap.size, 6, none⟩ = some (.string name) ∧ w'.cell? ⟨w.heap.size, 7, none⟩ = some (.int .i64 n1) ∧ w'.cell? ⟨w.heap.size, 8, none⟩ = some (.int .i64 mx) ∧ w'.cell? ⟨w.heap.size, 9, none⟩ = some (.bool lz))
          (first | (refine ⟨cell_lift (B := W6.heap.size) (by assumption) hlg l0, cell_lift (B := W6.heap.size) (by assumption) hlx x0, cell_lift (B := W6.heap.size) (by assumption) hlx x1, cell_lift (B := W6.heap.size) (by assumption) hlx x2, cell_lift (B := W6.heap.size) (by assumption) hlx x3, cell_lift (B := W6.heap.size) (by assumption) hlx x4, cell_lift (B := W6.heap.size) (by assumption) hlx x5, cell_lift (B := W6.heap.size) (by assumption) hlx x6, cell_lift (B := W6.heap.size) (by assumption) hlx x7, cell_lift (B := W6.heap.size) (by assumption) hlx x8, cell_lift (B := W6.heap.size) (by assumption) hlx x9⟩) | (refine ⟨cell_lift (B := W6.heap.size) (below_al (by assumption) _) hlg l0, cell_lift (B := W6.heap.size) (below_al (by assumption) _) hlx x0, cell_lift (B := W6.heap.size) (below_al (by assumption) _) hlx x1, cell_lift (B := W6.heap.size) (below_al (by assumption) _) hlx x2, cell_lift (B := W6.heap.size) (below_al (by assumption) _) hlx x3, cell_lift (B := W6.heap.size) (below_al (by assumption) _) hlx x4, cell_lift (B := W6.heap.size) (below_al (by assumption) _) hlx x5, cell_lift (B := W6.heap.size) (below_al (by assumption) _) hlx x6, cell_lift (B := W6.heap.size) (below_al (by assumption) _) hlx x7, cell_lift (B := W6.heap.size) (below_al (by assumption) _) hlx x8, cell_lift (B := W6.heap.size) (below_al (by assumption) _) hlx x9⟩) | go_keep)
          (first | (go_at_call 17; refine (printer_braced (textT k1) true _ hszB).mono ?_; rintro e w7 ⟨rfl, hb7⟩; have h7 := below_keep (by assumption : Below W6.heap.size W6 _) (Nat.le_refl _) hb7) | (go_at_call 23; refine (HSG.out _ (by assumption)).mono ?_; rintro e w8 ⟨rfl, hb8⟩; have h8 := below_keep (by assumption : Below W6.heap.size W6 _) (Nat.le_refl _) hb8) | (go_at_call 21; refine (joined_new [bracedTx (textT k1) true, signTx 7 n1 mx lz] 9 w8 (by simp) (by simp; omega)).mono ?_; rintro e w9 ⟨rfl, hb9⟩; have h9 := below_keep h8 (Nat.le_refl _) hb9))
        go_wp2_with fail
        go_ret
        refine ⟨?_, HB6.out.trans (h9.mono HB6.out.size)⟩
        rw [HM.out]; simp
      · skip
        have e11 : (op2 == 11) = false := by simp; omega
        have e12 : (op2 == 12) = false := by simp; omega
        have e7 : (op2 == 7) = false := by simp; omega
        have e8 : (op2 == 8) = false := by simp; omega
        have e9 : (op2 == 9) = false := by simp; omega
        have e10 : (op2 == 10) = false := by simp; omega
        have HM := Lib.hid (HF.out false (by rw [HMU.out]; show false = if op2 = 11 then _ else decide (7 ≤ op2); rw [if_neg (by omega), decide_eq_false (by omega)]))
        have hbm := hbl false
        go_upto_region 38 with (fail)
        go_region_held_law (fun w' => w'.cell? ⟨g, 0, none⟩ = some (.string ⟨(textT k1).toArray⟩) ∧ w'.cell? ⟨w.heap.size, 0, none⟩ = some (.int .i64 7) ∧ w'.cell? ⟨w.heap.size, 1, none⟩ = some (.slice (some ⟨b, o, none⟩) 1 kc) ∧ w'.cell? ⟨w.heap.size, 2, none⟩ = some (.int .i32 rune) ∧ w'.cell? ⟨w.heap.size, 3, none⟩ = some (.slice sa sn sc) ∧ w'.cell? ⟨w.heap.size, 4, none⟩ = some (.int .i64 pl) ∧ w'.cell? ⟨w.heap.size, 5, none⟩ = some (.int .i64 cap) ∧ w'.cell? ⟨w.heap.size, 6, none⟩ = some (.string name) ∧ w'.cell? ⟨w.heap.size, 7, none⟩ = some (.int .i64 n1) ∧ w'.cell? ⟨w.heap.size, 8, none⟩ = some (.int .i64 mx) ∧ w'.cell? ⟨w.heap.size, 9, none⟩ = some (.bool lz))
          (first | (refine ⟨cell_lift (B := W6.heap.size) (by assumption) hlg l0, cell_lift (B := W6.heap.size) (by assumption) hlx x0, cell_lift (B := W6.heap.size) (by assumption) hlx x1, cell_lift (B := W6.heap.size) (by assumption) hlx x2, cell_lift (B := W6.heap.size) (by assumption) hlx x3, cell_lift (B := W6.heap.size) (by assumption) hlx x4, cell_lift (B := W6.heap.size) (by assumption) hlx x5, cell_lift (B := W6.heap.size) (by assumption) hlx x6, cell_lift (B := W6.heap.size) (by assumption) hlx x7, cell_lift (B := W6.heap.size) (by assumption) hlx x8, cell_lift (B := W6.heap.size) (by assumption) hlx x9⟩) | (refine ⟨cell_lift (B := W6.heap.size) (below_al (by assumption) _) hlg l0, cell_lift (B := W6.heap.size) (below_al (by assumption) _) hlx x0, cell_lift (B := W6.heap.size) (below_al (by assumption) _) hlx x1, cell_lift (B := W6.heap.size) (below_al (by assumption) _) hlx x2, cell_lift (B := W6.heap.size) (below_al (by assumption) _) hlx x3, cell_lift (B := W6.heap.size) (below_al (by assumption) _) hlx x4, cell_lift (B := W6.heap.size) (below_al (by assumption) _) hlx x5, cell_lift (B := W6.heap.size) (below_al (by assumption) _) hlx x6, cell_lift (B := W6.heap.size) (below_al (by assumption) _) hlx x7, cell_lift (B := W6.heap.size) (below_al (by assumption) _) hlx x8, cell_lift (B := W6.heap.size) (below_al (by assumption) _) hlx x9⟩) | go_keep)
          (first | (go_at_call 17; refine (printer_braced (textT k1) false _ hszB).mono ?_; rintro e w7 ⟨rfl, hb7⟩; have h7 := below_keep (by assumption : Below W6.heap.size W6 _) (Nat.le_refl _) hb7) | (go_at_call 23; refine (HSG.out _ (by assumption)).mono ?_; rintro e w8 ⟨rfl, hb8⟩; have h8 := below_keep (by assumption : Below W6.heap.size W6 _) (Nat.le_refl _) hb8) | (go_at_call 21; refine (joined_new [bracedTx (textT k1) false, signTx 7 n1 mx lz] 9 w8 (by simp) (by simp; omega)).mono ?_; rintro e w9 ⟨rfl, hb9⟩; have h9 := below_keep h8 (Nat.le_refl _) hb9))
        go_wp2_with fail
        go_ret
        refine ⟨?_, HB6.out.trans (h9.mono HB6.out.size)⟩
        rw [HM.out]; simp
end Go.Proofs.YtihbmgpjihgodaaGreatDoor
