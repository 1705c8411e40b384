/- A right tree's text: the program's, of a tree without Kids. (Printed by gen_textg.py.) -/
import Derived.Test.YtihbmgpjihgodaaDoorTextG0
namespace Go.Proofs.YtihbmgpjihgodaaDoor
open Go Go.RowKit Go.Proofs Go.Shelf
attribute [local go_sem ↓] Go.wp_at_zero Go.wp_at_succ

set_option maxRecDepth 100000 in
set_option maxHeartbeats 8000000 in
theorem printer_text_1 (n : Nat) (ih : ∀ (t : T), SizeOf.sizeOf t ≤ n → ∀ (cs : List Value) (B : Nat) (w : World), TreeV w B t cs → B ≤ w.heap.size → PlainAll t → pcT t ≤ 1000000 → Tb w →
    Calls Tryd.prog 9 #[.agg cs.toArray] w fun e w' => e = .returned (.string ⟨(textT t).toArray⟩) ∧ Below w.heap.size w w') (t : T) (hsz : SizeOf.sizeOf t ≤ n + 1) (hop : (throughT t).op = 1) (cs : List Value) (B : Nat) (w : World) (h : TreeV w B t cs) (hB : B ≤ w.heap.size) (hP : PlainAll t) (hpc : pcT t ≤ 1000000) (hT : Tb w) :
    Calls Tryd.prog 9 #[.agg cs.toArray] w fun e w' => e = .returned (.string ⟨(textT t).toArray⟩) ∧ Below w.heap.size w w' := by
  obtain ⟨i0, hi, hz0, hz1, hz2⟩ := info_parts infoStrT
  have HThr := Lib.hid (fun o => printer_through t cs B (w.alloc o) (h.below (((Below.refl _ w).alloc (Nat.le_refl _) o).mono hB)) (by simp; omega))
  obtain ⟨u, hu⟩ : ∃ u, u = throughT t := ⟨_, rfl⟩
  rw [← hu] at hop
  have HTX := Lib.hid (show textT t = textT u by rw [hu, textT_through])
  have hus : SizeOf.sizeOf u ≤ n + 1 := by rw [hu]; exact Nat.le_trans (throughT_size t) hsz
  have hup : PlainAll u := by rw [hu]; exact hP.through
  have huc : pcT u ≤ 1000000 := by rw [hu]; exact Nat.le_trans (throughT_pc t) hpc
  have IH := Lib.hid ih
  have HTB := Lib.hid (fun W (hW : Below w.heap.size w W) => hT.below hW)
  have HBB := Lib.hid hB
  have HU := Lib.hid hu
  rw [← hu] at HThr
  obtain ⟨op0, ka0, kn0, kc0, rune0, sa0, sn0, sc0, pl0, cap0, name0, mn0, mx0, lz0, rfl⟩ := h.form
  clear h hP hpc hT ih hsz hB hu
  obtain ⟨op, kids, rune, set, pl, cap, name, mn, mx, lz⟩ := u
  obtain rfl : op = 1 := hop
  go_enter Tryd.func9, Tryd.ntmps9
  go_wp2_with fail
  refine (HThr.out _).mono ?_
  rintro e w2 ⟨⟨cs2, rfl, hv⟩, hb⟩
  have hz := (Blk.new w (cellsT op0 ka0 kn0 kc0 rune0 sa0 sn0 sc0 pl0 cap0 name0 mn0 mx0 lz0) 27).below hb (by simp)
  have HV := Lib.hid hv
  obtain ⟨ka, kn, kc, sa, sn, sc, rfl, ⟨rfl, h2, h3⟩, h4⟩ := hv.open
  have HB2 := Lib.hid (((Below.refl _ w).alloc (Nat.le_refl _) (.cells (cellsT op0 ka0 kn0 kc0 rune0 sa0 sn0 sc0 pl0 cap0 name0 mn0 mx0 lz0).toArray 27)).trans (hb.mono (by simp)))
  have HZ := Lib.hid hz; have H3 := Lib.hid h3; have H4 := Lib.hid h4
  clear hv hb h3 h4
  have z0 := hz.cell (j := 0) rfl; have y0 := hz.frozen 0
  have z1 := hz.cell (j := 1) rfl; have y1 := hz.frozen 1
  have z2 := hz.cell (j := 2) rfl; have y2 := hz.frozen 2
  have z3 := hz.cell (j := 3) rfl; have y3 := hz.frozen 3
  have z4 := hz.cell (j := 4) rfl; have y4 := hz.frozen 4
  have z5 := hz.cell (j := 5) rfl; have y5 := hz.frozen 5
  have z6 := hz.cell (j := 6) rfl; have y6 := hz.frozen 6
  have z7 := hz.cell (j := 7) rfl; have y7 := hz.frozen 7
  have z8 := hz.cell (j := 8) rfl; have y8 := hz.frozen 8
  have z9 := hz.cell (j := 9) rfl; have y9 := hz.frozen 9
  clear hz
  go_upto_region 3 with (fail)
  obtain ⟨W3, hW3⟩ : ∃ W3, W3 = World.set10 w2 w.heap.size (.int .i64 1) (.slice ka kids.length kc) (.int .i32 rune) (.slice sa sn sc) (.int .i64 pl) (.int .i64 cap) (.string name) (.int .i64 mn) (.int .i64 mx) (.bool lz) := ⟨_, rfl⟩
  have hb3 := HZ.out.set10 (.int .i64 1) (.slice ka kids.length kc) (.int .i32 rune) (.slice sa sn sc) (.int .i64 pl) (.int .i64 cap) (.string name) (.int .i64 mn) (.int .i64 mx) (.bool lz)
  have hg3 := grownBy_set10 w2 w.heap.size (.int .i64 1) (.slice ka kids.length kc) (.int .i32 rune) (.slice sa sn sc) (.int .i64 pl) (.int .i64 cap) (.string name) (.int .i64 mn) (.int .i64 mx) (.bool lz)
  rw [← hW3] at hb3 hg3
  unfold World.set10 at hW3
  rw [← hW3]
  clear hW3 z0 z1 z2 z3 z4 z5 z6 z7 z8 z9 y0 y1 y2 y3 y4 y5 y6 y7 y8 y9
  have hB3 : Below w.heap.size w W3 := below_next HB2.out (Nat.le_refl _) hg3 (fun k e => by cases e; exact Nat.le_refl _)
  have hbel : Below B w2 W3 := (Below.refl _ w2).grown hg3 (Nat.le_trans HBB.out HB2.out.size) (fun k e => by cases e; exact HBB.out)
  have HB3 := Lib.hid hB3; have HX := Lib.hid hb3
  have HKV := Lib.hid (show kids.length = 0 ∨ ∃ b o, ka = some ⟨b, o, none⟩ ∧ b < B ∧ KidsAt W3 B kids b o from H3.out.imp_right fun ⟨b, o, e, hlt, hk⟩ => ⟨b, o, e, hlt, hk.below hbel hlt⟩)
  have HRV := Lib.hid (H4.out.below hbel)
  have x1 := hb3.cell (j := 1) rfl
  clear hb3 hg3 hB3 hbel H3 H4 HV HZ HB2
  have HPL := Lib.hid (plainT_is hup.self)
  have HUP := Lib.hid hup; have HUC := Lib.hid huc; have HUS := Lib.hid hus
  clear hup huc hus
  obtain ⟨ucells, huc⟩ : ∃ ucells, ucells = (cellsT 1 ka kids.length kc rune sa sn sc pl cap name mn mx lz) := ⟨_, rfl⟩
  have HCE := Lib.hid huc
  have HXU := Lib.hid (show Blk W3 w.heap.size ucells 27 by rw [huc]; exact HX.out)
  clear huc
  have hkl : kids.length ≤ 1000000 := by have h1 := HUC.out; have h2 := pcL_len kids; simp only [pcT] at h1; omega
  go_wp2_with fail
  go_loopw [3, 13] (fun lv iv wr => ∃ k : Nat, k ≤ kids.length ∧ iv = .int .i64 k ∧ LI w W3 ucells 1 (kids.take k) lv wr) (fun _ iv _ => kids.length - (intOf iv).toNat)
  case atStart => exact ⟨0, Nat.zero_le _, rfl, World.ownsRow_nil _ _ _ _, Below.refl _ _, HXU.out⟩
  case round =>
    obtain ⟨k, hk, rfl, ho, hbw, hbox⟩ := hrel
    have hlk : (kids.take k).length = k := by rw [List.length_take]; omega
    rw [hlk] at ho
    have HO := Lib.hid ho; have HBW := Lib.hid hbw; have HBX := Lib.hid hbox
    clear x1 ho hbw hbox hlk
    by_cases hlt : k < kids.length
    · exact absurd (HPL.out.leaf (by decide)) (by omega)
    · have hke : k = kids.length := by omega
      have HBF := Lib.hid (HB3.out.trans HBW.out)
      have HOF := Lib.hid (show wr.ownsRow (w.heap.size + 1) 9 1 u3 kids.length (kidsV 1 kids) by have := HO.out; rwa [hke, List.take_length] at this)
      have htb := HBX.out
      rw [HCE.out] at htb
      have x0 := htb.cell (j := 0) rfl
      have x1 := htb.cell (j := 1) rfl
      have x2 := htb.cell (j := 2) rfl
      have x3 := htb.cell (j := 3) rfl
      have x4 := htb.cell (j := 4) rfl
      have x5 := htb.cell (j := 5) rfl
      have x6 := htb.cell (j := 6) rfl
      have x7 := htb.cell (j := 7) rfl
      have x8 := htb.cell (j := 8) rfl
      have x9 := htb.cell (j := 9) rfl
      have HTBF := Lib.hid htb
      clear htb hke
      go_wp2_with fail
      go_ret
      exact ⟨by rw [HTX.out, textT_1]; rfl, HBF.out⟩
set_option maxRecDepth 100000 in
set_option maxHeartbeats 8000000 in
theorem printer_text_2 (n : Nat) (ih : ∀ (t : T), SizeOf.sizeOf t ≤ n → ∀ (cs : List Value) (B : Nat) (w : World), TreeV w B t cs → B ≤ w.heap.size → PlainAll t → pcT t ≤ 1000000 → Tb w →
    Calls Tryd.prog 9 #[.agg cs.toArray] w fun e w' => e = .returned (.string ⟨(textT t).toArray⟩) ∧ Below w.heap.size w w') (t : T) (hsz : SizeOf.sizeOf t ≤ n + 1) (hop : (throughT t).op = 2) (cs : List Value) (B : Nat) (w : World) (h : TreeV w B t cs) (hB : B ≤ w.heap.size) (hP : PlainAll t) (hpc : pcT t ≤ 1000000) (hT : Tb w) :
    Calls Tryd.prog 9 #[.agg cs.toArray] w fun e w' => e = .returned (.string ⟨(textT t).toArray⟩) ∧ Below w.heap.size w w' := by
  obtain ⟨i0, hi, hz0, hz1, hz2⟩ := info_parts infoStrT
  have HThr := Lib.hid (fun o => printer_through t cs B (w.alloc o) (h.below (((Below.refl _ w).alloc (Nat.le_refl _) o).mono hB)) (by simp; omega))
  obtain ⟨u, hu⟩ : ∃ u, u = throughT t := ⟨_, rfl⟩
  rw [← hu] at hop
  have HTX := Lib.hid (show textT t = textT u by rw [hu, textT_through])
  have hus : SizeOf.sizeOf u ≤ n + 1 := by rw [hu]; exact Nat.le_trans (throughT_size t) hsz
  have hup : PlainAll u := by rw [hu]; exact hP.through
  have huc : pcT u ≤ 1000000 := by rw [hu]; exact Nat.le_trans (throughT_pc t) hpc
  have IH := Lib.hid ih
  have HTB := Lib.hid (fun W (hW : Below w.heap.size w W) => hT.below hW)
  have HBB := Lib.hid hB
  have HU := Lib.hid hu
  rw [← hu] at HThr
  obtain ⟨op0, ka0, kn0, kc0, rune0, sa0, sn0, sc0, pl0, cap0, name0, mn0, mx0, lz0, rfl⟩ := h.form
  clear h hP hpc hT ih hsz hB hu
  obtain ⟨op, kids, rune, set, pl, cap, name, mn, mx, lz⟩ := u
  obtain rfl : op = 2 := hop
  go_enter Tryd.func9, Tryd.ntmps9
  go_wp2_with fail
  refine (HThr.out _).mono ?_
  rintro e w2 ⟨⟨cs2, rfl, hv⟩, hb⟩
  have hz := (Blk.new w (cellsT op0 ka0 kn0 kc0 rune0 sa0 sn0 sc0 pl0 cap0 name0 mn0 mx0 lz0) 27).below hb (by simp)
  have HV := Lib.hid hv
  obtain ⟨ka, kn, kc, sa, sn, sc, rfl, ⟨rfl, h2, h3⟩, h4⟩ := hv.open
  have HB2 := Lib.hid (((Below.refl _ w).alloc (Nat.le_refl _) (.cells (cellsT op0 ka0 kn0 kc0 rune0 sa0 sn0 sc0 pl0 cap0 name0 mn0 mx0 lz0).toArray 27)).trans (hb.mono (by simp)))
  have HZ := Lib.hid hz; have H3 := Lib.hid h3; have H4 := Lib.hid h4
  clear hv hb h3 h4
  have z0 := hz.cell (j := 0) rfl; have y0 := hz.frozen 0
  have z1 := hz.cell (j := 1) rfl; have y1 := hz.frozen 1
  have z2 := hz.cell (j := 2) rfl; have y2 := hz.frozen 2
  have z3 := hz.cell (j := 3) rfl; have y3 := hz.frozen 3
  have z4 := hz.cell (j := 4) rfl; have y4 := hz.frozen 4
  have z5 := hz.cell (j := 5) rfl; have y5 := hz.frozen 5
  have z6 := hz.cell (j := 6) rfl; have y6 := hz.frozen 6
  have z7 := hz.cell (j := 7) rfl; have y7 := hz.frozen 7
  have z8 := hz.cell (j := 8) rfl; have y8 := hz.frozen 8
  have z9 := hz.cell (j := 9) rfl; have y9 := hz.frozen 9
  clear hz
  go_upto_region 3 with (fail)
  obtain ⟨W3, hW3⟩ : ∃ W3, W3 = World.set10 w2 w.heap.size (.int .i64 2) (.slice ka kids.length kc) (.int .i32 rune) (.slice sa sn sc) (.int .i64 pl) (.int .i64 cap) (.string name) (.int .i64 mn) (.int .i64 mx) (.bool lz) := ⟨_, rfl⟩
  have hb3 := HZ.out.set10 (.int .i64 2) (.slice ka kids.length kc) (.int .i32 rune) (.slice sa sn sc) (.int .i64 pl) (.int .i64 cap) (.string name) (.int .i64 mn) (.int .i64 mx) (.bool lz)
  have hg3 := grownBy_set10 w2 w.heap.size (.int .i64 2) (.slice ka kids.length kc) (.int .i32 rune) (.slice sa sn sc) (.int .i64 pl) (.int .i64 cap) (.string name) (.int .i64 mn) (.int .i64 mx) (.bool lz)
  rw [← hW3] at hb3 hg3
  unfold World.set10 at hW3
  rw [← hW3]
  clear hW3 z0 z1 z2 z3 z4 z5 z6 z7 z8 z9 y0 y1 y2 y3 y4 y5 y6 y7 y8 y9
  have hB3 : Below w.heap.size w W3 := below_next HB2.out (Nat.le_refl _) hg3 (fun k e => by cases e; exact Nat.le_refl _)
  have hbel : Below B w2 W3 := (Below.refl _ w2).grown hg3 (Nat.le_trans HBB.out HB2.out.size) (fun k e => by cases e; exact HBB.out)
  have HB3 := Lib.hid hB3; have HX := Lib.hid hb3
  have HKV := Lib.hid (show kids.length = 0 ∨ ∃ b o, ka = some ⟨b, o, none⟩ ∧ b < B ∧ KidsAt W3 B kids b o from H3.out.imp_right fun ⟨b, o, e, hlt, hk⟩ => ⟨b, o, e, hlt, hk.below hbel hlt⟩)
  have HRV := Lib.hid (H4.out.below hbel)
  have x1 := hb3.cell (j := 1) rfl
  clear hb3 hg3 hB3 hbel H3 H4 HV HZ HB2
  have HPL := Lib.hid (plainT_is hup.self)
  have HUP := Lib.hid hup; have HUC := Lib.hid huc; have HUS := Lib.hid hus
  clear hup huc hus
  obtain ⟨ucells, huc⟩ : ∃ ucells, ucells = (cellsT 2 ka kids.length kc rune sa sn sc pl cap name mn mx lz) := ⟨_, rfl⟩
  have HCE := Lib.hid huc
  have HXU := Lib.hid (show Blk W3 w.heap.size ucells 27 by rw [huc]; exact HX.out)
  clear huc
  have hkl : kids.length ≤ 1000000 := by have h1 := HUC.out; have h2 := pcL_len kids; simp only [pcT] at h1; omega
  go_wp2_with fail
  go_loopw [3, 13] (fun lv iv wr => ∃ k : Nat, k ≤ kids.length ∧ iv = .int .i64 k ∧ LI w W3 ucells 2 (kids.take k) lv wr) (fun _ iv _ => kids.length - (intOf iv).toNat)
  case atStart => exact ⟨0, Nat.zero_le _, rfl, World.ownsRow_nil _ _ _ _, Below.refl _ _, HXU.out⟩
  case round =>
    obtain ⟨k, hk, rfl, ho, hbw, hbox⟩ := hrel
    have hlk : (kids.take k).length = k := by rw [List.length_take]; omega
    rw [hlk] at ho
    have HO := Lib.hid ho; have HBW := Lib.hid hbw; have HBX := Lib.hid hbox
    clear x1 ho hbw hbox hlk
    by_cases hlt : k < kids.length
    · exact absurd (HPL.out.leaf (by decide)) (by omega)
    · have hke : k = kids.length := by omega
      have HBF := Lib.hid (HB3.out.trans HBW.out)
      have HOF := Lib.hid (show wr.ownsRow (w.heap.size + 1) 9 1 u3 kids.length (kidsV 2 kids) by have := HO.out; rwa [hke, List.take_length] at this)
      have htb := HBX.out
      rw [HCE.out] at htb
      have x0 := htb.cell (j := 0) rfl
      have x1 := htb.cell (j := 1) rfl
      have x2 := htb.cell (j := 2) rfl
      have x3 := htb.cell (j := 3) rfl
      have x4 := htb.cell (j := 4) rfl
      have x5 := htb.cell (j := 5) rfl
      have x6 := htb.cell (j := 6) rfl
      have x7 := htb.cell (j := 7) rfl
      have x8 := htb.cell (j := 8) rfl
      have x9 := htb.cell (j := 9) rfl
      have HTBF := Lib.hid htb
      clear htb hke
      obtain rfl := List.eq_nil_of_length_eq_zero (HPL.out.leaf (by decide))
      obtain ⟨a9, c9, rfl⟩ : ∃ a9 c9, u3 = .slice a9 0 c9 := by
        rcases HOF.out.2 with ⟨rfl, _⟩ | ⟨g, cap', cur, rfl, _⟩
        · exact ⟨none, 0, rfl⟩
        · exact ⟨_, _, rfl⟩
      go_wp2_with fail
      refine (joined_none a9 c9 _).mono ?_
      rintro e w4 ⟨rfl, rfl⟩
      go_wp2_with fail
      refine (printer_braced [] true _ (by decide)).mono ?_
      rintro e w5 ⟨rfl, hb5⟩
      go_wp2_with fail
      go_ret
      exact ⟨by rw [HTX.out, textT_2]; rfl, HBF.out.trans (hb5.mono HBF.out.size)⟩
set_option maxRecDepth 100000 in
set_option maxHeartbeats 8000000 in
theorem printer_text_3 (n : Nat) (ih : ∀ (t : T), SizeOf.sizeOf t ≤ n → ∀ (cs : List Value) (B : Nat) (w : World), TreeV w B t cs → B ≤ w.heap.size → PlainAll t → pcT t ≤ 1000000 → Tb w →
    Calls Tryd.prog 9 #[.agg cs.toArray] w fun e w' => e = .returned (.string ⟨(textT t).toArray⟩) ∧ Below w.heap.size w w') (t : T) (hsz : SizeOf.sizeOf t ≤ n + 1) (hop : (throughT t).op = 3) (cs : List Value) (B : Nat) (w : World) (h : TreeV w B t cs) (hB : B ≤ w.heap.size) (hP : PlainAll t) (hpc : pcT t ≤ 1000000) (hT : Tb w) :
    Calls Tryd.prog 9 #[.agg cs.toArray] w fun e w' => e = .returned (.string ⟨(textT t).toArray⟩) ∧ Below w.heap.size w w' := by
  obtain ⟨i0, hi, hz0, hz1, hz2⟩ := info_parts infoStrT
  have HThr := Lib.hid (fun o => printer_through t cs B (w.alloc o) (h.below (((Below.refl _ w).alloc (Nat.le_refl _) o).mono hB)) (by simp; omega))
  obtain ⟨u, hu⟩ : ∃ u, u = throughT t := ⟨_, rfl⟩
  rw [← hu] at hop
  have HTX := Lib.hid (show textT t = textT u by rw [hu, textT_through])
  have hus : SizeOf.sizeOf u ≤ n + 1 := by rw [hu]; exact Nat.le_trans (throughT_size t) hsz
  have hup : PlainAll u := by rw [hu]; exact hP.through
  have huc : pcT u ≤ 1000000 := by rw [hu]; exact Nat.le_trans (throughT_pc t) hpc
  have IH := Lib.hid ih
  have HTB := Lib.hid (fun W (hW : Below w.heap.size w W) => hT.below hW)
  have HBB := Lib.hid hB
  have HU := Lib.hid hu
  rw [← hu] at HThr
  obtain ⟨op0, ka0, kn0, kc0, rune0, sa0, sn0, sc0, pl0, cap0, name0, mn0, mx0, lz0, rfl⟩ := h.form
  clear h hP hpc hT ih hsz hB hu
  obtain ⟨op, kids, rune, set, pl, cap, name, mn, mx, lz⟩ := u
  obtain rfl : op = 3 := hop
  go_enter Tryd.func9, Tryd.ntmps9
  go_wp2_with fail
  refine (HThr.out _).mono ?_
  rintro e w2 ⟨⟨cs2, rfl, hv⟩, hb⟩
  have hz := (Blk.new w (cellsT op0 ka0 kn0 kc0 rune0 sa0 sn0 sc0 pl0 cap0 name0 mn0 mx0 lz0) 27).below hb (by simp)
  have HV := Lib.hid hv
  obtain ⟨ka, kn, kc, sa, sn, sc, rfl, ⟨rfl, h2, h3⟩, h4⟩ := hv.open
  have HB2 := Lib.hid (((Below.refl _ w).alloc (Nat.le_refl _) (.cells (cellsT op0 ka0 kn0 kc0 rune0 sa0 sn0 sc0 pl0 cap0 name0 mn0 mx0 lz0).toArray 27)).trans (hb.mono (by simp)))
  have HZ := Lib.hid hz; have H3 := Lib.hid h3; have H4 := Lib.hid h4
  clear hv hb h3 h4
  have z0 := hz.cell (j := 0) rfl; have y0 := hz.frozen 0
  have z1 := hz.cell (j := 1) rfl; have y1 := hz.frozen 1
  have z2 := hz.cell (j := 2) rfl; have y2 := hz.frozen 2
  have z3 := hz.cell (j := 3) rfl; have y3 := hz.frozen 3
  have z4 := hz.cell (j := 4) rfl; have y4 := hz.frozen 4
  have z5 := hz.cell (j := 5) rfl; have y5 := hz.frozen 5
  have z6 := hz.cell (j := 6) rfl; have y6 := hz.frozen 6
  have z7 := hz.cell (j := 7) rfl; have y7 := hz.frozen 7
  have z8 := hz.cell (j := 8) rfl; have y8 := hz.frozen 8
  have z9 := hz.cell (j := 9) rfl; have y9 := hz.frozen 9
  clear hz
  go_upto_region 3 with (fail)
  obtain ⟨W3, hW3⟩ : ∃ W3, W3 = World.set10 w2 w.heap.size (.int .i64 3) (.slice ka kids.length kc) (.int .i32 rune) (.slice sa sn sc) (.int .i64 pl) (.int .i64 cap) (.string name) (.int .i64 mn) (.int .i64 mx) (.bool lz) := ⟨_, rfl⟩
  have hb3 := HZ.out.set10 (.int .i64 3) (.slice ka kids.length kc) (.int .i32 rune) (.slice sa sn sc) (.int .i64 pl) (.int .i64 cap) (.string name) (.int .i64 mn) (.int .i64 mx) (.bool lz)
  have hg3 := grownBy_set10 w2 w.heap.size (.int .i64 3) (.slice ka kids.length kc) (.int .i32 rune) (.slice sa sn sc) (.int .i64 pl) (.int .i64 cap) (.string name) (.int .i64 mn) (.int .i64 mx) (.bool lz)
  rw [← hW3] at hb3 hg3
  unfold World.set10 at hW3
  rw [← hW3]
  clear hW3 z0 z1 z2 z3 z4 z5 z6 z7 z8 z9 y0 y1 y2 y3 y4 y5 y6 y7 y8 y9
  have hB3 : Below w.heap.size w W3 := below_next HB2.out (Nat.le_refl _) hg3 (fun k e => by cases e; exact Nat.le_refl _)
  have hbel : Below B w2 W3 := (Below.refl _ w2).grown hg3 (Nat.le_trans HBB.out HB2.out.size) (fun k e => by cases e; exact HBB.out)
  have HB3 := Lib.hid hB3; have HX := Lib.hid hb3
  have HKV := Lib.hid (show kids.length = 0 ∨ ∃ b o, ka = some ⟨b, o, none⟩ ∧ b < B ∧ KidsAt W3 B kids b o from H3.out.imp_right fun ⟨b, o, e, hlt, hk⟩ => ⟨b, o, e, hlt, hk.below hbel hlt⟩)
  have HRV := Lib.hid (H4.out.below hbel)
  have x1 := hb3.cell (j := 1) rfl
  clear hb3 hg3 hB3 hbel H3 H4 HV HZ HB2
  have HPL := Lib.hid (plainT_is hup.self)
  have HUP := Lib.hid hup; have HUC := Lib.hid huc; have HUS := Lib.hid hus
  clear hup huc hus
  obtain ⟨ucells, huc⟩ : ∃ ucells, ucells = (cellsT 3 ka kids.length kc rune sa sn sc pl cap name mn mx lz) := ⟨_, rfl⟩
  have HCE := Lib.hid huc
  have HXU := Lib.hid (show Blk W3 w.heap.size ucells 27 by rw [huc]; exact HX.out)
  clear huc
  have hkl : kids.length ≤ 1000000 := by have h1 := HUC.out; have h2 := pcL_len kids; simp only [pcT] at h1; omega
  go_wp2_with fail
  go_loopw [3, 13] (fun lv iv wr => ∃ k : Nat, k ≤ kids.length ∧ iv = .int .i64 k ∧ LI w W3 ucells 3 (kids.take k) lv wr) (fun _ iv _ => kids.length - (intOf iv).toNat)
  case atStart => exact ⟨0, Nat.zero_le _, rfl, World.ownsRow_nil _ _ _ _, Below.refl _ _, HXU.out⟩
  case round =>
    obtain ⟨k, hk, rfl, ho, hbw, hbox⟩ := hrel
    have hlk : (kids.take k).length = k := by rw [List.length_take]; omega
    rw [hlk] at ho
    have HO := Lib.hid ho; have HBW := Lib.hid hbw; have HBX := Lib.hid hbox
    clear x1 ho hbw hbox hlk
    by_cases hlt : k < kids.length
    · exact absurd (HPL.out.leaf (by decide)) (by omega)
    · have hke : k = kids.length := by omega
      have HBF := Lib.hid (HB3.out.trans HBW.out)
      have HOF := Lib.hid (show wr.ownsRow (w.heap.size + 1) 9 1 u3 kids.length (kidsV 3 kids) by have := HO.out; rwa [hke, List.take_length] at this)
      have htb := HBX.out
      rw [HCE.out] at htb
      have x0 := htb.cell (j := 0) rfl
      have x1 := htb.cell (j := 1) rfl
      have x2 := htb.cell (j := 2) rfl
      have x3 := htb.cell (j := 3) rfl
      have x4 := htb.cell (j := 4) rfl
      have x5 := htb.cell (j := 5) rfl
      have x6 := htb.cell (j := 6) rfl
      have x7 := htb.cell (j := 7) rfl
      have x8 := htb.cell (j := 8) rfl
      have x9 := htb.cell (j := 9) rfl
      have HTBF := Lib.hid htb
      clear htb hke
      obtain ⟨r1, r2⟩ := HPL.out.rune rfl
      go_wp2_with fail
      refine (printer_lit rune _ r1 r2 (HTB.out _ HBF.out).1).mono ?_
      rintro e w4 ⟨rfl, hb4⟩
      go_wp2_with fail
      go_ret
      exact ⟨by rw [HTX.out, textT_3]; rfl, HBF.out.trans (hb4.mono HBF.out.size)⟩
set_option maxRecDepth 100000 in
set_option maxHeartbeats 8000000 in
theorem printer_text_4 (n : Nat) (ih : ∀ (t : T), SizeOf.sizeOf t ≤ n → ∀ (cs : List Value) (B : Nat) (w : World), TreeV w B t cs → B ≤ w.heap.size → PlainAll t → pcT t ≤ 1000000 → Tb w →
    Calls Tryd.prog 9 #[.agg cs.toArray] w fun e w' => e = .returned (.string ⟨(textT t).toArray⟩) ∧ Below w.heap.size w w') (t : T) (hsz : SizeOf.sizeOf t ≤ n + 1) (hop : (throughT t).op = 4) (cs : List Value) (B : Nat) (w : World) (h : TreeV w B t cs) (hB : B ≤ w.heap.size) (hP : PlainAll t) (hpc : pcT t ≤ 1000000) (hT : Tb w) :
    Calls Tryd.prog 9 #[.agg cs.toArray] w fun e w' => e = .returned (.string ⟨(textT t).toArray⟩) ∧ Below w.heap.size w w' := by
  obtain ⟨i0, hi, hz0, hz1, hz2⟩ := info_parts infoStrT
  have HThr := Lib.hid (fun o => printer_through t cs B (w.alloc o) (h.below (((Below.refl _ w).alloc (Nat.le_refl _) o).mono hB)) (by simp; omega))
  obtain ⟨u, hu⟩ : ∃ u, u = throughT t := ⟨_, rfl⟩
  rw [← hu] at hop
  have HTX := Lib.hid (show textT t = textT u by rw [hu, textT_through])
  have hus : SizeOf.sizeOf u ≤ n + 1 := by rw [hu]; exact Nat.le_trans (throughT_size t) hsz
  have hup : PlainAll u := by rw [hu]; exact hP.through
  have huc : pcT u ≤ 1000000 := by rw [hu]; exact Nat.le_trans (throughT_pc t) hpc
  have IH := Lib.hid ih
  have HTB := Lib.hid (fun W (hW : Below w.heap.size w W) => hT.below hW)
  have HBB := Lib.hid hB
  have HU := Lib.hid hu
  rw [← hu] at HThr
  obtain ⟨op0, ka0, kn0, kc0, rune0, sa0, sn0, sc0, pl0, cap0, name0, mn0, mx0, lz0, rfl⟩ := h.form
  clear h hP hpc hT ih hsz hB hu
  obtain ⟨op, kids, rune, set, pl, cap, name, mn, mx, lz⟩ := u
  obtain rfl : op = 4 := hop
  go_enter Tryd.func9, Tryd.ntmps9
  go_wp2_with fail
  refine (HThr.out _).mono ?_
  rintro e w2 ⟨⟨cs2, rfl, hv⟩, hb⟩
  have hz := (Blk.new w (cellsT op0 ka0 kn0 kc0 rune0 sa0 sn0 sc0 pl0 cap0 name0 mn0 mx0 lz0) 27).below hb (by simp)
  have HV := Lib.hid hv
  obtain ⟨ka, kn, kc, sa, sn, sc, rfl, ⟨rfl, h2, h3⟩, h4⟩ := hv.open
  have HB2 := Lib.hid (((Below.refl _ w).alloc (Nat.le_refl _) (.cells (cellsT op0 ka0 kn0 kc0 rune0 sa0 sn0 sc0 pl0 cap0 name0 mn0 mx0 lz0).toArray 27)).trans (hb.mono (by simp)))
  have HZ := Lib.hid hz; have H3 := Lib.hid h3; have H4 := Lib.hid h4
  clear hv hb h3 h4
  have z0 := hz.cell (j := 0) rfl; have y0 := hz.frozen 0
  have z1 := hz.cell (j := 1) rfl; have y1 := hz.frozen 1
  have z2 := hz.cell (j := 2) rfl; have y2 := hz.frozen 2
  have z3 := hz.cell (j := 3) rfl; have y3 := hz.frozen 3
  have z4 := hz.cell (j := 4) rfl; have y4 := hz.frozen 4
  have z5 := hz.cell (j := 5) rfl; have y5 := hz.frozen 5
  have z6 := hz.cell (j := 6) rfl; have y6 := hz.frozen 6
  have z7 := hz.cell (j := 7) rfl; have y7 := hz.frozen 7
  have z8 := hz.cell (j := 8) rfl; have y8 := hz.frozen 8
  have z9 := hz.cell (j := 9) rfl; have y9 := hz.frozen 9
  clear hz
  go_upto_region 3 with (fail)
  obtain ⟨W3, hW3⟩ : ∃ W3, W3 = World.set10 w2 w.heap.size (.int .i64 4) (.slice ka kids.length kc) (.int .i32 rune) (.slice sa sn sc) (.int .i64 pl) (.int .i64 cap) (.string name) (.int .i64 mn) (.int .i64 mx) (.bool lz) := ⟨_, rfl⟩
  have hb3 := HZ.out.set10 (.int .i64 4) (.slice ka kids.length kc) (.int .i32 rune) (.slice sa sn sc) (.int .i64 pl) (.int .i64 cap) (.string name) (.int .i64 mn) (.int .i64 mx) (.bool lz)
  have hg3 := grownBy_set10 w2 w.heap.size (.int .i64 4) (.slice ka kids.length kc) (.int .i32 rune) (.slice sa sn sc) (.int .i64 pl) (.int .i64 cap) (.string name) (.int .i64 mn) (.int .i64 mx) (.bool lz)
  rw [← hW3] at hb3 hg3
  unfold World.set10 at hW3
  rw [← hW3]
  clear hW3 z0 z1 z2 z3 z4 z5 z6 z7 z8 z9 y0 y1 y2 y3 y4 y5 y6 y7 y8 y9
  have hB3 : Below w.heap.size w W3 := below_next HB2.out (Nat.le_refl _) hg3 (fun k e => by cases e; exact Nat.le_refl _)
  have hbel : Below B w2 W3 := (Below.refl _ w2).grown hg3 (Nat.le_trans HBB.out HB2.out.size) (fun k e => by cases e; exact HBB.out)
  have HB3 := Lib.hid hB3; have HX := Lib.hid hb3
  have HKV := Lib.hid (show kids.length = 0 ∨ ∃ b o, ka = some ⟨b, o, none⟩ ∧ b < B ∧ KidsAt W3 B kids b o from H3.out.imp_right fun ⟨b, o, e, hlt, hk⟩ => ⟨b, o, e, hlt, hk.below hbel hlt⟩)
  have HRV := Lib.hid (H4.out.below hbel)
  have x1 := hb3.cell (j := 1) rfl
  clear hb3 hg3 hB3 hbel H3 H4 HV HZ HB2
  have HPL := Lib.hid (plainT_is hup.self)
  have HUP := Lib.hid hup; have HUC := Lib.hid huc; have HUS := Lib.hid hus
  clear hup huc hus
  obtain ⟨ucells, huc⟩ : ∃ ucells, ucells = (cellsT 4 ka kids.length kc rune sa sn sc pl cap name mn mx lz) := ⟨_, rfl⟩
  have HCE := Lib.hid huc
  have HXU := Lib.hid (show Blk W3 w.heap.size ucells 27 by rw [huc]; exact HX.out)
  clear huc
  have hkl : kids.length ≤ 1000000 := by have h1 := HUC.out; have h2 := pcL_len kids; simp only [pcT] at h1; omega
  go_wp2_with fail
  go_loopw [3, 13] (fun lv iv wr => ∃ k : Nat, k ≤ kids.length ∧ iv = .int .i64 k ∧ LI w W3 ucells 4 (kids.take k) lv wr) (fun _ iv _ => kids.length - (intOf iv).toNat)
  case atStart => exact ⟨0, Nat.zero_le _, rfl, World.ownsRow_nil _ _ _ _, Below.refl _ _, HXU.out⟩
  case round =>
    obtain ⟨k, hk, rfl, ho, hbw, hbox⟩ := hrel
    have hlk : (kids.take k).length = k := by rw [List.length_take]; omega
    rw [hlk] at ho
    have HO := Lib.hid ho; have HBW := Lib.hid hbw; have HBX := Lib.hid hbox
    clear x1 ho hbw hbox hlk
    by_cases hlt : k < kids.length
    · exact absurd (HPL.out.leaf (by decide)) (by omega)
    · have hke : k = kids.length := by omega
      have HBF := Lib.hid (HB3.out.trans HBW.out)
      have HOF := Lib.hid (show wr.ownsRow (w.heap.size + 1) 9 1 u3 kids.length (kidsV 4 kids) by have := HO.out; rwa [hke, List.take_length] at this)
      have htb := HBX.out
      rw [HCE.out] at htb
      have x0 := htb.cell (j := 0) rfl
      have x1 := htb.cell (j := 1) rfl
      have x2 := htb.cell (j := 2) rfl
      have x3 := htb.cell (j := 3) rfl
      have x4 := htb.cell (j := 4) rfl
      have x5 := htb.cell (j := 5) rfl
      have x6 := htb.cell (j := 6) rfl
      have x7 := htb.cell (j := 7) rfl
      have x8 := htb.cell (j := 8) rfl
      have x9 := htb.cell (j := 9) rfl
      have HTBF := Lib.hid htb
      clear htb hke
      have hsl : set.length ≤ 1000000 := by have := HUC.out; simp only [pcT] at this; omega
      go_wp2_with fail
      refine (printer_set set sa sn sc B _ (HRV.out.below (HBW.out.mono HBB.out)) (Nat.le_trans HBB.out HBF.out.size) (HPL.out.set rfl) hsl (HTB.out _ HBF.out).1).mono ?_
      rintro e w4 ⟨rfl, hb4⟩
      go_wp2_with fail
      go_ret
      exact ⟨by rw [HTX.out, textT_4]; rfl, HBF.out.trans (hb4.mono HBF.out.size)⟩
set_option maxRecDepth 100000 in
set_option maxHeartbeats 8000000 in
theorem printer_text_5 (n : Nat) (ih : ∀ (t : T), SizeOf.sizeOf t ≤ n → ∀ (cs : List Value) (B : Nat) (w : World), TreeV w B t cs → B ≤ w.heap.size → PlainAll t → pcT t ≤ 1000000 → Tb w →
    Calls Tryd.prog 9 #[.agg cs.toArray] w fun e w' => e = .returned (.string ⟨(textT t).toArray⟩) ∧ Below w.heap.size w w') (t : T) (hsz : SizeOf.sizeOf t ≤ n + 1) (hop : (throughT t).op = 5) (cs : List Value) (B : Nat) (w : World) (h : TreeV w B t cs) (hB : B ≤ w.heap.size) (hP : PlainAll t) (hpc : pcT t ≤ 1000000) (hT : Tb w) :
    Calls Tryd.prog 9 #[.agg cs.toArray] w fun e w' => e = .returned (.string ⟨(textT t).toArray⟩) ∧ Below w.heap.size w w' := by
  obtain ⟨i0, hi, hz0, hz1, hz2⟩ := info_parts infoStrT
  have HThr := Lib.hid (fun o => printer_through t cs B (w.alloc o) (h.below (((Below.refl _ w).alloc (Nat.le_refl _) o).mono hB)) (by simp; omega))
  obtain ⟨u, hu⟩ : ∃ u, u = throughT t := ⟨_, rfl⟩
  rw [← hu] at hop
  have HTX := Lib.hid (show textT t = textT u by rw [hu, textT_through])
  have hus : SizeOf.sizeOf u ≤ n + 1 := by rw [hu]; exact Nat.le_trans (throughT_size t) hsz
  have hup : PlainAll u := by rw [hu]; exact hP.through
  have huc : pcT u ≤ 1000000 := by rw [hu]; exact Nat.le_trans (throughT_pc t) hpc
  have IH := Lib.hid ih
  have HTB := Lib.hid (fun W (hW : Below w.heap.size w W) => hT.below hW)
  have HBB := Lib.hid hB
  have HU := Lib.hid hu
  rw [← hu] at HThr
  obtain ⟨op0, ka0, kn0, kc0, rune0, sa0, sn0, sc0, pl0, cap0, name0, mn0, mx0, lz0, rfl⟩ := h.form
  clear h hP hpc hT ih hsz hB hu
  obtain ⟨op, kids, rune, set, pl, cap, name, mn, mx, lz⟩ := u
  obtain rfl : op = 5 := hop
  go_enter Tryd.func9, Tryd.ntmps9
  go_wp2_with fail
  refine (HThr.out _).mono ?_
  rintro e w2 ⟨⟨cs2, rfl, hv⟩, hb⟩
  have hz := (Blk.new w (cellsT op0 ka0 kn0 kc0 rune0 sa0 sn0 sc0 pl0 cap0 name0 mn0 mx0 lz0) 27).below hb (by simp)
  have HV := Lib.hid hv
  obtain ⟨ka, kn, kc, sa, sn, sc, rfl, ⟨rfl, h2, h3⟩, h4⟩ := hv.open
  have HB2 := Lib.hid (((Below.refl _ w).alloc (Nat.le_refl _) (.cells (cellsT op0 ka0 kn0 kc0 rune0 sa0 sn0 sc0 pl0 cap0 name0 mn0 mx0 lz0).toArray 27)).trans (hb.mono (by simp)))
  have HZ := Lib.hid hz; have H3 := Lib.hid h3; have H4 := Lib.hid h4
  clear hv hb h3 h4
  have z0 := hz.cell (j := 0) rfl; have y0 := hz.frozen 0
  have z1 := hz.cell (j := 1) rfl; have y1 := hz.frozen 1
  have z2 := hz.cell (j := 2) rfl; have y2 := hz.frozen 2
  have z3 := hz.cell (j := 3) rfl; have y3 := hz.frozen 3
  have z4 := hz.cell (j := 4) rfl; have y4 := hz.frozen 4
  have z5 := hz.cell (j := 5) rfl; have y5 := hz.frozen 5
  have z6 := hz.cell (j := 6) rfl; have y6 := hz.frozen 6
  have z7 := hz.cell (j := 7) rfl; have y7 := hz.frozen 7
  have z8 := hz.cell (j := 8) rfl; have y8 := hz.frozen 8
  have z9 := hz.cell (j := 9) rfl; have y9 := hz.frozen 9
  clear hz
  go_upto_region 3 with (fail)
  obtain ⟨W3, hW3⟩ : ∃ W3, W3 = World.set10 w2 w.heap.size (.int .i64 5) (.slice ka kids.length kc) (.int .i32 rune) (.slice sa sn sc) (.int .i64 pl) (.int .i64 cap) (.string name) (.int .i64 mn) (.int .i64 mx) (.bool lz) := ⟨_, rfl⟩
  have hb3 := HZ.out.set10 (.int .i64 5) (.slice ka kids.length kc) (.int .i32 rune) (.slice sa sn sc) (.int .i64 pl) (.int .i64 cap) (.string name) (.int .i64 mn) (.int .i64 mx) (.bool lz)
  have hg3 := grownBy_set10 w2 w.heap.size (.int .i64 5) (.slice ka kids.length kc) (.int .i32 rune) (.slice sa sn sc) (.int .i64 pl) (.int .i64 cap) (.string name) (.int .i64 mn) (.int .i64 mx) (.bool lz)
  rw [← hW3] at hb3 hg3
  unfold World.set10 at hW3
  rw [← hW3]
  clear hW3 z0 z1 z2 z3 z4 z5 z6 z7 z8 z9 y0 y1 y2 y3 y4 y5 y6 y7 y8 y9
  have hB3 : Below w.heap.size w W3 := below_next HB2.out (Nat.le_refl _) hg3 (fun k e => by cases e; exact Nat.le_refl _)
  have hbel : Below B w2 W3 := (Below.refl _ w2).grown hg3 (Nat.le_trans HBB.out HB2.out.size) (fun k e => by cases e; exact HBB.out)
  have HB3 := Lib.hid hB3; have HX := Lib.hid hb3
  have HKV := Lib.hid (show kids.length = 0 ∨ ∃ b o, ka = some ⟨b, o, none⟩ ∧ b < B ∧ KidsAt W3 B kids b o from H3.out.imp_right fun ⟨b, o, e, hlt, hk⟩ => ⟨b, o, e, hlt, hk.below hbel hlt⟩)
  have HRV := Lib.hid (H4.out.below hbel)
  have x1 := hb3.cell (j := 1) rfl
  clear hb3 hg3 hB3 hbel H3 H4 HV HZ HB2
  have HPL := Lib.hid (plainT_is hup.self)
  have HUP := Lib.hid hup; have HUC := Lib.hid huc; have HUS := Lib.hid hus
  clear hup huc hus
  obtain ⟨ucells, huc⟩ : ∃ ucells, ucells = (cellsT 5 ka kids.length kc rune sa sn sc pl cap name mn mx lz) := ⟨_, rfl⟩
  have HCE := Lib.hid huc
  have HXU := Lib.hid (show Blk W3 w.heap.size ucells 27 by rw [huc]; exact HX.out)
  clear huc
  have hkl : kids.length ≤ 1000000 := by have h1 := HUC.out; have h2 := pcL_len kids; simp only [pcT] at h1; omega
  go_wp2_with fail
  go_loopw [3, 13] (fun lv iv wr => ∃ k : Nat, k ≤ kids.length ∧ iv = .int .i64 k ∧ LI w W3 ucells 5 (kids.take k) lv wr) (fun _ iv _ => kids.length - (intOf iv).toNat)
  case atStart => exact ⟨0, Nat.zero_le _, rfl, World.ownsRow_nil _ _ _ _, Below.refl _ _, HXU.out⟩
  case round =>
    obtain ⟨k, hk, rfl, ho, hbw, hbox⟩ := hrel
    have hlk : (kids.take k).length = k := by rw [List.length_take]; omega
    rw [hlk] at ho
    have HO := Lib.hid ho; have HBW := Lib.hid hbw; have HBX := Lib.hid hbox
    clear x1 ho hbw hbox hlk
    by_cases hlt : k < kids.length
    · exact absurd (HPL.out.leaf (by decide)) (by omega)
    · have hke : k = kids.length := by omega
      have HBF := Lib.hid (HB3.out.trans HBW.out)
      have HOF := Lib.hid (show wr.ownsRow (w.heap.size + 1) 9 1 u3 kids.length (kidsV 5 kids) by have := HO.out; rwa [hke, List.take_length] at this)
      have htb := HBX.out
      rw [HCE.out] at htb
      have x0 := htb.cell (j := 0) rfl
      have x1 := htb.cell (j := 1) rfl
      have x2 := htb.cell (j := 2) rfl
      have x3 := htb.cell (j := 3) rfl
      have x4 := htb.cell (j := 4) rfl
      have x5 := htb.cell (j := 5) rfl
      have x6 := htb.cell (j := 6) rfl
      have x7 := htb.cell (j := 7) rfl
      have x8 := htb.cell (j := 8) rfl
      have x9 := htb.cell (j := 9) rfl
      have HTBF := Lib.hid htb
      clear htb hke
      go_wp2_with fail
      refine (printer_place pl _).mono ?_
      rintro e w4 ⟨rfl, rfl⟩
      go_wp2_with fail
      go_ret
      exact ⟨by rw [HTX.out, textT_5]; rfl, HBF.out⟩
end Go.Proofs.YtihbmgpjihgodaaDoor
