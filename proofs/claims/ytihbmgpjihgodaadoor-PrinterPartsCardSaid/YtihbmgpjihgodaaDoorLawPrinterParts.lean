/- PrinterParts' law: a tree's text in a group is it between brackets; two trees' texts with a bar between are their Alt's. (Printed by gen_parts.py.) -/
import Derived.Test.YtihbmgpjihgodaaDoorQTextG
import Derived.Test.YtihbmgpjihgodaaDoorRefParts
import Derived.Test.YtihbmgpjihgodaaDoorRefGroups
import Derived.Deep.Cut
namespace Go.Proofs.YtihbmgpjihgodaaDoor
open Go Go.RowKit Go.Proofs Go.Shelf

theorem tok_sets (t : T) : TOk t → ∀ p ∈ parts t, p.set.length ≤ 17592186044000 := by
  induction t using T.ind with
  | h op kids rune set pl cap name mn mx lz ih =>
    intro h p hp
    obtain ⟨_, _, _, _, _, _, _, _, h9, _, h11⟩ := h.open
    simp only [parts, List.mem_cons] at hp
    rcases hp with rfl | hp
    · simp only [T.set]; omega
    · have : ∀ l : List T, (∀ k ∈ l, k ∈ kids) → p ∈ partsL l → p.set.length ≤ 17592186044000 := by
        intro l
        induction l with
        | nil => intro _ h; simp [partsL] at h
        | cons a l ihl =>
          intro hl h
          simp only [partsL, List.mem_append] at h
          rcases h with h | h
          · exact ih a (hl a (List.mem_cons_self ..)) (h11 a (hl a (List.mem_cons_self ..))) p h
          · exact ihl (fun k hk => hl k (List.mem_cons_of_mem _ hk)) h
      exact this kids (fun _ h => h) hp
def groupT (a : T) (name : ByteArray) : T := .mk 6 [a] 0 [] 0 1 name 0 0 false
def altT (a b : T) : T := .mk 12 [a, b] 0 [] 0 0 ⟨#[]⟩ 0 0 false
theorem pc_group (a : T) (name : ByteArray) : pcT (groupT a name) = 1 + pcT a := by simp [groupT, pcT, pcL]
theorem pc_alt (a b : T) : pcT (altT a b) = 1 + (pcT a + pcT b) := by simp [altT, pcT, pcL]
theorem text_alt (a b : T) : textT (altT a b) = textT a ++ [124] ++ textT b := by
  unfold altT; rw [textT_12]; simp [textsT, joinTx]
/-- A row of cells that lies in a block known whole. -/
theorem row_of_blk {w : World} {b : Nat} {cs : List Value} {t : TypeId} (h : Blk w b cs t) : RowAt w b 0 cs := by
  intro j hj
  rw [Nat.zero_add, List.getElem?_eq_getElem hj]
  exact h.cell (List.getElem?_eq_getElem hj)
theorem row_of_blk2 {w : World} {b : Nat} {cs ds : List Value} {t : TypeId} (h : Blk w b (cs ++ ds) t) : RowAt w b cs.length ds := by
  intro j hj
  rw [List.getElem?_eq_getElem hj]
  refine h.cell ?_
  rw [List.getElem?_append_right (by omega), Nat.add_sub_cancel_left, List.getElem?_eq_getElem hj]
theorem row_of_blk1 {w : World} {b : Nat} {cs ds : List Value} {t : TypeId} (h : Blk w b (cs ++ ds) t) : RowAt w b 0 cs := by
  intro j hj
  rw [Nat.zero_add, List.getElem?_eq_getElem hj]
  refine h.cell ?_
  rw [List.getElem?_append_left hj, List.getElem?_eq_getElem hj]

set_option maxRecDepth 100000 in
set_option maxHeartbeats 4000000 in
theorem law_printerParts (a b : T) (csa csb : List Value) (name : ByteArray) (B : Nat) (w : World) (ha : TreeV w B a csa) (hb : TreeV w B b csb) (hB : B ≤ w.heap.size) (hka : TOk a) (hkb : TOk b) (hs : name.size ≤ 140737488351232) (hT : Tb w) :
    Calls Tryd.prog 3 #[.agg csa.toArray, .agg csb.toArray, .string name] w fun e w' => e = .returned (.bool true) ∧ Below w.heap.size w w' := by
  have HB0 := Lib.hid (fun o1 o2 => show Below w.heap.size w ((w.alloc o1).alloc o2) from ((Below.refl _ w).alloc (Nat.le_refl _) o1).trans ((Below.refl _ _).alloc (by simp) o2))
  have HH := Lib.hid (fun W (hW : Below w.heap.size w W) => head09 W (hT.below hW))
  have HTA := Lib.hid (fun W (hW : Below w.heap.size w W) => (show TreeV W B a csa from ha.below (hW.mono hB)))
  have HTBB := Lib.hid (fun W (hW : Below w.heap.size w W) => (show TreeV W B b csb from hb.below (hW.mono hB)))
  have HTT := Lib.hid (fun W (hW : Below w.heap.size w W) => hT.below hW)
  have HBB := Lib.hid hB
  have hsa := tok_sets a hka
  have hsb := tok_sets b hkb
  have HPA := Lib.hid (fun W (hW : Below w.heap.size w W) => ref05_Parts a csa B W 20000 (ha.below (hW.mono hB)) (Nat.le_trans hB hW.size) hsa (by omega) (by omega))
  have HPB := Lib.hid (fun W (hW : Below w.heap.size w W) => ref05_Parts b csb B W 20000 (hb.below (hW.mono hB)) (Nat.le_trans hB hW.size) hsb (by omega) (by omega))
  have HGA := Lib.hid (fun (hn : (parts a).length ≤ 1000000) W (hW : Below w.heap.size w W) => ref05_Groups a csa B W (ha.below (hW.mono hB)) (Nat.le_trans hB hW.size) hn)
  have HGB := Lib.hid (fun (hn : (parts b).length ≤ 1000000) W (hW : Below w.heap.size w W) => ref05_Groups b csb B W (hb.below (hW.mono hB)) (Nat.le_trans hB hW.size) hn)
  have HRA := Lib.hid (fun (hpc : pcT a ≤ 1000000) W (hW : Below w.heap.size w W) => printer_Print a csa B W (ha.below (hW.mono hB)) (Nat.le_trans hB hW.size) hpc (hT.below hW))
  have HRB := Lib.hid (fun (hpc : pcT b ≤ 1000000) W (hW : Below w.heap.size w W) => printer_Print b csb B W (hb.below (hW.mono hB)) (Nat.le_trans hB hW.size) hpc (hT.below hW))
  have HNA := Lib.hid (partsN_all a 20000); have HNB := Lib.hid (partsN_all b 20000)
  have HZA := Lib.hid (fun o => show Blk ((w.alloc (.cells csa.toArray 27)).alloc o) w.heap.size csa 27 from (Blk.new w csa 27).alloc o)
  have HZB := Lib.hid (fun o => show Blk ((w.alloc o).alloc (.cells csb.toArray 27)) (w.heap.size + 1) csb 27 from by have := Blk.new (w.alloc o) csb 27; simpa only [World.size_alloc] using this)
  obtain ⟨aop, aka, akn, akc, arune, asa, asn, asc, apl, acap, aname, amn, amx, alz, rfl⟩ := ha.form
  obtain ⟨bop, bka, bkn, bkc, brune, bsa, bsn, bsc, bpl, bcap, bname, bmn, bmx, blz, rfl⟩ := hb.form
  clear ha hb hT hsa hsb hka hkb
  go_enter Tryd.func3, Tryd.ntmps3
  go_wp2_with fail
  refine (HH.out _ (HB0.out _ _)).mono ?_
  rintro e w1 ⟨rfl, hb1⟩
  have HB1 := Lib.hid ((HB0.out _ _).trans (hb1.mono (by simp; omega)))
  have HA1 := Lib.hid ((HZA.out _).below hb1 (by simp; omega))
  have HC1 := Lib.hid ((HZB.out _).below hb1 (by simp))
  clear hb1
  have z0 := HA1.out.cell (j := 0) rfl
  have z1 := HA1.out.cell (j := 1) rfl
  have z2 := HA1.out.cell (j := 2) rfl
  have z3 := HA1.out.cell (j := 3) rfl
  have z4 := HA1.out.cell (j := 4) rfl
  have z5 := HA1.out.cell (j := 5) rfl
  have z6 := HA1.out.cell (j := 6) rfl
  have z7 := HA1.out.cell (j := 7) rfl
  have z8 := HA1.out.cell (j := 8) rfl
  have z9 := HA1.out.cell (j := 9) rfl
  go_wp2_with fail
  refine (HPA.out _ HB1.out).mono ?_
  rintro e w2 ⟨rfl, hb2⟩
  have HB2 := Lib.hid (HB1.out.trans (hb2.mono HB1.out.size))
  have HA2 := Lib.hid (HA1.out.below hb2 HA1.out.lt)
  have HC2 := Lib.hid (HC1.out.below hb2 HC1.out.lt)
  clear hb2
  obtain ⟨NA, hNA⟩ : ∃ N, N = partsN a 20000 := ⟨_, rfl⟩
  rw [← hNA]
  have HNNA := Lib.hid hNA
  clear hNA
  clear z0 z1 z2 z3 z4 z5 z6 z7 z8 z9
  by_cases hgt : NA > 20000
  · have d1 : decide (20000 < NA) = true := decide_eq_true hgt
    go_wp2_with fail
    go_ret
    exact ⟨rfl, HB2.out⟩
  have d1 : decide (20000 < NA) = false := decide_eq_false hgt
  have hpa : pcT a ≤ 20000 := by have := HNA.out (by rw [← HNNA.out]; omega); rw [← HNNA.out] at this; omega
  have HPCA := Lib.hid hpa
  clear hgt hpa
  have y0 := HC2.out.cell (j := 0) rfl
  have y1 := HC2.out.cell (j := 1) rfl
  have y2 := HC2.out.cell (j := 2) rfl
  have y3 := HC2.out.cell (j := 3) rfl
  have y4 := HC2.out.cell (j := 4) rfl
  have y5 := HC2.out.cell (j := 5) rfl
  have y6 := HC2.out.cell (j := 6) rfl
  have y7 := HC2.out.cell (j := 7) rfl
  have y8 := HC2.out.cell (j := 8) rfl
  have y9 := HC2.out.cell (j := 9) rfl
  go_wp2_with fail
  refine (HPB.out _ HB2.out).mono ?_
  rintro e w3 ⟨rfl, hb3⟩
  have HB3 := Lib.hid (HB2.out.trans (hb3.mono HB2.out.size))
  have HA3 := Lib.hid (HA2.out.below hb3 HA2.out.lt)
  have HC3 := Lib.hid (HC2.out.below hb3 HC2.out.lt)
  clear hb3
  obtain ⟨NB, hNB⟩ : ∃ N, N = partsN b 20000 := ⟨_, rfl⟩
  rw [← hNB]
  have HNNB := Lib.hid hNB
  clear hNB
  clear y0 y1 y2 y3 y4 y5 y6 y7 y8 y9
  by_cases hgt : NB > 20000
  · have d2 : decide (20000 < NB) = true := decide_eq_true hgt
    go_wp2_with fail
    go_ret
    exact ⟨rfl, HB3.out⟩
  have d2 : decide (20000 < NB) = false := decide_eq_false hgt
  have hpb : pcT b ≤ 20000 := by have := HNB.out (by rw [← HNNB.out]; omega); rw [← HNNB.out] at this; omega
  have HPCB := Lib.hid hpb
  clear hgt hpb
  have z0 := HA3.out.cell (j := 0) rfl
  have z1 := HA3.out.cell (j := 1) rfl
  have z2 := HA3.out.cell (j := 2) rfl
  have z3 := HA3.out.cell (j := 3) rfl
  have z4 := HA3.out.cell (j := 4) rfl
  have z5 := HA3.out.cell (j := 5) rfl
  have z6 := HA3.out.cell (j := 6) rfl
  have z7 := HA3.out.cell (j := 7) rfl
  have z8 := HA3.out.cell (j := 8) rfl
  have z9 := HA3.out.cell (j := 9) rfl
  go_wp2_with fail
  refine (HGA.out (by have := parts_le_pc a; have := HPCA.out; omega) _ HB3.out).mono ?_
  rintro e w4 ⟨v4, xs4, rfl, ho, hf, hb4⟩
  obtain ⟨va4, vc4, rfl⟩ : ∃ va vc, v4 = .slice va (groupsL (parts a)).length vc := by
    rcases ho.2 with ⟨rfl, h0⟩ | ⟨g', cap', cur, rfl, _⟩
    · exact ⟨none, 0, by rw [h0]⟩
    · exact ⟨_, _, rfl⟩
  have HB4 := Lib.hid (HB3.out.trans (hb4.mono HB3.out.size))
  have HA4 := Lib.hid (HA3.out.below hb4 HA3.out.lt)
  have HC4 := Lib.hid (HC3.out.below hb4 HC3.out.lt)
  generalize (groupsL (parts a)).length = G4 at ho ⊢
  clear hb4 ho hf
  clear z0 z1 z2 z3 z4 z5 z6 z7 z8 z9
  by_cases hg4 : 0 < G4
  · have d4 : decide (0 < G4) = true := decide_eq_true hg4
    go_wp2_with fail
    go_ret
    exact ⟨rfl, HB4.out⟩
  have d4 : decide (0 < G4) = false := decide_eq_false hg4
  have y0 := HC4.out.cell (j := 0) rfl
  have y1 := HC4.out.cell (j := 1) rfl
  have y2 := HC4.out.cell (j := 2) rfl
  have y3 := HC4.out.cell (j := 3) rfl
  have y4 := HC4.out.cell (j := 4) rfl
  have y5 := HC4.out.cell (j := 5) rfl
  have y6 := HC4.out.cell (j := 6) rfl
  have y7 := HC4.out.cell (j := 7) rfl
  have y8 := HC4.out.cell (j := 8) rfl
  have y9 := HC4.out.cell (j := 9) rfl
  go_wp2_with fail
  refine (HGB.out (by have := parts_le_pc b; have := HPCB.out; omega) _ HB4.out).mono ?_
  rintro e w5 ⟨v5, xs5, rfl, ho, hf, hb5⟩
  obtain ⟨va5, vc5, rfl⟩ : ∃ va vc, v5 = .slice va (groupsL (parts b)).length vc := by
    rcases ho.2 with ⟨rfl, h0⟩ | ⟨g', cap', cur, rfl, _⟩
    · exact ⟨none, 0, by rw [h0]⟩
    · exact ⟨_, _, rfl⟩
  have HB5 := Lib.hid (HB4.out.trans (hb5.mono HB4.out.size))
  have HA5 := Lib.hid (HA4.out.below hb5 HA4.out.lt)
  have HC5 := Lib.hid (HC4.out.below hb5 HC4.out.lt)
  generalize (groupsL (parts b)).length = G5 at ho ⊢
  clear hb5 ho hf
  clear y0 y1 y2 y3 y4 y5 y6 y7 y8 y9
  by_cases hg5 : 0 < G5
  · have d5 : decide (0 < G5) = true := decide_eq_true hg5
    go_wp2_with fail
    go_ret
    exact ⟨rfl, HB5.out⟩
  have d5 : decide (0 < G5) = false := decide_eq_false hg5
  have z0 := HA5.out.cell (j := 0) rfl
  have z1 := HA5.out.cell (j := 1) rfl
  have z2 := HA5.out.cell (j := 2) rfl
  have z3 := HA5.out.cell (j := 3) rfl
  have z4 := HA5.out.cell (j := 4) rfl
  have z5 := HA5.out.cell (j := 5) rfl
  have z6 := HA5.out.cell (j := 6) rfl
  have z7 := HA5.out.cell (j := 7) rfl
  have z8 := HA5.out.cell (j := 8) rfl
  have z9 := HA5.out.cell (j := 9) rfl
  go_wp2_with fail
  refine (HRA.out (by have := HPCA.out; omega) _ HB5.out).mono ?_
  rintro e w6 ⟨rfl, hb6⟩
  have HB6 := Lib.hid (HB5.out.trans (hb6.mono HB5.out.size))
  have HA6 := Lib.hid (HA5.out.below hb6 HA5.out.lt)
  have HC6 := Lib.hid (HC5.out.below hb6 HC5.out.lt)
  clear hb6
  clear z0 z1 z2 z3 z4 z5 z6 z7 z8 z9
  have y0 := HC6.out.cell (j := 0) rfl
  have y1 := HC6.out.cell (j := 1) rfl
  have y2 := HC6.out.cell (j := 2) rfl
  have y3 := HC6.out.cell (j := 3) rfl
  have y4 := HC6.out.cell (j := 4) rfl
  have y5 := HC6.out.cell (j := 5) rfl
  have y6 := HC6.out.cell (j := 6) rfl
  have y7 := HC6.out.cell (j := 7) rfl
  have y8 := HC6.out.cell (j := 8) rfl
  have y9 := HC6.out.cell (j := 9) rfl
  generalize hSA : (⟨(printTx a).toArray⟩ : ByteArray) = SA
  generalize hEA : printE a = EA
  go_wp2_with fail
  refine (HRB.out (by have := HPCB.out; omega) _ HB6.out).mono ?_
  rintro e w7 ⟨rfl, hb7⟩
  have HB7 := Lib.hid (HB6.out.trans (hb7.mono HB6.out.size))
  have HA7 := Lib.hid (HA6.out.below hb7 HA6.out.lt)
  have HC7 := Lib.hid (HC6.out.below hb7 HC6.out.lt)
  clear hb7
  generalize hSB : (⟨(printTx b).toArray⟩ : ByteArray) = SB
  generalize hEB : printE b = EB
  clear y0 y1 y2 y3 y4 y5 y6 y7 y8 y9
  have HZ7 := Lib.hid (And.intro HA7.out HC7.out)
  have z0 := HA7.out.cell (j := 0) rfl
  have z1 := HA7.out.cell (j := 1) rfl
  have z2 := HA7.out.cell (j := 2) rfl
  have z3 := HA7.out.cell (j := 3) rfl
  have z4 := HA7.out.cell (j := 4) rfl
  have z5 := HA7.out.cell (j := 5) rfl
  have z6 := HA7.out.cell (j := 6) rfl
  have z7 := HA7.out.cell (j := 7) rfl
  have z8 := HA7.out.cell (j := 8) rfl
  have z9 := HA7.out.cell (j := 9) rfl
  have y0 := HC7.out.cell (j := 0) rfl
  have y1 := HC7.out.cell (j := 1) rfl
  have y2 := HC7.out.cell (j := 2) rfl
  have y3 := HC7.out.cell (j := 3) rfl
  have y4 := HC7.out.cell (j := 4) rfl
  have y5 := HC7.out.cell (j := 5) rfl
  have y6 := HC7.out.cell (j := 6) rfl
  have y7 := HC7.out.cell (j := 7) rfl
  have y8 := HC7.out.cell (j := 8) rfl
  have y9 := HC7.out.cell (j := 9) rfl
  have hlt7 : w.heap.size < w7.heap.size := HA7.out.lt
  have hlt8 : w.heap.size + 1 < w7.heap.size := HC7.out.lt
  have za0 := fun (o1 : Obj) => cell_lift (B := w7.heap.size) ((Below.refl _ w7).alloc (Nat.le_refl _) o1) hlt7 z0
  have zb0 := fun (o1 o2 : Obj) => cell_lift (B := w7.heap.size) (((Below.refl _ w7).alloc (Nat.le_refl _) o1).alloc (by simp) o2) hlt7 z0
  have yb0 := fun (o1 o2 : Obj) => cell_lift (B := w7.heap.size) (((Below.refl _ w7).alloc (Nat.le_refl _) o1).alloc (by simp) o2) hlt8 y0
  have za1 := fun (o1 : Obj) => cell_lift (B := w7.heap.size) ((Below.refl _ w7).alloc (Nat.le_refl _) o1) hlt7 z1
  have zb1 := fun (o1 o2 : Obj) => cell_lift (B := w7.heap.size) (((Below.refl _ w7).alloc (Nat.le_refl _) o1).alloc (by simp) o2) hlt7 z1
  have yb1 := fun (o1 o2 : Obj) => cell_lift (B := w7.heap.size) (((Below.refl _ w7).alloc (Nat.le_refl _) o1).alloc (by simp) o2) hlt8 y1
  have za2 := fun (o1 : Obj) => cell_lift (B := w7.heap.size) ((Below.refl _ w7).alloc (Nat.le_refl _) o1) hlt7 z2
  have zb2 := fun (o1 o2 : Obj) => cell_lift (B := w7.heap.size) (((Below.refl _ w7).alloc (Nat.le_refl _) o1).alloc (by simp) o2) hlt7 z2
  have yb2 := fun (o1 o2 : Obj) => cell_lift (B := w7.heap.size) (((Below.refl _ w7).alloc (Nat.le_refl _) o1).alloc (by simp) o2) hlt8 y2
  have za3 := fun (o1 : Obj) => cell_lift (B := w7.heap.size) ((Below.refl _ w7).alloc (Nat.le_refl _) o1) hlt7 z3
  have zb3 := fun (o1 o2 : Obj) => cell_lift (B := w7.heap.size) (((Below.refl _ w7).alloc (Nat.le_refl _) o1).alloc (by simp) o2) hlt7 z3
  have yb3 := fun (o1 o2 : Obj) => cell_lift (B := w7.heap.size) (((Below.refl _ w7).alloc (Nat.le_refl _) o1).alloc (by simp) o2) hlt8 y3
  have za4 := fun (o1 : Obj) => cell_lift (B := w7.heap.size) ((Below.refl _ w7).alloc (Nat.le_refl _) o1) hlt7 z4
  have zb4 := fun (o1 o2 : Obj) => cell_lift (B := w7.heap.size) (((Below.refl _ w7).alloc (Nat.le_refl _) o1).alloc (by simp) o2) hlt7 z4
  have yb4 := fun (o1 o2 : Obj) => cell_lift (B := w7.heap.size) (((Below.refl _ w7).alloc (Nat.le_refl _) o1).alloc (by simp) o2) hlt8 y4
  have za5 := fun (o1 : Obj) => cell_lift (B := w7.heap.size) ((Below.refl _ w7).alloc (Nat.le_refl _) o1) hlt7 z5
  have zb5 := fun (o1 o2 : Obj) => cell_lift (B := w7.heap.size) (((Below.refl _ w7).alloc (Nat.le_refl _) o1).alloc (by simp) o2) hlt7 z5
  have yb5 := fun (o1 o2 : Obj) => cell_lift (B := w7.heap.size) (((Below.refl _ w7).alloc (Nat.le_refl _) o1).alloc (by simp) o2) hlt8 y5
  have za6 := fun (o1 : Obj) => cell_lift (B := w7.heap.size) ((Below.refl _ w7).alloc (Nat.le_refl _) o1) hlt7 z6
  have zb6 := fun (o1 o2 : Obj) => cell_lift (B := w7.heap.size) (((Below.refl _ w7).alloc (Nat.le_refl _) o1).alloc (by simp) o2) hlt7 z6
  have yb6 := fun (o1 o2 : Obj) => cell_lift (B := w7.heap.size) (((Below.refl _ w7).alloc (Nat.le_refl _) o1).alloc (by simp) o2) hlt8 y6
  have za7 := fun (o1 : Obj) => cell_lift (B := w7.heap.size) ((Below.refl _ w7).alloc (Nat.le_refl _) o1) hlt7 z7
  have zb7 := fun (o1 o2 : Obj) => cell_lift (B := w7.heap.size) (((Below.refl _ w7).alloc (Nat.le_refl _) o1).alloc (by simp) o2) hlt7 z7
  have yb7 := fun (o1 o2 : Obj) => cell_lift (B := w7.heap.size) (((Below.refl _ w7).alloc (Nat.le_refl _) o1).alloc (by simp) o2) hlt8 y7
  have za8 := fun (o1 : Obj) => cell_lift (B := w7.heap.size) ((Below.refl _ w7).alloc (Nat.le_refl _) o1) hlt7 z8
  have zb8 := fun (o1 o2 : Obj) => cell_lift (B := w7.heap.size) (((Below.refl _ w7).alloc (Nat.le_refl _) o1).alloc (by simp) o2) hlt7 z8
  have yb8 := fun (o1 o2 : Obj) => cell_lift (B := w7.heap.size) (((Below.refl _ w7).alloc (Nat.le_refl _) o1).alloc (by simp) o2) hlt8 y8
  have za9 := fun (o1 : Obj) => cell_lift (B := w7.heap.size) ((Below.refl _ w7).alloc (Nat.le_refl _) o1) hlt7 z9
  have zb9 := fun (o1 o2 : Obj) => cell_lift (B := w7.heap.size) (((Below.refl _ w7).alloc (Nat.le_refl _) o1).alloc (by simp) o2) hlt7 z9
  have yb9 := fun (o1 o2 : Obj) => cell_lift (B := w7.heap.size) (((Below.refl _ w7).alloc (Nat.le_refl _) o1).alloc (by simp) o2) hlt8 y9
  go_upto_region 8 with (fail)
  obtain ⟨W8, hW8⟩ : ∃ W8, W8 = (((w7.alloc (.cells #[.int .i64 aop, .slice aka akn akc, .int .i32 arune, .slice asa asn asc, .int .i64 apl, .int .i64 acap, .string aname, .int .i64 amn, .int .i64 amx, .bool alz] 27)).alloc (.cells #[.int .i64 6, .slice (some ⟨w7.heap.size, 0, none⟩) 1 1, .int .i32 0, .slice none 0 0, .int .i64 0, .int .i64 1, .string name, .int .i64 0, .int .i64 0, .bool false] 27)).alloc (.cells ([.int .i64 aop, .slice aka akn akc, .int .i32 arune, .slice asa asn asc, .int .i64 apl, .int .i64 acap, .string aname, .int .i64 amn, .int .i64 amx, .bool alz] ++ [.int .i64 bop, .slice bka bkn bkc, .int .i32 brune, .slice bsa bsn bsc, .int .i64 bpl, .int .i64 bcap, .string bname, .int .i64 bmn, .int .i64 bmx, .bool blz] : List Value).toArray 27)).alloc (.cells #[.int .i64 12, .slice (some ⟨w7.heap.size + 2, 0, none⟩) 2 2, .int .i32 0, .slice none 0 0, .int .i64 0, .int .i64 0, .string ⟨#[]⟩, .int .i64 0, .int .i64 0, .bool false] 27) := ⟨_, rfl⟩
  have hP : Blk W8 w7.heap.size [.int .i64 aop, .slice aka akn akc, .int .i32 arune, .slice asa asn asc, .int .i64 apl, .int .i64 acap, .string aname, .int .i64 amn, .int .i64 amx, .bool alz] 27 := by rw [hW8]; exact (((Blk.new w7 [.int .i64 aop, .slice aka akn akc, .int .i32 arune, .slice asa asn asc, .int .i64 apl, .int .i64 acap, .string aname, .int .i64 amn, .int .i64 amx, .bool alz] 27).alloc _).alloc _).alloc _
  have hG : Blk W8 (w7.heap.size + 1) [.int .i64 6, .slice (some ⟨w7.heap.size, 0, none⟩) 1 1, .int .i32 0, .slice none 0 0, .int .i64 0, .int .i64 1, .string name, .int .i64 0, .int .i64 0, .bool false] 27 := by
    have := Blk.new (w7.alloc (.cells #[.int .i64 aop, .slice aka akn akc, .int .i32 arune, .slice asa asn asc, .int .i64 apl, .int .i64 acap, .string aname, .int .i64 amn, .int .i64 amx, .bool alz] 27)) [.int .i64 6, .slice (some ⟨w7.heap.size, 0, none⟩) 1 1, .int .i32 0, .slice none 0 0, .int .i64 0, .int .i64 1, .string name, .int .i64 0, .int .i64 0, .bool false] 27
    simp only [World.size_alloc] at this
    rw [hW8]; exact (this.alloc _).alloc _
  have hQ : Blk W8 (w7.heap.size + 2) ([.int .i64 aop, .slice aka akn akc, .int .i32 arune, .slice asa asn asc, .int .i64 apl, .int .i64 acap, .string aname, .int .i64 amn, .int .i64 amx, .bool alz] ++ [.int .i64 bop, .slice bka bkn bkc, .int .i32 brune, .slice bsa bsn bsc, .int .i64 bpl, .int .i64 bcap, .string bname, .int .i64 bmn, .int .i64 bmx, .bool blz]) 27 := by
    have := Blk.new ((w7.alloc (.cells #[.int .i64 aop, .slice aka akn akc, .int .i32 arune, .slice asa asn asc, .int .i64 apl, .int .i64 acap, .string aname, .int .i64 amn, .int .i64 amx, .bool alz] 27)).alloc (.cells #[.int .i64 6, .slice (some ⟨w7.heap.size, 0, none⟩) 1 1, .int .i32 0, .slice none 0 0, .int .i64 0, .int .i64 1, .string name, .int .i64 0, .int .i64 0, .bool false] 27)) ([.int .i64 aop, .slice aka akn akc, .int .i32 arune, .slice asa asn asc, .int .i64 apl, .int .i64 acap, .string aname, .int .i64 amn, .int .i64 amx, .bool alz] ++ [.int .i64 bop, .slice bka bkn bkc, .int .i32 brune, .slice bsa bsn bsc, .int .i64 bpl, .int .i64 bcap, .string bname, .int .i64 bmn, .int .i64 bmx, .bool blz] : List Value) 27
    simp only [World.size_alloc] at this
    rw [hW8]; exact this.alloc _
  have hX : Blk W8 (w7.heap.size + 3) [.int .i64 12, .slice (some ⟨w7.heap.size + 2, 0, none⟩) 2 2, .int .i32 0, .slice none 0 0, .int .i64 0, .int .i64 0, .string ⟨#[]⟩, .int .i64 0, .int .i64 0, .bool false] 27 := by
    have := Blk.new (((w7.alloc (.cells #[.int .i64 aop, .slice aka akn akc, .int .i32 arune, .slice asa asn asc, .int .i64 apl, .int .i64 acap, .string aname, .int .i64 amn, .int .i64 amx, .bool alz] 27)).alloc (.cells #[.int .i64 6, .slice (some ⟨w7.heap.size, 0, none⟩) 1 1, .int .i32 0, .slice none 0 0, .int .i64 0, .int .i64 1, .string name, .int .i64 0, .int .i64 0, .bool false] 27)).alloc (.cells ([.int .i64 aop, .slice aka akn akc, .int .i32 arune, .slice asa asn asc, .int .i64 apl, .int .i64 acap, .string aname, .int .i64 amn, .int .i64 amx, .bool alz] ++ [.int .i64 bop, .slice bka bkn bkc, .int .i32 brune, .slice bsa bsn bsc, .int .i64 bpl, .int .i64 bcap, .string bname, .int .i64 bmn, .int .i64 bmx, .bool blz] : List Value).toArray 27)) [.int .i64 12, .slice (some ⟨w7.heap.size + 2, 0, none⟩) 2 2, .int .i32 0, .slice none 0 0, .int .i64 0, .int .i64 0, .string ⟨#[]⟩, .int .i64 0, .int .i64 0, .bool false] 27
    simp only [World.size_alloc] at this
    rw [hW8]; exact this
  have HB8 := Lib.hid (show Below w.heap.size w W8 by rw [hW8]; exact (((HB7.out.alloc HB7.out.size _).alloc (by have := HB7.out.size; simp; omega) _).alloc (by have := HB7.out.size; simp; omega) _).alloc (by have := HB7.out.size; simp; omega) _)
  have hsz8 : W8.heap.size = w7.heap.size + 4 := by rw [hW8]; simp
  first | rw [← hW8] | (simp only [List.cons_append, List.nil_append] at hW8; rw [← hW8])
  clear hW8
  clear z0 z1 z2 z3 z4 z5 z6 z7 z8 z9 y0 y1 y2 y3 y4 y5 y6 y7 y8 y9 za0 za1 za2 za3 za4 za5 za6 za7 za8 za9 zb0 zb1 zb2 zb3 zb4 zb5 zb6 zb7 zb8 zb9 yb0 yb1 yb2 yb3 yb4 yb5 yb6 yb7 yb8 yb9
  have HGT := Lib.hid (fun W (hW : Below W8.heap.size W8 W) => (show TreeV W W8.heap.size (groupT a name) [.int .i64 6, .slice (some ⟨w7.heap.size, 0, none⟩) 1 1, .int .i32 0, .slice none 0 0, .int .i64 0, .int .i64 1, .string name, .int .i64 0, .int .i64 0, .bool false] from by
    refine TreeV.mk ⟨rfl, ⟨Nat.le_refl _, by omega⟩, .inr ⟨w7.heap.size, 0, rfl, by omega, KidsAt.cons.2 ⟨⟨_, (HTA.out W (HB8.out.trans (hW.mono HB8.out.size))).mono (Nat.le_trans HBB.out HB8.out.size), ?_⟩, KidsAt.nil⟩⟩⟩ ⟨rfl, ⟨Nat.le_refl _, by omega⟩, .inl rfl⟩
    exact (row_of_blk hP).below hW (by omega)))
  have HXT := Lib.hid (fun W (hW : Below W8.heap.size W8 W) => (show TreeV W W8.heap.size (altT a b) [.int .i64 12, .slice (some ⟨w7.heap.size + 2, 0, none⟩) 2 2, .int .i32 0, .slice none 0 0, .int .i64 0, .int .i64 0, .string ⟨#[]⟩, .int .i64 0, .int .i64 0, .bool false] from by
    refine TreeV.mk ⟨rfl, ⟨Nat.le_refl _, by omega⟩, .inr ⟨w7.heap.size + 2, 0, rfl, by omega, KidsAt.cons.2 ⟨⟨_, (HTA.out W (HB8.out.trans (hW.mono HB8.out.size))).mono (Nat.le_trans HBB.out HB8.out.size), ?_⟩, KidsAt.cons.2 ⟨⟨_, (HTBB.out W (HB8.out.trans (hW.mono HB8.out.size))).mono (Nat.le_trans HBB.out HB8.out.size), ?_⟩, KidsAt.nil⟩⟩⟩⟩ ⟨rfl, ⟨Nat.le_refl _, by omega⟩, .inl rfl⟩
    · exact (row_of_blk1 hQ).below hW (by omega)
    · exact (row_of_blk2 hQ).below hW (by omega)))
  have hpg : pcT (groupT a name) ≤ 1000000 := by rw [pc_group]; have := HPCA.out; omega
  have hpx : pcT (altT a b) ≤ 1000000 := by rw [pc_alt]; have := HPCA.out; have := HPCB.out; omega
  have HPG := Lib.hid hpg; have HPX := Lib.hid hpx
  have HRG := Lib.hid (fun W (hW : Below W8.heap.size W8 W) => right_any sets_Right (groupT a name) _ W8.heap.size W (HGT.out W hW) hW.size (fun p hp _ => by have := set_le_pc _ p hp; omega) (by have := parts_le_pc (groupT a name); omega))
  have HRX := Lib.hid (fun W (hW : Below W8.heap.size W8 W) => right_any sets_Right (altT a b) _ W8.heap.size W (HXT.out W hW) hW.size (fun p hp _ => by have := set_le_pc _ p hp; omega) (by have := parts_le_pc (altT a b); omega))
  have HNG := Lib.hid (fun W (hW : Below W8.heap.size W8 W) => printer_Print (groupT a name) _ W8.heap.size W (HGT.out W hW) hW.size HPG.out (HTT.out _ (HB8.out.trans (hW.mono HB8.out.size))))
  have HNX := Lib.hid (fun W (hW : Below W8.heap.size W8 W) => printer_Print (altT a b) _ W8.heap.size W (HXT.out W hW) hW.size HPX.out (HTT.out _ (HB8.out.trans (hW.mono HB8.out.size))))
  have HGB8 := Lib.hid hG; have HXB8 := Lib.hid hX
  have HP7 := Lib.hid hlt7
  obtain ⟨P, hPP⟩ : ∃ P, P = w7.heap.size := ⟨_, rfl⟩
  rw [← hPP] at HGB8 HXB8 HGT HXT HRG HRX HNG HNX hsz8
  rw [← hPP]
  clear hP hG hQ hX hpg hpx hPP hlt7 hlt8
  cases hra : rightB a with
  | false =>
    have h5 : EA = 51 := by rw [← hEA]; unfold printE; rw [if_neg (by rw [hra]; simp)]
    subst h5
    clear hEA hra
    go_wp2_with fail
    go_ret
    exact ⟨rfl, HB8.out⟩
  | true =>
  have h5 : EA = 0 := by rw [← hEA]; unfold printE; rw [if_pos hra]
  subst h5
  have hSA2 : SA = ⟨(textT a).toArray⟩ := by rw [← hSA]; unfold printTx; rw [if_pos hra]
  have HRRA := Lib.hid hra
  clear hEA hra hSA
  cases hrb : rightB b with
  | false =>
    have h5 : EB = 51 := by rw [← hEB]; unfold printE; rw [if_neg (by rw [hrb]; simp)]
    subst h5
    clear hEB hrb
    go_wp2_with fail
    go_ret
    exact ⟨rfl, HB8.out⟩
  | true =>
  have h6 : EB = 0 := by rw [← hEB]; unfold printE; rw [if_pos hrb]
  subst h6
  have hSB2 : SB = ⟨(textT b).toArray⟩ := by rw [← hSB]; unfold printTx; rw [if_pos hrb]
  have HRRB := Lib.hid hrb
  clear hEB hrb hSB
  have hsa : SA.size ≤ 100000000 := by rw [hSA2]; exact text_size (right_plainAll HRRA.out) (by have := HPCA.out; omega)
  have hsb : SB.size ≤ 100000000 := by rw [hSB2]; exact text_size (right_plainAll HRRB.out) (by have := HPCB.out; omega)
  have HSA := Lib.hid hSA2; have HSB := Lib.hid hSB2
  clear hSA2 hSB2
  have z0 := HGB8.out.cell (j := 0) rfl
  have z1 := HGB8.out.cell (j := 1) rfl
  have z2 := HGB8.out.cell (j := 2) rfl
  have z3 := HGB8.out.cell (j := 3) rfl
  have z4 := HGB8.out.cell (j := 4) rfl
  have z5 := HGB8.out.cell (j := 5) rfl
  have z6 := HGB8.out.cell (j := 6) rfl
  have z7 := HGB8.out.cell (j := 7) rfl
  have z8 := HGB8.out.cell (j := 8) rfl
  have z9 := HGB8.out.cell (j := 9) rfl
  go_wp2_with fail
  refine (HRG.out _ (Below.refl _ _)).mono ?_
  rintro e w9 ⟨rfl, hb9⟩
  have HK9 := Lib.hid hb9
  have HG9 := Lib.hid (HGB8.out.below hb9 HGB8.out.lt); have HX9 := Lib.hid (HXB8.out.below hb9 HXB8.out.lt)
  clear hb9
  clear z0 z1 z2 z3 z4 z5 z6 z7 z8 z9
  cases hrg : rightB (groupT a name) with
  | false =>
    go_wp2_with fail
    go_ret
    exact ⟨rfl, HB8.out.trans (HK9.out.mono HB8.out.size)⟩
  | true =>
  have HRRG := Lib.hid hrg
  clear hrg
  have z0 := HX9.out.cell (j := 0) rfl
  have z1 := HX9.out.cell (j := 1) rfl
  have z2 := HX9.out.cell (j := 2) rfl
  have z3 := HX9.out.cell (j := 3) rfl
  have z4 := HX9.out.cell (j := 4) rfl
  have z5 := HX9.out.cell (j := 5) rfl
  have z6 := HX9.out.cell (j := 6) rfl
  have z7 := HX9.out.cell (j := 7) rfl
  have z8 := HX9.out.cell (j := 8) rfl
  have z9 := HX9.out.cell (j := 9) rfl
  go_wp2_with fail
  refine (HRX.out _ HK9.out).mono ?_
  rintro e w10 ⟨rfl, hb10⟩
  have HK10 := Lib.hid (below_then HK9.out hb10)
  have HG10 := Lib.hid (HG9.out.below hb10 HG9.out.lt); have HX10 := Lib.hid (HX9.out.below hb10 HX9.out.lt)
  clear hb10
  clear z0 z1 z2 z3 z4 z5 z6 z7 z8 z9
  cases hrx : rightB (altT a b) with
  | false =>
    go_wp2_with fail
    go_ret
    exact ⟨rfl, HB8.out.trans (HK10.out.mono HB8.out.size)⟩
  | true =>
  have HRRX := Lib.hid hrx
  clear hrx
  have z0 := HG10.out.cell (j := 0) rfl
  have z1 := HG10.out.cell (j := 1) rfl
  have z2 := HG10.out.cell (j := 2) rfl
  have z3 := HG10.out.cell (j := 3) rfl
  have z4 := HG10.out.cell (j := 4) rfl
  have z5 := HG10.out.cell (j := 5) rfl
  have z6 := HG10.out.cell (j := 6) rfl
  have z7 := HG10.out.cell (j := 7) rfl
  have z8 := HG10.out.cell (j := 8) rfl
  have z9 := HG10.out.cell (j := 9) rfl
  have e1 : printE (groupT a name) = 0 := by unfold printE; rw [if_pos HRRG.out]
  have e2 : printTx (groupT a name) = textT (groupT a name) := by unfold printTx; rw [if_pos HRRG.out]
  have e3 : printE (altT a b) = 0 := by unfold printE; rw [if_pos HRRX.out]
  have e4 : (⟨(printTx (altT a b)).toArray⟩ : ByteArray) = SA ++ ⟨#[124]⟩ ++ SB := by
    unfold printTx; rw [if_pos HRRX.out, text_alt, HSA.out, HSB.out]
    show _ = (⟨(textT a).toArray⟩ : ByteArray) ++ ⟨[124].toArray⟩ ++ ⟨(textT b).toArray⟩
    rw [ba_app, ba_app]
  have HE := Lib.hid (And.intro e1 (And.intro e2 (And.intro e3 e4)))
  clear e1 e2 e3 e4
  go_wp2_with fail
  refine (HNG.out _ HK10.out).mono ?_
  rintro e w11 ⟨rfl, hb11⟩
  rw [HE.out.1, HE.out.2.1]
  have HK11 := Lib.hid (below_then HK10.out hb11)
  have HX11 := Lib.hid (HX10.out.below hb11 HX10.out.lt)
  clear hb11
  clear z0 z1 z2 z3 z4 z5 z6 z7 z8 z9
  have z0 := HX11.out.cell (j := 0) rfl
  have z1 := HX11.out.cell (j := 1) rfl
  have z2 := HX11.out.cell (j := 2) rfl
  have z3 := HX11.out.cell (j := 3) rfl
  have z4 := HX11.out.cell (j := 4) rfl
  have z5 := HX11.out.cell (j := 5) rfl
  have z6 := HX11.out.cell (j := 6) rfl
  have z7 := HX11.out.cell (j := 7) rfl
  have z8 := HX11.out.cell (j := 8) rfl
  have z9 := HX11.out.cell (j := 9) rfl
  generalize hSG : (⟨(textT (groupT a name)).toArray⟩ : ByteArray) = SG
  go_wp2_with fail
  refine (HNX.out _ HK11.out).mono ?_
  rintro e w12 ⟨rfl, hb12⟩
  rw [HE.out.2.2.1, HE.out.2.2.2]
  have HBZ := Lib.hid (HB8.out.trans ((below_then HK11.out hb12).mono HB8.out.size))
  clear hb12
  clear z0 z1 z2 z3 z4 z5 z6 z7 z8 z9
  by_cases hn0 : name.size = 0
  · obtain rfl := size_zero hn0
    have e5 : SG = ⟨#[40]⟩ ++ SA ++ ⟨#[41]⟩ := by
      rw [← hSG, HSA.out, groupT, textT_6]
      show _ = (⟨[40].toArray⟩ : ByteArray) ++ ⟨(textT a).toArray⟩ ++ ⟨[41].toArray⟩
      rw [ba_app, ba_app]; rfl
    subst e5
    clear hSG hn0
    go_wp2_with fail
    go_ret
    exact ⟨by simp, HBZ.out⟩
  · have k2 := list_ne hn0
    have k3 := list_nil hn0
    have e5 : SG = ⟨#[40, 63, 80, 60]⟩ ++ name ++ ⟨#[62]⟩ ++ SA ++ ⟨#[41]⟩ := by
      rw [← hSG, HSA.out, groupT, textT_6, if_neg hn0]
      show _ = (⟨[40, 63, 80, 60].toArray⟩ : ByteArray) ++ ⟨name.data.toList.toArray⟩ ++ ⟨[62].toArray⟩ ++ ⟨(textT a).toArray⟩ ++ ⟨[41].toArray⟩
      rw [ba_app, ba_app, ba_app, ba_app]
    subst e5
    clear hSG hn0
    go_wp2_with fail
    go_ret
    exact ⟨by simp, HBZ.out⟩
end Go.Proofs.YtihbmgpjihgodaaDoor
