/- The reader of patterns: what stands in a group, up to its end. The reader of patterns: a group that has a number. -/
import Derived.Test.YtnhnldmldnhaoaaGreatDoorDSynFit
import Derived.Test.YtnhnldmldnhaoaaGreatDoorDSySign
namespace Go.Proofs.YtnhnldmldnhaoaaGreatDoor
open Go Go.RowKit Go.Proofs Go.Shelf

/-- The contracts of the reader's calls, at a fuel. -/
def PartsC (s : ByteArray) (n : Nat) : Prop := ∀ (b lo : Nat) (st : St) (nv : Value) (w : World), SynIn w b lo s st nv → 8 * (s.size - st.p) + 4 ≤ n → Calls Tryz.prog 35 #[.pointer (some ⟨b, 0, none⟩)] w (TreeOut w b lo s nv (partsP s n st))
def PartC (s : ByteArray) (n : Nat) : Prop := ∀ (b lo : Nat) (st : St) (nv : Value) (w : World), SynIn w b lo s st nv → 8 * (s.size - st.p) + 3 ≤ n → Calls Tryz.prog 47 #[.pointer (some ⟨b, 0, none⟩)] w (TreeOut w b lo s nv (partP s n st []))
def AtomsC (s : ByteArray) (n : Nat) : Prop := ∀ (b lo : Nat) (st : St) (nv : Value) (w : World), SynIn w b lo s st nv → st.p < s.size → 8 * (s.size - st.p) + 2 ≤ n → Calls Tryz.prog 62 #[.pointer (some ⟨b, 0, none⟩)] w (ListsOut w b lo s nv (atomsP s n st))
def OpenC (s : ByteArray) (n : Nat) : Prop := ∀ (b lo : Nat) (st : St) (nv : Value) (w : World), SynIn w b lo s st nv → st.p < s.size → nextC s st.p = 40 → 8 * (s.size - st.p) + 1 ≤ n → Calls Tryz.prog 77 #[.pointer (some ⟨b, 0, none⟩)] w (ListsOut w b lo s nv (openP s n st))
def GroupC (s : ByteArray) (n : Nat) : Prop := ∀ (b lo : Nat) (st : St) (nm : ByteArray) (nv : Value) (w : World), SynIn w b lo s st nv → st.ns.length < st.p → 8 * (s.size - st.p) + 6 ≤ n → Calls Tryz.prog 100 #[.pointer (some ⟨b, 0, none⟩), .string nm] w (TreeOut w b lo s nv (groupP s n st nm))
def CloseC (s : ByteArray) (n : Nat) : Prop := ∀ (b lo : Nat) (st : St) (nv : Value) (w : World), SynIn w b lo s st nv → 8 * (s.size - st.p) + 5 ≤ n → Calls Tryz.prog 102 #[.pointer (some ⟨b, 0, none⟩)] w (TreeOut w b lo s nv (closeP s n st))

set_option maxRecDepth 100000 in
set_option maxHeartbeats 8000000 in
theorem close_wrong (b lo : Nat) (s : ByteArray) (st : St) (nv : Value) (w : World) (h : SynIn w b lo s st nv) (x a d : Int)
    (hP : ∀ W, SynIn W b lo s st nv → Calls Tryz.prog 35 #[.pointer (some ⟨b, 0, none⟩)] W (TreeOut W b lo s nv (.wrong x a d))) :
    Calls Tryz.prog 102 #[.pointer (some ⟨b, 0, none⟩)] w (TreeOut w b lo s nv (.wrong x a d)) := by
  have L0 := Lib.hid (h.below ((Below.refl _ w).alloc (Nat.le_refl _) (.cells zero10.toArray 29)))
  have HP := Lib.hid hP
  clear h hP
  go_enter Tryz.func102, Tryz.ntmps102
  go_wp2_with fail
  refine (HP.out _ L0.out.i).mono ?_
  rintro e w1 ⟨rfl, hg⟩
  exact ⟨rfl, rfl, L0.out.g.trans hg L0.out.mine⟩
set_option maxRecDepth 100000 in
set_option maxHeartbeats 8000000 in
theorem close_ok (b lo : Nat) (s : ByteArray) (st st1 : St) (nv : Value) (w : World) (h : SynIn w b lo s st nv) (hs : s.size ≤ 100000000000000) (t : T)
    (hP : ∀ W, SynIn W b lo s st nv → Calls Tryz.prog 35 #[.pointer (some ⟨b, 0, none⟩)] W (TreeOut W b lo s nv (.ok t st1))) (hst : stands s st1.p [41] = true) :
    Calls Tryz.prog 102 #[.pointer (some ⟨b, 0, none⟩)] w (TreeOut w b lo s nv (.ok t { st1 with p := st1.p + 1 })) := by
  have hb := h.r.lt
  have hl := h.e.le
  have hno := fun k hk => (h.o.lt k hk).2
  have hA : Below w.heap.size w (w.alloc (.cells zero10.toArray 29)) := (Below.refl _ w).alloc (Nat.le_refl _) _
  have L0 := Lib.hid (h.below hA)
  have K0 := Lib.hid (Blk.new w zero10 29)
  have HP := Lib.hid hP; have HNO := Lib.hid hno
  clear h hP hA hno
  go_enter Tryz.func102, Tryz.ntmps102
  go_wp2_with fail
  refine (HP.out _ L0.out.i).mono ?_
  rintro e w1 ⟨cs, nv1, rfl, hT, hL⟩
  have hne1 : nv1.ownBlock ≠ some w.heap.size := fun e => by
    rcases hL.v _ e with h2 | h2
    · have := HNO.out _ h2; omega
    · rw [World.size_alloc] at h2; omega
  have K1 := Lib.hid (K0.out.grownF hL.g (by rintro (h2 | h2); omega; have := HNO.out _ h2; omega))
  obtain ⟨op, ka, kn, kc, rune, xa, xn, xc, pl, cap, name, mn, mx, lz, rfl⟩ := hT.form
  have L1 := Lib.hid (L0.out.trans hL); have T1 := Lib.hid (tree_down hT L0.out.g.size); have N1 := Lib.hid hne1
  have TT := Lib.hid (fun k hk => show w.heap.size + 1 ≤ k from by have := (show FreshN (w.alloc (.cells zero10.toArray 29)) w1 nv1 k from hk).1.1; rw [World.size_alloc] at this; exact this)
  have T0 := Lib.hid hT
  clear hT hL hne1
  have hA1 : Below w1.heap.size w1 (w1.alloc (.cells #[.int .i64 op, .slice ka kn kc, .int .i32 rune, .slice xa xn xc, .int .i64 pl, .int .i64 cap, .string name, .int .i64 mn, .int .i64 mx, .bool lz] 29)) := (Below.refl _ w1).alloc (Nat.le_refl _) _
  have L2 := Lib.hid (L1.out.below hA1)
  have T2 := Lib.hid (tree_on (nv' := nv1) T0.out (GrownF.of_below (F := fun _ => False) hA1) (fun k hk => ⟨fun h => h, hk.2⟩))
  have K2 := Lib.hid (Blk.below K1.out hA1 K1.out.lt)
  have Q2 := Lib.hid (Blk.new w1 [.int .i64 op, .slice ka kn kc, .int .i32 rune, .slice xa xn xc, .int .i64 pl, .int .i64 cap, .string name, .int .i64 mn, .int .i64 mx, .bool lz] 29)
  have hz1 : w.heap.size + 1 ≤ w1.heap.size := by have := K1.out.lt; omega
  clear hA1
  go_wp2_with fail
  refine (syn_has_yes b s 41 st1.f st1.p nv1 _ L2.out.i.r L2.out.i.p (by omega) hst).mono ?_
  rintro e w3 ⟨rfl, hR, hG⟩
  have hbd := Bd.sign L2.out.i.d (Nat.le_refl _) hst (by decide)
  have L3 := Lib.hid (L2.out.grown (st' := { st1 with p := st1.p + 1 }) hR hG rfl (by have := (stands_one s st1.p 41).1 hst; obtain ⟨h2, _⟩ := this; show st1.p + 1 ≤ s.size; omega) hbd (by have := L2.out.i.m; show st1.ns.length ≤ st1.p + 1; omega))
  have T3 := Lib.hid (tree_on (nv' := nv1) T2.out (GrownF.of_grown (F := fun k => k = b) hG (fun k e _ => by cases e; rfl)) (fun k hk => ⟨fun e => by have := hk.1.1; rw [World.size_alloc] at this; omega, hk.2⟩))
  have K3 := Lib.hid (K2.out.grown hG (ne_some (by omega)))
  have Q3 := Lib.hid (Q2.out.grown hG (ne_some (by omega)))
  clear hR hG hbd
  obtain ⟨c0, c1, c2, c3, c4, c5, c6, c7, c8, c9, f0, f1, f2, f3, f4, f5, f6, f7, f8, f9⟩ := K3.out.ten
  obtain ⟨e0, e1, e2, e3, e4, e5, e6, e7, e8, e9, _, _, _, _, _, _, _, _, _, _⟩ := Q3.out.ten
  go_wp2_with fail
  change bodyPost _ _ _ _ _ (World.set10 w3 w.heap.size (.int .i64 op) (.slice ka kn kc) (.int .i32 rune) (.slice xa xn xc) (.int .i64 pl) (.int .i64 cap) (.string name) (.int .i64 mn) (.int .i64 mx) (.bool lz))
  have O := K3.out.set10 (.int .i64 op) (.slice ka kn kc) (.int .i32 rune) (.slice xa xn xc) (.int .i64 pl) (.int .i64 cap) (.string name) (.int .i64 mn) (.int .i64 mx) (.bool lz)
  obtain ⟨d0, d1, d2, d3, d4, d5, d6, d7, d8, d9, _, _, _, _, _, _, _, _, _, _⟩ := O.ten
  refine ⟨rfl, .agg #[.int .i64 op, .slice ka kn kc, .int .i32 rune, .slice xa xn xc, .int .i64 pl, .int .i64 cap, .string name, .int .i64 mn, .int .i64 mx, .bool lz], ?_, _, nv1, rfl, ?_, L3.out.new10 (Nat.le_refl _) hb hl N1.out _ _ _ _ _ _ _ _ _ _⟩
  · simp [results, Tryz.results102, go_sem, d0, d1, d2, d3, d4, d5, d6, d7, d8, d9]
  · refine tree_down (tree_on (nv' := nv1) T3.out (GrownF.of_grown (F := fun k => k = w.heap.size) (grownBy_set10 _ _ _ _ _ _ _ _ _ _ _ _) (fun k e _ => by cases e; rfl)) (fun k hk => ⟨fun e => by have := hk.1.1; rw [World.size_alloc] at this; omega, hk.2⟩)) (by simp)
set_option maxRecDepth 100000 in
set_option maxHeartbeats 8000000 in
theorem close_paren (b lo : Nat) (s : ByteArray) (st st1 : St) (nv : Value) (w : World) (h : SynIn w b lo s st nv) (hs : s.size ≤ 100000000000000) (t : T)
    (hP : ∀ W, SynIn W b lo s st nv → Calls Tryz.prog 35 #[.pointer (some ⟨b, 0, none⟩)] W (TreeOut W b lo s nv (.ok t st1))) (hst : stands s st1.p [41] = false) :
    Calls Tryz.prog 102 #[.pointer (some ⟨b, 0, none⟩)] w (TreeOut w b lo s nv (.wrong 84 0 s.size)) := by
  have L0 := Lib.hid (h.below ((Below.refl _ w).alloc (Nat.le_refl _) (.cells zero10.toArray 29)))
  have HP := Lib.hid hP
  clear h hP
  go_enter Tryz.func102, Tryz.ntmps102
  go_wp2_with fail
  refine (HP.out _ L0.out.i).mono ?_
  rintro e w1 ⟨cs, nv1, rfl, hT, hL⟩
  obtain ⟨op, ka, kn, kc, rune, xa, xn, xc, pl, cap, name, mn, mx, lz, rfl⟩ := hT.form
  have L1 := Lib.hid (L0.out.trans hL)
  clear hT hL
  have L2 := Lib.hid (L1.out.below ((Below.refl _ w1).alloc (Nat.le_refl _) (.cells #[.int .i64 op, .slice ka kn kc, .int .i32 rune, .slice xa xn xc, .int .i64 pl, .int .i64 cap, .string name, .int .i64 mn, .int .i64 mx, .bool lz] 29)))
  go_wp2_with fail
  refine (syn_has_no b s 41 st1.f st1.p nv1 _ L2.out.i.r L2.out.i.p (by omega) hst).mono ?_
  rintro e w3 ⟨rfl, hR, hG⟩
  have L3 := Lib.hid (L2.out.grown (st' := st1) hR hG rfl L2.out.i.p L2.out.i.d L2.out.i.m)
  clear hR hG
  have g1 := Blk.cell L3.out.i.r (j := 1) rfl
  go_wp2_with fail
  refine (syn_stop _ _ _ _).mono ?_
  rintro e w9 ⟨rfl, rfl⟩
  exact ⟨rfl, rfl, L3.out.g⟩
/-- What stands in a group. -/
theorem syn_close (s : ByteArray) (n : Nat) (hs : s.size ≤ 100000000000000) (hP : PartsC s n) : CloseC s (n + 1) := by
  intro b lo st nv w h hn
  have hq : ∀ W, SynIn W b lo s st nv → Calls Tryz.prog 35 #[.pointer (some ⟨b, 0, none⟩)] W (TreeOut W b lo s nv (partsP s n st)) := fun W hW => hP b lo st nv W hW (by omega)
  have hf := (syn_fit s n).parts st h.p h.d (by omega)
  unfold closeP
  cases hx : partsP s n st with
  | out => rw [hx] at hf; exact hf.elim
  | wrong x a d => rw [hx] at hq; exact close_wrong b lo s st nv w h x a d hq
  | ok t st1 =>
    rw [hx] at hq
    simp only
    cases hst : stands s st1.p [41] with
    | true => exact close_ok b lo s st st1 nv w h hs t hq hst
    | false => exact close_paren b lo s st st1 nv w h hs t hq hst
end Go.Proofs.YtnhnldmldnhaoaaGreatDoor

namespace Go.Proofs.YtnhnldmldnhaoaaGreatDoor
open Go Go.RowKit Go.Proofs Go.Shelf

theorem infoStrS : (Tryz.prog.info? 9).map (fun i => (i.zero, i.size, i.bytes)) = some (some (.string ⟨#[]⟩), 1, 16) := by kernel_rfl
/-- The names with one more, in the reader. -/
theorem names_more {w W W' : World} {b lo : Nat} {s : ByteArray} {st : St} {nm : ByteArray} {nv v' : Value} (hm : st.ns.length < st.p) (h : SynIn W b lo s st nv) (hL : Left w W b lo s nv st nv) (hown : W'.ownsRow lo 9 1 v' (st.ns.length + 1) (st.ns.map Value.string ++ [.string nm]))
    (hgrow : (W.alloc (.cells #[.string nm] 9)).grownBy W' nv.ownBlock) (hat : v'.ownBlock = nv.ownBlock ∨ v'.ownBlock = some (W.heap.size + 1)) :
    Left w (W'.setCell ⟨b, 3, none⟩ v') b lo s nv { st with ns := st.ns ++ [nm] } v' := by
  have hb := h.r.lt
  have ha : Below W.heap.size W (W.alloc (.cells #[.string nm] 9)) := (Below.refl _ W).alloc (Nat.le_refl _) _
  have hnb : v'.ownBlock ≠ some b := fun e => by
    rcases hat with h2 | h2
    · exact h.n (by rw [← h2]; exact e)
    · rw [h2] at e; cases e; omega
  have hr : SyR W' b s st.f st.p nv := (Blk.alloc h.r _).grown hgrow (fun e => h.n e.symm)
  have g1 : GrownF (Mine b nv) W W' := (GrownF.of_below (F := Mine b nv) ha).trans (GrownF.of_grown (F := Mine b nv) hgrow (fun k e _ => .inr e)) (fun k _ h => h)
  have g2 : GrownF (Mine b nv) W (W'.setCell ⟨b, 3, none⟩ v') := g1.trans (G := fun k => k = b) (GrownF.of_grown (grownBy_setCell W' b 3 v') (fun k e _ => by cases e; rfl)) (fun k _ e => .inl e)
  have hz := hgrow.size
  rw [World.size_alloc] at hz
  refine hL.trans ⟨⟨Blk.set hr 3 _, ?_, hnb, h.l, h.e.grown g2 (fun k hk => (h.lt k hk).1), h.p, h.d, by rw [List.length_append, List.length_singleton]; exact hm⟩, g2, fun k hk => ?_⟩
  · rw [List.length_append, List.length_singleton, List.map_append]
    exact ownsRow_kept hown fun g hg => Below.heap_setCell W' ⟨b, 3, none⟩ v' g (fun e => hnb (by rw [hg]; exact congrArg some e))
  · rcases hat with h2 | h2
    · exact .inl (by rw [← h2]; exact hk)
    · rw [h2] at hk; cases hk; exact .inr (by omega)
set_option maxRecDepth 100000 in
set_option maxHeartbeats 8000000 in
theorem group_ok (b lo : Nat) (s : ByteArray) (st st1 : St) (nm : ByteArray) (nv : Value) (w : World) (h : SynIn w b lo s st nv) (hs : s.size ≤ 100000000) (hm : st.ns.length < st.p) (t : T)
    (hP : ∀ W nv', SynIn W b lo s { st with ns := st.ns ++ [nm] } nv' → Calls Tryz.prog 102 #[.pointer (some ⟨b, 0, none⟩)] W (TreeOut W b lo s nv' (.ok t st1))) :
    Calls Tryz.prog 100 #[.pointer (some ⟨b, 0, none⟩), .string nm] w (TreeOut w b lo s nv (.ok (capT t (st.ns.length + 1) nm) { st1 with f := st.f })) := by
  obtain ⟨i0, hi, hz0, hz1, hz2⟩ := info_parts infoStrS
  have hb := h.r.lt
  have hl := h.e.le
  have hno := fun k hk => (h.o.lt k hk).2
  have hns : st.ns.length ≤ 100000000 := by have := h.p; omega
  have hA : Below w.heap.size w (w.alloc (.cells zero10.toArray 29)) := (Below.refl _ w).alloc (Nat.le_refl _) _
  have L0 := Lib.hid (h.below hA)
  have K0 := Lib.hid (Blk.new w zero10 29)
  have HP := Lib.hid hP; have HNO := Lib.hid hno
  have g3 := Blk.cell L0.out.i.r (j := 3) rfl
  have f3 := L0.out.i.r.frozen 3
  have CN := Lib.hid (show ∀ j u, [Value.string nm][j]? = some u → ((w.alloc (.cells zero10.toArray 29)).alloc (.cells #[.string nm] 9)).cell? ((⟨w.heap.size + 1, 0, none⟩ : Addr).add j) = some u by
    have := cells_new (w.alloc (.cells zero10.toArray 29)) [.string nm] 9
    rw [World.size_alloc] at this
    exact this)
  clear h hP hA hno
  go_enter Tryz.func100, Tryz.ntmps100
  go_wp2_with (at_builtin; refine wpList_append_own_at _ rfl _ _ 50 rfl lo 9 i0 (.string ⟨#[]⟩) 1 16 Tryz.underlying50 hi hz0 hz1 hz2 rfl (by decide) nv st.ns.length (st.ns.map Value.string) rfl (L0.out.i.o.alloc (.cells #[.string nm] 9)) ⟨w.heap.size + 1, 0, none⟩ 1 1 [.string nm] rfl rfl CN.out (by intro u hu; simp only [List.mem_cons, List.not_mem_nil, or_false] at hu; subst hu; rfl) (by unfold maxLen; omega) (by omega) (by simp; omega) ?_; intro v' w1 hown hgrow hiff)
  intro hat
  clear hiff
  have hz := hgrow.size
  rw [World.size_alloc, World.size_alloc] at hz
  obtain ⟨g, gc, rfl, hg1, hg2⟩ := World.ownsRow.form hown (Nat.succ_pos _)
  have hgw : g ≠ w.heap.size := fun e => by
    rcases hat with h2 | h2
    · have := HNO.out g h2.symm; omega
    · have : g = w.heap.size + 1 + 1 := Option.some.inj h2
      omega
  have R1 : SyR w1 b s st.f st.p nv := (Blk.alloc L0.out.i.r _).grown hgrow (fun e => L0.out.i.n e.symm)
  have hnw : nv.ownBlock ≠ some w.heap.size := fun e => by have := HNO.out _ e; omega
  have K1 := Lib.hid (show Blk (w1.setCell ⟨b, 3, none⟩ (.slice (some ⟨g, 0, none⟩) (st.ns.length + 1) gc)) w.heap.size zero10 29 from ((K0.out.alloc _).grown hgrow (fun e => hnw e.symm)).setCell_other (a := ⟨b, 3, none⟩) (by show w.heap.size ≠ b; omega) _)
  have LN := Lib.hid (names_more (nm := nm) hm L0.out.i L0.out hown hgrow (by rw [World.size_alloc]; exact hat))
  have LM := Lib.hid (LN.out.below ((Below.refl _ _).alloc (Nat.le_refl _) (.cells #[.int .i64 st.f] 49)))
  have M2 := Lib.hid (show Blk ((w1.setCell ⟨b, 3, none⟩ (.slice (some ⟨g, 0, none⟩) (st.ns.length + 1) gc)).alloc (.cells #[.int .i64 st.f] 49)) w1.heap.size [.int .i64 st.f] 49 by
    have k := Blk.new (w1.setCell ⟨b, 3, none⟩ (.slice (some ⟨g, 0, none⟩) (st.ns.length + 1) gc)) [.int .i64 st.f] 49
    rw [show (w1.setCell ⟨b, 3, none⟩ (.slice (some ⟨g, 0, none⟩) (st.ns.length + 1) gc)).heap.size = w1.heap.size by simp [World.setCell]] at k
    exact k)
  have HG := Lib.hid (And.intro hgw hg2)
  have c3 := Blk.cell R1 (j := 3) rfl
  have x3 := R1.frozen 3
  have c0 := Blk.cell R1 (j := 0) rfl
  clear g3 f3 hown hgrow hat R1 hg1 hg2 hgw hnw
  go_wp2_with fail
  refine (HP.out _ _ LM.out.i).mono ?_
  rintro e w4 ⟨cs, nv1, rfl, hT, hL⟩
  obtain ⟨op, ka, kn, kc, rune, xa, xn, xc, pl, cap, name, mn, mx, lz, rfl⟩ := hT.form
  have hsz : w1.heap.size < w4.heap.size := by have := M2.out.lt; have := hL.g.size; omega
  have hne4 : ∀ k, k ≤ w1.heap.size → k ≠ g → nv1.ownBlock ≠ some k := fun k hk hk2 e => by
    rcases hL.v k e with h2 | h2
    · exact hk2 (Option.some.inj h2).symm
    · have := M2.out.lt; omega
  have K4 := Lib.hid ((K1.out.alloc (.cells #[.int .i64 st.f] 49)).grownF hL.g (by rintro (h2 | h2); omega; exact HG.out.1 (Option.some.inj h2)))
  have M4 := Lib.hid (M2.out.grownF hL.g (by rintro (h2 | h2); omega; have h3 : g = w1.heap.size := Option.some.inj h2; have := HG.out.2; omega))
  have N4 := Lib.hid (hne4 w.heap.size (by omega) (fun e => HG.out.1 e.symm))
  have L4 := Lib.hid (LM.out.trans hL)
  have NN := Lib.hid (fun k hk => (hL.i.o.lt k hk).2)
  have T4 := Lib.hid hT
  have F4 := Lib.hid (show ∀ k, FreshN ((w1.setCell ⟨b, 3, none⟩ (.slice (some ⟨g, 0, none⟩) (st.ns.length + 1) gc)).alloc (.cells #[.int .i64 st.f] 49)) w4 nv1 k → w1.heap.size < k ∧ k < w4.heap.size from fun k hk => ⟨by have h1 := M2.out.lt; have h2 := hk.1.1; omega, hk.1.2⟩)
  clear hT hL hne4 c3 x3 c0
  have hA5 : Below w4.heap.size w4 (w4.alloc (.cells #[.int .i64 op, .slice ka kn kc, .int .i32 rune, .slice xa xn xc, .int .i64 pl, .int .i64 cap, .string name, .int .i64 mn, .int .i64 mx, .bool lz] 29)) := (Below.refl _ w4).alloc (Nat.le_refl _) _
  have L5 := Lib.hid (L4.out.below hA5)
  have L6 := Lib.hid (L5.out.grown (st' := { st1 with f := st.f }) (Blk.set L5.out.i.r 0 _) (grownBy_setCell _ _ _ _) rfl L5.out.i.p L5.out.i.d L5.out.i.m)
  have L7 := Lib.hid (L6.out.below ((Below.refl _ _).alloc (Nat.le_refl _) (.cells #[.int .i64 op, .slice ka kn kc, .int .i32 rune, .slice xa xn xc, .int .i64 pl, .int .i64 cap, .string name, .int .i64 mn, .int .i64 mx, .bool lz] 29)))
  have hb4 : b ≠ w4.heap.size := by omega
  have hb4' : w4.heap.size ≠ b := by omega
  have hm4 : w1.heap.size ≠ b := by omega
  have K7 := Lib.hid (show Blk (((w4.alloc (.cells #[.int .i64 op, .slice ka kn kc, .int .i32 rune, .slice xa xn xc, .int .i64 pl, .int .i64 cap, .string name, .int .i64 mn, .int .i64 mx, .bool lz] 29)).setCell ⟨b, 0, none⟩ (.int .i64 st.f)).alloc (.cells #[.int .i64 op, .slice ka kn kc, .int .i32 rune, .slice xa xn xc, .int .i64 pl, .int .i64 cap, .string name, .int .i64 mn, .int .i64 mx, .bool lz] 29)) w.heap.size zero10 29 from Blk.alloc ((Blk.alloc K4.out _).setCell_other (a := ⟨b, 0, none⟩) (by show w.heap.size ≠ b; omega) _) _)
  have m0 : (w4.alloc (.cells #[.int .i64 op, .slice ka kn kc, .int .i32 rune, .slice xa xn xc, .int .i64 pl, .int .i64 cap, .string name, .int .i64 mn, .int .i64 mx, .bool lz] 29)).cell? ⟨w1.heap.size, 0, none⟩ = some (.int .i64 st.f) := Blk.cell (Blk.alloc M4.out _) (j := 0) rfl
  have b0 := Blk.cell L5.out.i.r (j := 0) rfl
  have y0 := L5.out.i.r.frozen 0
  obtain ⟨k0, k1, k2, k3, k4, k5, k6, k7, k8, k9, q0, q1, q2, q3, q4, q5, q6, q7, q8, q9⟩ := K7.out.ten
  go_wp2_with fail
  change bodyPost _ _ _ _ _ (World.set10 (((w4.alloc (.cells #[.int .i64 op, .slice ka kn kc, .int .i32 rune, .slice xa xn xc, .int .i64 pl, .int .i64 cap, .string name, .int .i64 mn, .int .i64 mx, .bool lz] 29)).setCell ⟨b, 0, none⟩ (.int .i64 st.f)).alloc (.cells #[.int .i64 op, .slice ka kn kc, .int .i32 rune, .slice xa xn xc, .int .i64 pl, .int .i64 cap, .string name, .int .i64 mn, .int .i64 mx, .bool lz] 29)) w.heap.size (.int .i64 6) (.slice (some ⟨w4.heap.size + 1, 0, none⟩) 1 1) (.int .i32 0) (.slice none 0 0) (.int .i64 0) (.int .i64 ((st.ns.length : Int) + 1)) (.string nm) (.int .i64 0) (.int .i64 0) (.bool false))
  have O := K7.out.set10 (.int .i64 6) (.slice (some ⟨w4.heap.size + 1, 0, none⟩) 1 1) (.int .i32 0) (.slice none 0 0) (.int .i64 0) (.int .i64 ((st.ns.length : Int) + 1)) (.string nm) (.int .i64 0) (.int .i64 0) (.bool false)
  obtain ⟨d0, d1, d2, d3, d4, d5, d6, d7, d8, d9, _, _, _, _, _, _, _, _, _, _⟩ := O.ten
  have L8 := L7.out.new10 (Nat.le_refl _) hb hl N4.out (.int .i64 6) (.slice (some ⟨w4.heap.size + 1, 0, none⟩) 1 1) (.int .i32 0) (.slice none 0 0) (.int .i64 0) (.int .i64 ((st.ns.length : Int) + 1)) (.string nm) (.int .i64 0) (.int .i64 0) (.bool false)
  have hz8 : (World.set10 (((w4.alloc (.cells #[.int .i64 op, .slice ka kn kc, .int .i32 rune, .slice xa xn xc, .int .i64 pl, .int .i64 cap, .string name, .int .i64 mn, .int .i64 mx, .bool lz] 29)).setCell ⟨b, 0, none⟩ (.int .i64 st.f)).alloc (.cells #[.int .i64 op, .slice ka kn kc, .int .i32 rune, .slice xa xn xc, .int .i64 pl, .int .i64 cap, .string name, .int .i64 mn, .int .i64 mx, .bool lz] 29)) w.heap.size (.int .i64 6) (.slice (some ⟨w4.heap.size + 1, 0, none⟩) 1 1) (.int .i32 0) (.slice none 0 0) (.int .i64 0) (.int .i64 ((st.ns.length : Int) + 1)) (.string nm) (.int .i64 0) (.int .i64 0) (.bool false)).heap.size = w4.heap.size + 1 + 1 := by simp [World.set10, World.setCell]
  have X : Blk (World.set10 (((w4.alloc (.cells #[.int .i64 op, .slice ka kn kc, .int .i32 rune, .slice xa xn xc, .int .i64 pl, .int .i64 cap, .string name, .int .i64 mn, .int .i64 mx, .bool lz] 29)).setCell ⟨b, 0, none⟩ (.int .i64 st.f)).alloc (.cells #[.int .i64 op, .slice ka kn kc, .int .i32 rune, .slice xa xn xc, .int .i64 pl, .int .i64 cap, .string name, .int .i64 mn, .int .i64 mx, .bool lz] 29)) w.heap.size (.int .i64 6) (.slice (some ⟨w4.heap.size + 1, 0, none⟩) 1 1) (.int .i32 0) (.slice none 0 0) (.int .i64 0) (.int .i64 ((st.ns.length : Int) + 1)) (.string nm) (.int .i64 0) (.int .i64 0) (.bool false)) (w4.heap.size + 1) [.int .i64 op, .slice ka kn kc, .int .i32 rune, .slice xa xn xc, .int .i64 pl, .int .i64 cap, .string name, .int .i64 mn, .int .i64 mx, .bool lz] 29 := by
    refine Blk.set10_other ?_ (by omega) _ _ _ _ _ _ _ _ _ _
    have k := Blk.new ((w4.alloc (.cells #[.int .i64 op, .slice ka kn kc, .int .i32 rune, .slice xa xn xc, .int .i64 pl, .int .i64 cap, .string name, .int .i64 mn, .int .i64 mx, .bool lz] 29)).setCell ⟨b, 0, none⟩ (.int .i64 st.f)) [.int .i64 op, .slice ka kn kc, .int .i32 rune, .slice xa xn xc, .int .i64 pl, .int .i64 cap, .string name, .int .i64 mn, .int .i64 mx, .bool lz] 29
    rw [show ((w4.alloc (.cells #[.int .i64 op, .slice ka kn kc, .int .i32 rune, .slice xa xn xc, .int .i64 pl, .int .i64 cap, .string name, .int .i64 mn, .int .i64 mx, .bool lz] 29)).setCell ⟨b, 0, none⟩ (.int .i64 st.f)).heap.size = w4.heap.size + 1 by simp [World.setCell]] at k
    exact k
  have T8 : TreeF (World.set10 (((w4.alloc (.cells #[.int .i64 op, .slice ka kn kc, .int .i32 rune, .slice xa xn xc, .int .i64 pl, .int .i64 cap, .string name, .int .i64 mn, .int .i64 mx, .bool lz] 29)).setCell ⟨b, 0, none⟩ (.int .i64 st.f)).alloc (.cells #[.int .i64 op, .slice ka kn kc, .int .i32 rune, .slice xa xn xc, .int .i64 pl, .int .i64 cap, .string name, .int .i64 mn, .int .i64 mx, .bool lz] 29)) w.heap.size (.int .i64 6) (.slice (some ⟨w4.heap.size + 1, 0, none⟩) 1 1) (.int .i32 0) (.slice none 0 0) (.int .i64 0) (.int .i64 ((st.ns.length : Int) + 1)) (.string nm) (.int .i64 0) (.int .i64 0) (.bool false)) (FreshN w (World.set10 (((w4.alloc (.cells #[.int .i64 op, .slice ka kn kc, .int .i32 rune, .slice xa xn xc, .int .i64 pl, .int .i64 cap, .string name, .int .i64 mn, .int .i64 mx, .bool lz] 29)).setCell ⟨b, 0, none⟩ (.int .i64 st.f)).alloc (.cells #[.int .i64 op, .slice ka kn kc, .int .i32 rune, .slice xa xn xc, .int .i64 pl, .int .i64 cap, .string name, .int .i64 mn, .int .i64 mx, .bool lz] 29)) w.heap.size (.int .i64 6) (.slice (some ⟨w4.heap.size + 1, 0, none⟩) 1 1) (.int .i32 0) (.slice none 0 0) (.int .i64 0) (.int .i64 ((st.ns.length : Int) + 1)) (.string nm) (.int .i64 0) (.int .i64 0) (.bool false)) nv1) t [.int .i64 op, .slice ka kn kc, .int .i32 rune, .slice xa xn xc, .int .i64 pl, .int .i64 cap, .string name, .int .i64 mn, .int .i64 mx, .bool lz] := by
    refine T4.out.turned (fun k hk => ?_) (fun k hk => ⟨⟨by have := F4.out k hk; omega, by have := F4.out k hk; rw [hz8]; omega⟩, hk.2⟩)
    have hk2 := F4.out k hk
    rw [set10_block _ _ _ _ _ _ _ _ _ _ _ _ k (by omega), Below.heap_alloc _ _ k (by simp [World.setCell]; omega), Below.heap_setCell _ ⟨b, 0, none⟩ _ k (by show k ≠ b; omega), Below.heap_alloc _ _ k (by omega)]
  refine ⟨rfl, .agg #[.int .i64 6, .slice (some ⟨w4.heap.size + 1, 0, none⟩) 1 1, .int .i32 0, .slice none 0 0, .int .i64 0, .int .i64 ((st.ns.length : Int) + 1), .string nm, .int .i64 0, .int .i64 0, .bool false], ?_, _, nv1, rfl, TreeF.mk ⟨rfl, ⟨Nat.le_refl _, by simp⟩, .inr ⟨w4.heap.size + 1, 0, rfl, ⟨⟨by omega, by rw [hz8]; omega⟩, fun e => by have := NN.out _ e; omega⟩, KidsF.cons.2 ⟨⟨_, T8, fun j hj => ?_⟩, KidsF.nil⟩⟩⟩ set_none, L8⟩
  · simp [results, Tryz.results100, go_sem, d0, d1, d2, d3, d4, d5, d6, d7, d8, d9]
  · rw [Nat.zero_add]
    exact (Blk.cell X (j := j) (List.getElem?_eq_getElem hj)).trans (List.getElem?_eq_getElem hj).symm
set_option maxRecDepth 100000 in
set_option maxHeartbeats 8000000 in
theorem group_wrong (b lo : Nat) (s : ByteArray) (st : St) (nm : ByteArray) (nv : Value) (w : World) (h : SynIn w b lo s st nv) (hs : s.size ≤ 100000000) (hm : st.ns.length < st.p) (x a d : Int)
    (hP : ∀ W nv', SynIn W b lo s { st with ns := st.ns ++ [nm] } nv' → Calls Tryz.prog 102 #[.pointer (some ⟨b, 0, none⟩)] W (TreeOut W b lo s nv' (.wrong x a d))) :
    Calls Tryz.prog 100 #[.pointer (some ⟨b, 0, none⟩), .string nm] w (TreeOut w b lo s nv (.wrong x a d)) := by
  obtain ⟨i0, hi, hz0, hz1, hz2⟩ := info_parts infoStrS
  have hb := h.r.lt
  have hl := h.e.le
  have hno := fun k hk => (h.o.lt k hk).2
  have hns : st.ns.length ≤ 100000000 := by have := h.p; omega
  have hA : Below w.heap.size w (w.alloc (.cells zero10.toArray 29)) := (Below.refl _ w).alloc (Nat.le_refl _) _
  have L0 := Lib.hid (h.below hA)
  have K0 := Lib.hid (Blk.new w zero10 29)
  have HP := Lib.hid hP; have HNO := Lib.hid hno
  have g3 := Blk.cell L0.out.i.r (j := 3) rfl
  have f3 := L0.out.i.r.frozen 3
  have CN := Lib.hid (show ∀ j u, [Value.string nm][j]? = some u → ((w.alloc (.cells zero10.toArray 29)).alloc (.cells #[.string nm] 9)).cell? ((⟨w.heap.size + 1, 0, none⟩ : Addr).add j) = some u by
    have := cells_new (w.alloc (.cells zero10.toArray 29)) [.string nm] 9
    rw [World.size_alloc] at this
    exact this)
  clear h hP hA hno
  go_enter Tryz.func100, Tryz.ntmps100
  go_wp2_with (at_builtin; refine wpList_append_own_at _ rfl _ _ 50 rfl lo 9 i0 (.string ⟨#[]⟩) 1 16 Tryz.underlying50 hi hz0 hz1 hz2 rfl (by decide) nv st.ns.length (st.ns.map Value.string) rfl (L0.out.i.o.alloc (.cells #[.string nm] 9)) ⟨w.heap.size + 1, 0, none⟩ 1 1 [.string nm] rfl rfl CN.out (by intro u hu; simp only [List.mem_cons, List.not_mem_nil, or_false] at hu; subst hu; rfl) (by unfold maxLen; omega) (by omega) (by simp; omega) ?_; intro v' w1 hown hgrow hiff)
  intro hat
  clear hiff
  have hz := hgrow.size
  rw [World.size_alloc, World.size_alloc] at hz
  obtain ⟨g, gc, rfl, hg1, hg2⟩ := World.ownsRow.form hown (Nat.succ_pos _)
  have hgw : g ≠ w.heap.size := fun e => by
    rcases hat with h2 | h2
    · have := HNO.out g h2.symm; omega
    · have : g = w.heap.size + 1 + 1 := Option.some.inj h2
      omega
  have R1 : SyR w1 b s st.f st.p nv := (Blk.alloc L0.out.i.r _).grown hgrow (fun e => L0.out.i.n e.symm)
  have hnw : nv.ownBlock ≠ some w.heap.size := fun e => by have := HNO.out _ e; omega
  have K1 := Lib.hid (show Blk (w1.setCell ⟨b, 3, none⟩ (.slice (some ⟨g, 0, none⟩) (st.ns.length + 1) gc)) w.heap.size zero10 29 from ((K0.out.alloc _).grown hgrow (fun e => hnw e.symm)).setCell_other (a := ⟨b, 3, none⟩) (by show w.heap.size ≠ b; omega) _)
  have LN := Lib.hid (names_more (nm := nm) hm L0.out.i L0.out hown hgrow (by rw [World.size_alloc]; exact hat))
  have LM := Lib.hid (LN.out.below ((Below.refl _ _).alloc (Nat.le_refl _) (.cells #[.int .i64 st.f] 49)))
  have M2 := Lib.hid (show Blk ((w1.setCell ⟨b, 3, none⟩ (.slice (some ⟨g, 0, none⟩) (st.ns.length + 1) gc)).alloc (.cells #[.int .i64 st.f] 49)) w1.heap.size [.int .i64 st.f] 49 by
    have k := Blk.new (w1.setCell ⟨b, 3, none⟩ (.slice (some ⟨g, 0, none⟩) (st.ns.length + 1) gc)) [.int .i64 st.f] 49
    rw [show (w1.setCell ⟨b, 3, none⟩ (.slice (some ⟨g, 0, none⟩) (st.ns.length + 1) gc)).heap.size = w1.heap.size by simp [World.setCell]] at k
    exact k)
  have HG := Lib.hid (And.intro hgw hg2)
  have c3 := Blk.cell R1 (j := 3) rfl
  have x3 := R1.frozen 3
  have c0 := Blk.cell R1 (j := 0) rfl
  clear g3 f3 hown hgrow hat R1 hg1 hg2 hgw hnw
  go_wp2_with fail
  refine (HP.out _ _ LM.out.i).mono ?_
  rintro e w4 ⟨rfl, hg⟩
  exact ⟨rfl, rfl, LM.out.g.trans hg LM.out.mine⟩
/-- A group that has a number. -/
theorem syn_group (s : ByteArray) (n : Nat) (hs : s.size ≤ 100000000) (hP : CloseC s n) : GroupC s (n + 1) := by
  intro b lo st nm nv w h hm hn
  have hq : ∀ W nv', SynIn W b lo s { st with ns := st.ns ++ [nm] } nv' → Calls Tryz.prog 102 #[.pointer (some ⟨b, 0, none⟩)] W (TreeOut W b lo s nv' (closeP s n { st with ns := st.ns ++ [nm] })) := fun W nv' hW => hP b lo _ nv' W hW (by show 8 * (s.size - st.p) + 5 ≤ n; omega)
  have hf := (syn_fit s n).close { st with ns := st.ns ++ [nm] } h.p h.d (by show 8 * (s.size - st.p) + 5 ≤ n; omega)
  unfold groupP
  cases hx : closeP s n { st with ns := st.ns ++ [nm] } with
  | out => rw [hx] at hf; exact hf.elim
  | wrong x a d => rw [hx] at hq; exact group_wrong b lo s st nm nv w h hs hm x a d hq
  | ok t st1 => rw [hx] at hq; exact group_ok b lo s st st1 nm nv w h hs hm t hq
end Go.Proofs.YtnhnldmldnhaoaaGreatDoor
