/- The names of a tree's groups: trees.Caps. -/
import Derived.Test.YtjmgboegipeijaaGreatDoorRight
import Derived.Maps.AppendAt
import Derived.RangeFuncBox
namespace Go.Proofs.YtjmgboegipeijaaGreatDoor
open Go Go.RowKit Go.Proofs Go.Shelf
attribute [local go_sem] Oper.semAt_some

def capsN (l : List T) : List ByteArray := ⟨#[]⟩ :: (l.filter fun p => decide (p.op = 6)).map T.name
theorem capsN_length_le (l : List T) : (capsN l).length ≤ l.length + 1 := by
  have := List.length_filter_le (fun p : T => decide (p.op = 6)) l
  simp only [capsN, List.length_cons, List.length_map]; omega
theorem capsN_snoc (l : List T) (p : T) : capsN (l ++ [p]) = capsN l ++ (if p.op = 6 then [p.name] else []) := by
  by_cases h : p.op = 6 <;> simp [capsN, List.filter_append, h]

theorem infoStr : (Tryz.prog.info? 9).map (fun i => (i.zero, i.size, i.bytes)) = some (some (.string ⟨#[]⟩), 1, 16) := by kernel_rfl

/-- What Caps' loop keeps. -/
def CI (w : World) (b L : Nat) (names : List ByteArray) (k : Nat) (W : World) : Prop :=
  ∃ v, Boxed W b 87 v ∧ W.ownsRow w.heap.size 9 1 v names.length (names.map Value.string) ∧ names.length ≤ k + 1 ∧ names ≠ [] ∧ Below w.heap.size w W ∧ L ≤ W.heap.size

theorem lit_row (w : World) (base : Nat) (hb : base ≤ w.heap.size) (s : ByteArray) : (w.alloc (.cells #[.string s] 9)).ownsRow base 9 1 (.slice (some ⟨w.heap.size, 0, none⟩) 1 1) 1 [Value.string s] :=
  ⟨rfl, .inr ⟨w.heap.size, 1, #[.string s], rfl, hb, World.alloc_heap_new w _, Nat.le_refl _, by decide, rfl, rfl⟩⟩

theorem caps_no {P : List (Int × Int) → Prop} (hS : SetsRight P) (t : T) (cs : List Value) (B : Nat) (w : World) (h : TreeV w B t cs) (hB : B ≤ w.heap.size) (hP : ∀ p ∈ parts t, p.op = 4 → P p.set) (hN : (parts t).length ≤ 1000000) (hR : rightB t = false) :
    Calls Tryz.prog 43 #[.agg cs.toArray] w fun e w' => e = .returned (.slice none 0 0) ∧ Below w.heap.size w w' := by
  have hc := fun W (hW : Below w.heap.size w W) => right_any hS t cs B W (h.below (hW.mono hB)) (Nat.le_trans hB hW.size) hP hN
  rw [hR] at hc
  obtain ⟨op1, ka1, kn1, kc1, rune1, sa1, sn1, sc1, pl1, cap1, name1, mn1, mx1, lz1, rfl⟩ := h.form
  have HC := Lib.hid hc
  clear hS h hP hR hc
  refine (callsIn_wide (n := 20)).1 ?_
  refine callsIn_of_wp_marks Tryz.func43 rfl trivial ?_ rfl
  simp only [Tryz.ntmps43, List.size_toArray, List.length_cons, List.length_nil, Nat.reduceAdd, Nat.reduceSub, Array.replicate_succ, Array.replicate_zero, List.push_toArray, List.append_toArray, List.nil_append, List.cons_append]
  refine wpIn_wide.2 ?_
  go_wp2_with fail
  refine (HC.out _ ((Below.refl _ w).alloc (Nat.le_refl _) _)).mono ?_
  rintro e w1 ⟨rfl, hb1⟩
  go_wp2_with fail
  exact ⟨_, results_tmp rfl _ _ _, rfl, ((Below.refl _ w).alloc (Nat.le_refl _) _).trans (hb1.mono (by simp))⟩

set_option maxRecDepth 100000 in
set_option maxHeartbeats 2000000 in
theorem caps_yes {P : List (Int × Int) → Prop} (hS : SetsRight P) (t : T) (cs : List Value) (B : Nat) (w : World) (h : TreeV w B t cs) (hB : B ≤ w.heap.size) (hP : ∀ p ∈ parts t, p.op = 4 → P p.set) (hN : (parts t).length ≤ 1000000) (hR : rightB t = true) :
    Calls Tryz.prog 43 #[.agg cs.toArray] w fun e w' => ∃ v, e = .returned v ∧ w'.ownsRow w.heap.size 9 1 v (capsN (parts t)).length ((capsN (parts t)).map Value.string) ∧ Below w.heap.size w w' := by
  have hc := fun W (hW : Below w.heap.size w W) => right_any hS t cs B W (h.below (hW.mono hB)) (Nat.le_trans hB hW.size) hP hN
  rw [hR] at hc
  obtain ⟨op1, ka1, kn1, kc1, rune1, sa1, sn1, sc1, pl1, cap1, name1, mn1, mx1, lz1, rfl⟩ := h.form
  have HC := Lib.hid hc; have HH := Lib.hid h; have HNN := Lib.hid hN
  clear hS h hP hR hc
  obtain ⟨i0, hi, hz0, hz1, hz2⟩ := info_parts infoStr
  refine (callsIn_wide (n := 20)).1 ?_
  refine callsIn_of_wp_marks Tryz.func43 rfl trivial ?_ rfl
  simp only [Tryz.ntmps43, List.size_toArray, List.length_cons, List.length_nil, Nat.reduceAdd, Nat.reduceSub, Array.replicate_succ, Array.replicate_zero, List.push_toArray, List.append_toArray, List.nil_append, List.cons_append]
  refine wpIn_wide.2 ?_
  go_wp2_with fail
  have ht := Lib.hid (Blk.new w [.int .i64 op1, .slice ka1 kn1 kc1, .int .i32 rune1, .slice sa1 sn1 sc1, .int .i64 pl1, .int .i64 cap1, .string name1, .int .i64 mn1, .int .i64 mx1, .bool lz1] 92)
  refine (HC.out _ ((Below.refl _ w).alloc (Nat.le_refl _) _)).mono ?_
  rintro e w1 ⟨rfl, hb1⟩
  have B1 := Lib.hid (show Below w.heap.size w w1 from ((Below.refl _ w).alloc (Nat.le_refl _) _).trans (hb1.mono (by simp)))
  have hsz : w.heap.size < w1.heap.size := by have := hb1.size; simp only [World.size_alloc] at this; omega
  have ht1 := ht.out.below hb1 (by simp)
  clear ht hb1
  have t0 := Blk.cell ht1 (j := 0) rfl; have t1 := Blk.cell ht1 (j := 1) rfl; have t2 := Blk.cell ht1 (j := 2) rfl; have t3 := Blk.cell ht1 (j := 3) rfl; have t4 := Blk.cell ht1 (j := 4) rfl
  have t5 := Blk.cell ht1 (j := 5) rfl; have t6 := Blk.cell ht1 (j := 6) rfl; have t7 := Blk.cell ht1 (j := 7) rfl; have t8 := Blk.cell ht1 (j := 8) rfl; have t9 := Blk.cell ht1 (j := 9) rfl
  have HT := Lib.hid ht1; clear ht1
  go_wp2_with fail
  have bO := Lib.hid (Boxed.new (w1.alloc (.cells #[.string ⟨#[]⟩] 9)) 87 (.slice (some ⟨w1.heap.size, 0, none⟩) 1 1))
  have bW := Lib.hid ((lit_row w1 w.heap.size (Nat.le_of_lt hsz) ⟨#[]⟩).alloc (.cells #[.slice (some ⟨w1.heap.size, 0, none⟩) 1 1] 87))
  have B2 := Lib.hid ((B1.out.alloc (Nat.le_of_lt hsz) (.cells #[.string ⟨#[]⟩] 9)).alloc (by simp; omega) (.cells #[.slice (some ⟨w1.heap.size, 0, none⟩) 1 1] 87))
  have hsz2 : ((w1.alloc (.cells #[.string ⟨#[]⟩] 9)).alloc (.cells #[.slice (some ⟨w1.heap.size, 0, none⟩) 1 1] 87)).heap.size = w1.heap.size + 1 + 1 := by simp
  obtain ⟨w2, hw2⟩ : ∃ w2, (w1.alloc (.cells #[.string ⟨#[]⟩] 9)).alloc (.cells #[.slice (some ⟨w1.heap.size, 0, none⟩) 1 1] 87) = w2 := ⟨_, rfl⟩
  have bO2 := bO.out
  rw [World.size_alloc] at bO2
  rw [hw2] at bW B2 bO2 hsz2 ⊢
  have HO := Lib.hid bO2
  clear hw2 t0 t1 t2 t3 t4 t5 t6 t7 t8 t9 HT bO bO2
  refine ((callsIn_wide (n := 18)).1 (all_in Fence.wide 18 trivial rfl t B w _ HH.out w2)).mono ?_
  rintro e w3 ⟨rfl, rfl⟩
  have HZ := Lib.hid hsz2; clear hsz2
  go_wp2_with fail
  have hz := HZ.out
  have hB2s := B2.out.size
  refine (wpIn_wide (n := 20)).1 ?_
  refine wpIn_rangeFunc_ownH rfl (by omega) (gf := 92) (lb := #[.pointer (some ⟨w2.heap.size, 0, none⟩)]) rfl trivial (enters_of Tryz.func92 (by kernel_rfl) rfl)
    (all_stops Fence.wide rfl 19 trivial trivial rfl w2.heap.size w.heap.size (w2.heap.size + 1) B w (fun _ => True) hB (by omega) t _ HH.out (fun _ _ => trivial) 1000000 HNN.out _ (Blk.new w2 _ _) (B2.out.alloc hB2s _) (by simp))
    (fun h k => KpT.trans h k) (fun W l o o' hl h hc hw => KpT.book (w := w2.alloc (.cells #[.int .i64 op1, .slice ka1 kn1 kc1, .int .i32 rune1, .slice sa1 sn1 sc1, .int .i64 pl1, .int .i64 cap1, .string name1, .int .i64 mn1, .int .i64 mx1, .bool lz1] 92)) (by simp; omega) W l o o' hl h hc hw) (Below.refl _ _) (fun _ => rfl)
    (fun pre W => CI w (w1.heap.size + 1) (w2.heap.size + 1) (capsN (pre.map (·.1.1))) pre.length W)
    (fun _ _ _ => False)
    (fun s X Y row hs hg hr => by
      obtain ⟨v, c1, c2, c3, c4, c5, c6⟩ := hs
      have hnb : ∀ j, j < w2.heap.size → some j ≠ row := fun j hj e => by have := (hr j e.symm).1; simp at this; omega
      refine ⟨v, c1.kept hg (hnb _ (by omega)), c2.kept hg ?_, c3, c4, c5.grown hg c5.size (fun j e => by have := (hr j e).1; simp at this; omega), Nat.le_trans c6 hg.size⟩
      rcases hv : v.ownBlock with _ | g
      · exact .inl rfl
      · refine .inr (fun e => ?_)
        obtain ⟨_, o, ho, hc⟩ := hr g e.symm
        rcases c2.2 with ⟨rfl, _⟩ | ⟨g', cap, cur, rfl, _, hh, _⟩
        · cases hv
        · have : g' = g := by simpa [Value.ownBlock] using hv
          subst this
          rw [hh] at ho; cases ho; cases hc)
    (fun _ _ _ _ _ hs _ _ => hs)
    ?h0
    (fun x a' W => ∃ Bx, w2.heap.size + 1 ≤ Bx ∧ Blk W Bx x.1.2 92 ∧ a' = { tmps := #[.agg #[.int .i64 op1, .slice ka1 kn1 kc1, .int .i32 rune1, .slice sa1 sn1 sc1, .int .i64 pl1, .int .i64 cap1, .string name1, .int .i64 mn1, .int .i64 mx1, .bool lz1],
      .pointer (some ⟨w.heap.size, 0, none⟩), .slice none 0 0, .pointer (some ⟨w1.heap.size + 1, 0, none⟩), .pointer (some ⟨Bx, 0, none⟩),
      .agg #[.int .i64 op1, .slice ka1 kn1 kc1, .int .i32 rune1, .slice sa1 sn1 sc1, .int .i64 pl1, .int .i64 cap1, .string name1, .int .i64 mn1, .int .i64 mx1, .bool lz1], .bool true, .bool false, .slice (some ⟨w1.heap.size, 0, none⟩) 1 1,
      .agg #[.int .i64 op1, .slice ka1 kn1 kc1, .int .i32 rune1, .slice sa1 sn1 sc1, .int .i64 pl1, .int .i64 cap1, .string name1, .int .i64 mn1, .int .i64 mx1, .bool lz1], .func (.func 92) #[] #[.pointer (some ⟨w1.heap.size + 1 + 1, 0, none⟩)],
      .agg x.1.2.toArray, undef, undef, undef, undef, undef, undef, undef, undef, undef], defers := [] })
    ?hAx ?assign ?body ?done ?stop
  case h0 => exact ⟨_, HO.out.alloc _, bW.out.alloc _, by simp [capsN], by simp [capsN], B2.out.alloc hB2s _, by simp⟩
  case hAx =>
    intro x a' _ X Y row hs hg hr
    obtain ⟨Bx, h1, h2, h3⟩ := hs
    refine ⟨Bx, h1, h2.grown hg (fun e => ?_), h3⟩
    obtain ⟨_, o, ho, hc⟩ := hr Bx e.symm
    have h2' := h2
    unfold Blk at h2'
    rw [h2'] at ho
    cases ho
    cases hc
  case assign =>
    rintro l pre x W K ⟨v, c1, c2, c3, c4, c5, c6⟩ hK
    have hp := x.2.1
    obtain ⟨op2, ka2, kn2, kc2, rune2, sa2, sn2, sc2, pl2, cap2, name2, mn2, mx2, lz2, he⟩ := hp.form
    have hn := Blk.new W x.1.2 92
    rw [he] at hn ⊢
    have HK := Lib.hid hK; have C3 := Lib.hid c3; have C4 := Lib.hid c4
    clear hK c3 c4
    gi_wp2
    exact HK.out _ _ ((KeepsOthers.alloc _ _).from _) (KpT.alloc (by omega) _) ⟨v, c1.alloc _, c2.alloc _, C3.out, C4.out, c5.alloc c5.size _, by simp; omega⟩ ⟨W.heap.size, c6, by rw [he]; exact hn, by rw [he]⟩
  case body =>
    rintro l pre x a' W hl ⟨r, hr⟩ ⟨v, c1, c2, c3, c4, c5, c6⟩ ⟨Bx, hBx, hX, rfl⟩ hlt
    have hp := x.2.1
    obtain ⟨op2, ka2, kn2, kc2, rune2, sa2, sn2, sc2, pl2, cap2, name2, mn2, mx2, lz2, he⟩ := hp.form
    have HF := Lib.hid (TreeV.fields (by rw [← he]; exact hp : TreeV w B x.1.1 _))
    rw [he] at hX ⊢
    have HSN := Lib.hid (show capsN ((pre ++ [x]).map (·.1.1)) = capsN (pre.map (·.1.1)) ++ (if op2 = 6 then [name2] else []) by rw [List.map_append, List.map_cons, List.map_nil, capsN_snoc, HF.out.1, HF.out.2.2])
    obtain ⟨ns, hns⟩ : ∃ ns, ns = capsN (pre.map (·.1.1)) := ⟨_, rfl⟩
    rw [← hns] at c2 c3 c4 HSN
    have t0 := Blk.cell hX (j := 0) rfl; have t6 := Blk.cell hX (j := 6) rfl
    have u1 := c1.cell; have u2 := c1.frozen
    have HX := Lib.hid hX; have HR := Lib.hid hr; have HPP := Lib.hid hp; have HE := Lib.hid he; have C4 := Lib.hid c4; have C1 := Lib.hid c1; have C2 := Lib.hid c2; have C5 := Lib.hid c5; have HNS := Lib.hid hns
    clear hX hr he c4 c1 c2 c5 hns
    by_cases o6 : op2 = 6
    · subst o6
      gi_wp2_with (gi_at_builtin; refine wpListIn_append_own _ rfl _ _ 87 rfl w.heap.size 9 i0 (.string ⟨#[]⟩) 1 16 Tryz.underlying87 hi hz0 hz1 hz2 rfl (by decide) _ _ _ rfl (C2.out.alloc _) ⟨W.heap.size, 0, none⟩ 1 1 [.string name2] rfl rfl (cell_one_new _ _ _) (by simp [Value.oneCell']) (by unfold maxLen; omega) (by omega) (by have := C5.out.size; simp; omega) ?_; intro v' w4 hown' hgrow _; obtain ⟨g', cap', rfl⟩ := ownsRow_succ hown'; obtain ⟨hv1, hv2, hr2, hk2, hb2⟩ := C1.out.appended (by decide) C2.out C5.out.size (by omega) hown' hgrow; have hc1 := hv1.cell; have hf1 := hv1.frozen)
      have HN := Lib.hid (show capsN ((pre ++ [x]).map (·.1.1)) = ns ++ [name2] by rw [HSN.out]; simp)
      have hz := HZ.out
      have hkp : KpT w.heap.size (w2.heap.size + 1) W (w4.setCell ⟨w1.heap.size + 1, 0, none⟩ (.slice (some ⟨g', 0, none⟩) (ns.length + 1) cap')) := by
        refine ⟨hb2, fun b hb cs z ho => ?_⟩
        have hlt' := (Array.getElem?_eq_some_iff.1 ho).1
        rw [Below.heap_setCell _ _ _ b (show b ≠ w1.heap.size + 1 by omega), hgrow.block b (by simp; omega) ?_, Below.heap_alloc _ _ _ hlt']
        intro e0
        have e : some b = v.ownBlock := e0
        rcases C2.out.2 with ⟨rfl, _⟩ | ⟨g, cap, cur, rfl, _, hh, _⟩
        · cases e
        · have : b = g := by simpa [Value.ownBlock] using e
          subst this
          rw [hh] at ho; cases ho
      exact ⟨hk2.from _, by rw [← hz]; exact hkp, _, hv2, by rw [HN.out]; simpa using hr2, by rw [HN.out]; simp; omega, by rw [HN.out]; simp, C5.out.trans hb2, by rw [← hz]; exact Nat.le_trans c6 hkp.1.size⟩
    · have o6' : (op2 == 6) = false := by simpa using o6
      have HN := Lib.hid (show capsN ((pre ++ [x]).map (·.1.1)) = ns by rw [HSN.out, if_neg o6, List.append_nil])
      clear o6
      gi_wp2_with fail
      exact ⟨KeepsFrom.refl _ _, KpT.refl _ _ _, v, C1.out, by rw [HN.out]; exact C2.out, by rw [HN.out]; simp; omega, by rw [HN.out]; exact C4.out, C5.out, by have := HZ.out; omega⟩
  case done =>
    rintro D ys W hD hS ⟨v, c1, c2, c3, c4, c5, c6⟩ hK
    rw [hS] at c2
    have u1 := c1.cell
    have HK := Lib.hid hK; have HB := Lib.hid c5; have C2 := Lib.hid c2
    clear hK c1 c2 c3 c4 c5 hS
    simp only [World.size_alloc] at hD
    go_wp2_with fail
    refine ⟨by simp, .inl ⟨_, _, rfl, run_takeDeferred HK.out, ?_⟩⟩
    exact ⟨_, results_tmp rfl _ _ _, v, rfl, ownsRow_putObj C2.out _ HK.out rfl, HB.out.trans (belowK_b (w := w) (Nat.le_refl _) W D _ _ (by omega) HK.out rfl rfl)⟩
  case stop =>
    rintro D c pre W _ _ h _
    exact h.elim
end Go.Proofs.YtjmgboegipeijaaGreatDoor
