/- The set of the stretches in which a number of ranges is right: sets.those. -/
import Derived.Test.YtnhnldmldnhaoaaGreatDoorDSpans
namespace Go.Proofs.YtnhnldmldnhaoaaGreatDoor
open Go Go.RowKit Go.Proofs Go.Shelf
attribute [local go_sem] Oper.semAt_some

set_option maxRecDepth 100000 in
set_option maxHeartbeats 2000000 in
theorem those_any (isf : Int → Bool) (gi : Nat) (hen : ∀ args w, (callFunc gi args).run Tryz.prog w = .ok (.enter gi args) w)
    (hIs : ∀ (n : Int) W, Calls Tryz.prog gi #[.int .i64 n] W fun e w' => e = .returned (.bool (isf n)) ∧ Below W.heap.size W w')
    (es : List (Int × Int)) (sa : Option Addr) (sc B : Nat) (w : World) (hv : EdgesV w B es sa) (hB : B ≤ w.heap.size) (hes : ∀ e ∈ es, 0 ≤ e.1 ∧ e.1 ≤ 1114112 ∧ (e.2 = 1 ∨ e.2 = -1)) (hlen : es.length ≤ 4000000000000) :
    Calls Tryz.prog 86 #[.slice sa es.length sc, .func (.func gi) #[] #[]] w fun e w' => ∃ v, e = .returned v ∧
      w'.ownsRow w.heap.size 61 2 v (thoseL isf (spansL 0 0 es)).length (flatR (thoseL isf (spansL 0 0 es))) ∧ Below w.heap.size w w' := by
  obtain ⟨i0, hi, hz0, hz1, hz2⟩ := info_parts infoRange
  have HIS := Lib.hid hIs; have HV := Lib.hid hv; have HES := Lib.hid hes
  clear hIs hv hes
  refine (callsIn_wide (n := 20)).1 ?_
  refine callsIn_of_wp_marks Tryz.func86 rfl trivial ?_ rfl
  simp only [Tryz.ntmps86, List.size_toArray, List.length_cons, List.length_nil, Nat.reduceAdd, Nat.reduceSub, Array.replicate_succ, Array.replicate_zero, List.push_toArray, List.append_toArray, List.nil_append, List.cons_append]
  refine wpIn_wide.2 ?_
  go_wp2_with fail
  have bF := Lib.hid ((Boxed.new w 112 (.func (.func gi) #[] #[])).alloc (.cells #[.slice none 0 0] 26))
  have bO0 := Boxed.new (w.alloc (.cells #[.func (.func gi) #[] #[]] 112)) 26 (.slice none 0 0)
  rw [World.size_alloc] at bO0
  have bO := Lib.hid bO0
  have B2 := Lib.hid (((Below.refl w.heap.size w).alloc (Nat.le_refl _) (.cells #[.func (.func gi) #[] #[]] 112)).alloc (by simp) (.cells #[.slice none 0 0] 26))
  have hsz2 : ((w.alloc (.cells #[.func (.func gi) #[] #[]] 112)).alloc (.cells #[.slice none 0 0] 26)).heap.size = w.heap.size + 1 + 1 := by simp
  obtain ⟨w2, hw2⟩ : ∃ w2, (w.alloc (.cells #[.func (.func gi) #[] #[]] 112)).alloc (.cells #[.slice none 0 0] 26) = w2 := ⟨_, rfl⟩
  rw [hw2] at bF bO B2 hsz2 ⊢
  clear hw2 bO0
  refine ((callsIn_wide (n := 18)).1 (spans_in Fence.wide 18 trivial rfl sa es.length sc w2)).mono ?_
  rintro e w3 ⟨rfl, rfl⟩
  have hbx := World.alloc_heap_new w2 (.cells #[.slice sa es.length sc] 133)
  have bF3 := Lib.hid (bF.out.alloc (.cells #[.slice sa es.length sc] 133)); have bO3 := Lib.hid (bO.out.alloc (.cells #[.slice sa es.length sc] 133))
  have B3 := Lib.hid (B2.out.alloc B2.out.size (.cells #[.slice sa es.length sc] 133))
  have hsz3 : (w2.alloc (.cells #[.slice sa es.length sc] 133)).heap.size = w.heap.size + 1 + 1 + 1 := by simp [hsz2]
  rw [hsz2] at hbx ⊢
  obtain ⟨w3, hw3⟩ : ∃ w3, w2.alloc (.cells #[.slice sa es.length sc] 133) = w3 := ⟨_, rfl⟩
  rw [hw3] at hbx bF3 bO3 B3 hsz3 ⊢
  clear hw3 bF bO B2 hsz2
  have HBX := Lib.hid hbx; clear hbx
  have HZ := Lib.hid hsz3; clear hsz3
  go_wp2_with fail
  have hz := HZ.out
  refine (wpIn_wide (n := 20)).1 ?_
  refine wpIn_rangeFunc_ownH rfl (by omega) (gf := 143) (lb := #[.pointer (some ⟨w.heap.size + 1 + 1, 0, none⟩)]) rfl trivial (enters_of Tryz.func143 (by kernel_rfl) rfl)
    (spans_stops Fence.wide rfl 19 trivial rfl (w.heap.size + 1 + 1) w.heap.size (w.heap.size + 1 + 1 + 1) B w hB (by omega) es sa sc HV.out HES.out hlen 4000000000001 (Nat.le_trans (spansL_length _ _ _) (by omega)) w3 HBX.out B3.out (by omega))
    (fun h k => KpS.trans h k) (fun W l o o' hl h hc hw => KpS.book (w := w3) (by omega) W l o o' hl h hc hw) (Below.refl _ _) (fun _ => rfl)
    (fun pre W => ∃ v, TI w w.heap.size (.func (.func gi) #[] #[]) (thoseL isf (pre.map (·.1))) pre.length (w.heap.size + 1 + 1 + 1) v W)
    (fun _ _ _ => False)
    (fun s X Y row hs hg hr => by
      obtain ⟨v, c1, c2, c3, c4, c5, c6, c7⟩ := hs
      have hnb : ∀ j, j < w3.heap.size → some j ≠ row := fun j hj e => by have := (hr j e.symm).1; omega
      refine ⟨v, c1.kept hg (hnb _ (by omega)), c2.kept hg (hnb _ (by omega)), c3.kept hg ?_, c4, c5, c6.grown hg c6.size (fun j e => by have := (hr j e).1; omega), Nat.le_trans c7 hg.size⟩
      rcases hv : v.ownBlock with _ | g
      · exact .inl rfl
      · refine .inr (fun e => ?_)
        obtain ⟨_, o, ho, hc⟩ := hr g e.symm
        rcases c3.2 with ⟨rfl, _⟩ | ⟨g', cap, cur, rfl, _, hh, _⟩
        · cases hv
        · have : g' = g := by simpa [Value.ownBlock] using hv
          subst this
          rw [hh] at ho; cases ho; cases hc)
    (fun _ _ _ _ _ hs _ _ => hs)
    ?h0
    (fun x a' W => ∃ Bx, w3.heap.size ≤ Bx ∧ Blk W Bx [.int .i32 x.1.1.1, .int .i32 x.1.1.2] 61 ∧ a' = { tmps := #[.slice sa es.length sc, .func (.func gi) #[] #[], undef, .pointer (some ⟨w.heap.size, 0, none⟩), .slice none 0 0, .pointer (some ⟨w.heap.size + 1, 0, none⟩), .pointer (some ⟨Bx, 0, none⟩), .int .i64 x.1.2, undef, .slice sa es.length sc, .func (.func 143) #[] #[.pointer (some ⟨w.heap.size + 1 + 1, 0, none⟩)], .agg #[.int .i32 x.1.1.1, .int .i32 x.1.1.2], .int .i64 x.1.2, undef, undef, undef, undef, undef, undef, undef, undef, undef, undef, undef, undef, undef, undef, undef, undef, undef, undef, undef, undef, undef, undef, undef, undef, undef, undef, undef, undef, undef, undef, undef, undef, undef, undef], defers := [] })
    ?hAx ?assign ?body ?done ?stop
  case h0 => exact ⟨_, bO3.out, bF3.out, World.ownsRow_nil _ _ _ _, Nat.le_refl _, (fun r hr => by simp [thoseL] at hr), B3.out, by omega⟩
  case hAx =>
    intro x a' _ X Y row hs hg hr
    obtain ⟨Bx, h1, h2, h3⟩ := hs
    refine ⟨Bx, h1, h2.grown hg (fun e => ?_), h3⟩
    obtain ⟨_, o, ho, hc⟩ := hr Bx e.symm
    have h2' := h2
    unfold Blk at h2'
    rw [h2'] at ho
    cases ho
    cases hc
  case assign =>
    rintro l pre x W K ⟨v, c1, c2, c3, c4, c5, c6, c7⟩ hK
    have hn := Blk.new W [.int .i32 x.1.1.1, .int .i32 x.1.1.2] 61
    have HK := Lib.hid hK; have C3 := Lib.hid c3; have C4 := Lib.hid c4; have C5 := Lib.hid c5
    clear hK c3 c4 c5
    gi_wp2
    exact HK.out _ _ ((KeepsOthers.alloc _ _).from _) (KpS.alloc (by omega) _) ⟨v, c1.alloc _, c2.alloc _, C3.out.alloc _, C4.out, C5.out, c6.alloc c6.size _, by simp; omega⟩ ⟨W.heap.size, by omega, hn, rfl⟩
  case body =>
    rintro l pre x a' W hl ⟨r, hr⟩ ⟨v, c1, c2, c3, c4, c5, c6, c7⟩ ⟨Bx, hBx, hX, rfl⟩ hlt
    obtain ⟨⟨⟨lo, hx⟩, m⟩, p0, p1, p2⟩ := x
    dsimp only at p0 p1 p2 hX ⊢
    have HSN := Lib.hid (show thoseL isf ((pre ++ [⟨((lo, hx), m), p0, p1, p2⟩] : List Span).map (·.1)) = stepT isf (thoseL isf (pre.map (·.1))) ((lo, hx), m) by unfold thoseL; rw [List.map_append, List.foldl_append]; rfl)
    obtain ⟨out, hout⟩ : ∃ out, out = thoseL isf (pre.map (·.1)) := ⟨_, rfl⟩
    rw [← hout] at c3 c4 c5 HSN
    clear hout
    obtain ⟨va, vc, rfl⟩ : ∃ va vc, v = .slice va out.length vc := by
      rcases c3.2 with ⟨rfl, h0⟩ | ⟨g, cap, cur, rfl, _⟩
      · exact ⟨none, 0, by rw [h0]⟩
      · exact ⟨_, _, rfl⟩
    have u1 := c1.cell; have u2 := c2.cell
    have t0 := Blk.cell hX (j := 0) rfl; have t1 := Blk.cell hX (j := 1) rfl
    have C1 := Lib.hid c1; have C2 := Lib.hid c2; have C3 := Lib.hid c3; have C4 := Lib.hid c4; have C5 := Lib.hid c5; have C6 := Lib.hid c6; have C7 := Lib.hid c7
    have HX := Lib.hid hX; have HR := Lib.hid hr
    clear c1 c2 c3 c4 c5 c6 c7 hX hr
    gi_wp2_with fail
    refine ⟨trivial, ?_⟩
    refine (CallsIn.inRound l (callsIn_wide.2 (HIS.out m W))).mono ?_
    rintro e w5 ⟨rfl, hb5⟩
    obtain ⟨pv, hpv⟩ : ∃ pv, pv = isf m := ⟨_, rfl⟩
    rw [← hpv]
    have HPV := Lib.hid hpv; clear hpv
    have C15 := Lib.hid (C1.out.kept (grownBy_below hb5 none) (by simp)); have C25 := Lib.hid (C2.out.kept (grownBy_below hb5 none) (by simp))
    have C35 := Lib.hid (C3.out.kept (grownBy_below hb5 none) (by cases (Value.slice va out.length vc).ownBlock <;> simp))
    have C65 := Lib.hid (C6.out.trans (hb5.mono C6.out.size))
    have HST := Lib.hid (StS.below (n₀ := w.heap.size) (L := w.heap.size + 1 + 1 + 1) hb5 C6.out.size)
    have hX5 := HX.out.below hb5 HX.out.lt
    have hs5 := hb5.size
    have hs7 := C7.out
    clear u1 u2 t0 t1 hb5
    have u1 := C15.out.cell; have t0 := Blk.cell hX5 (j := 0) rfl; have t1 := Blk.cell hX5 (j := 1) rfl
    have f1 := C15.out.frozen
    have HX5 := Lib.hid hX5; clear hX5
    cases pv with
    | false =>
      have HN := Lib.hid (show thoseL isf ((pre ++ [⟨((lo, hx), m), p0, p1, p2⟩] : List Span).map (·.1)) = out by rw [HSN.out]; simp only [stepT]; rw [← HPV.out]; simp)
      gi_wp2_with fail
      exact ⟨HST.out.keeps.from _, HST.out.kp, _, C15.out, C25.out, by rw [HN.out]; exact C35.out, by rw [HN.out]; simp; have := C4.out; omega, by rw [HN.out]; exact C5.out, C65.out, by omega⟩
    | true =>
      have HN := Lib.hid (show thoseL isf ((pre ++ [⟨((lo, hx), m), p0, p1, p2⟩] : List Span).map (·.1)) = pushT out (lo, hx) by rw [HSN.out]; simp only [stepT]; rw [← HPV.out]; simp)
      rcases snoc_cases out with rfl | ⟨b, y, rfl⟩
      · gi_wp2_with fail
        refine wpIn_region_quiet_round l rfl (by kernel_rfl) (by kernel_rfl) (by kernel_rfl) ?_
        repeat (gi_big_quiet_step (fail))
        refine wpQuietIn_nil ?_
        intro _ hw'
        obtain ⟨nq, hw''⟩ := hw'
        subst hw''
        have T6 := Lib.hid ((⟨C15.out, C25.out, C35.out, C4.out, C5.out, C65.out, by omega⟩ : TI w w.heap.size (.func (.func gi) #[] #[]) [] pre.length (w.heap.size + 1 + 1 + 1) (.slice va 0 vc) w5).kept (below_drewN (Below.refl _ _) nq))
        have S6 := Lib.hid (HST.out.trans (StS.below (n₀ := w.heap.size) (L := w.heap.size + 1 + 1 + 1) (below_drewN (Below.refl _ w5) nq) (by omega)))
        obtain ⟨W6, hW6⟩ : ∃ W6, w5.drewN nq = W6 := ⟨_, rfl⟩
        have u6 : W6.cell? ⟨w.heap.size + 1, 0, none⟩ = some (.slice va 0 vc) := hW6 ▸ u1
        have t60 : W6.cell? ⟨Bx, 0, none⟩ = some (.int .i32 lo) := hW6 ▸ t0
        have t61 : W6.cell? ⟨Bx, 1, none⟩ = some (.int .i32 hx) := hW6 ▸ t1
        rw [hW6] at T6 S6 ⊢
        clear hW6 u1 t0 t1 f1
        have hs6 := T6.out.below.size
        have hk6 := T6.out.len
        gi_wp2_with (gi_at_builtin; refine wpListIn_append_own _ rfl _ _ 26 rfl w.heap.size 61 i0 (.agg #[.int .i32 0, .int .i32 0]) 2 8 Tryz.underlying26 hi hz0 hz1 hz2 rfl (by decide) _ _ _ rfl (T6.out.row.alloc _) ⟨W6.heap.size, 0, none⟩ 1 1 [.int .i32 lo, .int .i32 hx] rfl rfl (cell_two_new _ _ _ _) (fun x hx => by simp at hx; rcases hx with rfl | rfl <;> rfl) (by unfold maxLen; simp) (by simp) (by simp; omega) ?_; intro v' w4 hown' hgrow _; obtain ⟨g', cap', rfl⟩ := ownsRow_succ hown'; have hq := (T6.out.box.alloc (.cells #[.int .i32 lo, .int .i32 hx] 61)).kept hgrow ((T6.out.box.alloc (.cells #[.int .i32 lo, .int .i32 hx] 61)).not_row (by decide) (T6.out.row.alloc (.cells #[.int .i32 lo, .int .i32 hx] 61))); have hc1 := hq.cell; have hf1 := hq.frozen)
        have := T6.out.pushed (by omega) p2 (by rfl) hown' hgrow
        exact ⟨(S6.out.trans this.2).keeps.from _, (S6.out.trans this.2).kp, _, by rw [HN.out, List.length_append]; exact this.1⟩
      · have T5 := Lib.hid (⟨C15.out, C25.out, C35.out, C4.out, C5.out, C65.out, by omega⟩ : TI w w.heap.size (.func (.func gi) #[] #[]) (b ++ [y]) pre.length (w.heap.size + 1 + 1 + 1) (.slice va (b ++ [y]).length vc) w5)
        have hlb : (b ++ [y]).length = b.length + 1 := by simp
        have hy := T5.out.top y (by simp)
        obtain ⟨y1, y2⟩ := y
        dsimp only at hy
        obtain ⟨g, rfl⟩ : ∃ g, va = some ⟨g, 0, none⟩ := by
          rcases T5.out.row.2 with ⟨_, h0⟩ | ⟨g, cap, cur, h, _⟩
          · rw [hlb] at h0; cases h0
          · cases h; exact ⟨g, rfl⟩
        have ct := (T5.out.row.cellAt (b.length * 2 + 1) (by rw [hlb]; omega)).trans (flatR_snoc1 b (y1, y2))
        have fr := T5.out.row.frozenAt (b.length * 2 + 1)
        have hbl : b.length + 1 ≤ 4000000000001 := by have := T5.out.len; rw [hlb] at this; omega
        have HLB := Lib.hid hlb
        rw [hlb] at u1 ⊢
        clear hlb C15 C25 C35 C4 C5 C65
        have hg0 : decide ((b.length : Int) + 1 > 0) = true := decide_eq_true (by omega)
        have hwr : IntKind.i64.wrap (b.length : Int) = (b.length : Int) := by rw [IntKind.wrap_i64]; omega
        have hwy : IntKind.i32.wrap (y2 + 1) = y2 + 1 := IntWalk.i32_in _ (by omega)
        have c78 : Tryz.prog.cellsOf 61 = 2 := by kernel_rfl
        have hix1 : (b.length : Int) < (b.length : Int) + 1 := by omega
        have hix2 : (b.length : Int) < ((b.length + 1 : Nat) : Int) := by omega
        have hix3 : b.length < b.length + 1 := by omega
        have hix0 : (0 : Int) ≤ (b.length : Int) := by omega
        by_cases hyx : y2 + 1 = lo
        · have hyb : (y2 + 1 == lo) = true := by simpa using hyx
          gi_wp2_with fail
          refine wpIn_region_quiet_round l rfl (by kernel_rfl) (by kernel_rfl) (by kernel_rfl) ?_
          repeat (gi_big_quiet_step (fail))
          refine wpQuietIn_nil ?_
          intro _ hw'
          obtain ⟨nq, hw''⟩ := hw'
          subst hw''
          have T6 := Lib.hid (T5.out.kept (below_drewN (Below.refl _ _) nq))
          have S6 := Lib.hid (HST.out.trans (StS.below (n₀ := w.heap.size) (L := w.heap.size + 1 + 1 + 1) (below_drewN (Below.refl _ w5) nq) (by omega)))
          obtain ⟨W6, hW6⟩ : ∃ W6, w5.drewN nq = W6 := ⟨_, rfl⟩
          have u6 : W6.cell? ⟨w.heap.size + 1, 0, none⟩ = some (.slice (some ⟨g, 0, none⟩) (b.length + 1) vc) := hW6 ▸ u1
          have t60 : W6.cell? ⟨Bx, 0, none⟩ = some (.int .i32 lo) := hW6 ▸ t0
          have t61 : W6.cell? ⟨Bx, 1, none⟩ = some (.int .i32 hx) := hW6 ▸ t1
          have ct6 : W6.cell? ⟨g, b.length * 2 + 1, none⟩ = some (.int .i32 y2) := hW6 ▸ ct
          have fr6 : W6.frozen? ⟨g, b.length * 2 + 1, none⟩ = false := hW6 ▸ fr
          rw [hW6] at T6 S6 ⊢
          clear hW6 u1 t0 t1 f1 ct fr
          gi_wp2_with fail
          have := T6.out.joined (lo := lo) (hx := hx) (by omega) p2 hyx
          exact ⟨(S6.out.trans this.2).keeps.from _, (S6.out.trans this.2).kp, _, by rw [HN.out, List.length_append]; exact this.1⟩
        · have hyb : (y2 + 1 == lo) = false := by simpa using hyx
          have HYX := Lib.hid hyx; clear hyx
          gi_wp2_with fail
          refine wpIn_region_quiet_round l rfl (by kernel_rfl) (by kernel_rfl) (by kernel_rfl) ?_
          repeat (gi_big_quiet_step (fail))
          refine wpQuietIn_nil ?_
          intro _ hw'
          obtain ⟨nq, hw''⟩ := hw'
          subst hw''
          have T6 := Lib.hid (T5.out.kept (below_drewN (Below.refl _ _) nq))
          have S6 := Lib.hid (HST.out.trans (StS.below (n₀ := w.heap.size) (L := w.heap.size + 1 + 1 + 1) (below_drewN (Below.refl _ w5) nq) (by omega)))
          obtain ⟨W6, hW6⟩ : ∃ W6, w5.drewN nq = W6 := ⟨_, rfl⟩
          have u6 : W6.cell? ⟨w.heap.size + 1, 0, none⟩ = some (.slice (some ⟨g, 0, none⟩) (b.length + 1) vc) := hW6 ▸ u1
          have t60 : W6.cell? ⟨Bx, 0, none⟩ = some (.int .i32 lo) := hW6 ▸ t0
          have t61 : W6.cell? ⟨Bx, 1, none⟩ = some (.int .i32 hx) := hW6 ▸ t1
          have ct6 : W6.cell? ⟨g, b.length * 2 + 1, none⟩ = some (.int .i32 y2) := hW6 ▸ ct
          have fr6 : W6.frozen? ⟨g, b.length * 2 + 1, none⟩ = false := hW6 ▸ fr
          rw [hW6] at T6 S6 ⊢
          clear hW6 u1 t0 t1 f1 ct fr
          have hs6 := T6.out.below.size
          have hk6 := T6.out.len
          gi_wp2_with (gi_at_builtin; refine wpListIn_append_own _ rfl _ _ 26 rfl w.heap.size 61 i0 (.agg #[.int .i32 0, .int .i32 0]) 2 8 Tryz.underlying26 hi hz0 hz1 hz2 rfl (by decide) _ _ _ (by rw [HLB.out]; rfl) (T6.out.row.alloc _) ⟨W6.heap.size, 0, none⟩ 1 1 [.int .i32 lo, .int .i32 hx] rfl rfl (cell_two_new _ _ _ _) (fun x hx => by simp at hx; rcases hx with rfl | rfl <;> rfl) (by unfold maxLen; rw [HLB.out]; omega) (by rw [HLB.out]; omega) (by simp; omega) ?_; intro v' w4 hown' hgrow _; obtain ⟨g', cap', rfl⟩ := ownsRow_succ hown'; have hq := (T6.out.box.alloc (.cells #[.int .i32 lo, .int .i32 hx] 61)).kept hgrow ((T6.out.box.alloc (.cells #[.int .i32 lo, .int .i32 hx] 61)).not_row (by decide) (T6.out.row.alloc (.cells #[.int .i32 lo, .int .i32 hx] 61))); have hc1 := hq.cell; have hf1 := hq.frozen)
          have := T6.out.pushed (by omega) p2 (by rw [pushT_snoc, if_neg (by exact HYX.out)]) hown' hgrow
          rw [HLB.out] at this
          exact ⟨(S6.out.trans this.2).keeps.from _, (S6.out.trans this.2).kp, _, by rw [HN.out, List.length_append]; exact this.1⟩
  case done =>
    rintro D ys W hD hS ⟨v, c1, c2, c3, c4, c5, c6, c7⟩ hK
    rw [hS] at c3
    have u1 := c1.cell
    have HK := Lib.hid hK; have HB := Lib.hid c6; have C3 := Lib.hid c3
    clear hK c1 c2 c3 c4 c5 c6 hS
    go_wp2_with fail
    refine ⟨by simp, .inl ⟨_, _, rfl, run_takeDeferred HK.out, ?_⟩⟩
    exact ⟨_, results_tmp rfl _ _ _, v, rfl, ownsRow_putObj C3.out _ HK.out rfl, HB.out.trans (belowK_b (w := w) (Nat.le_refl _) W D _ _ (by omega) HK.out rfl rfl)⟩
  case stop =>
    rintro D c pre W _ _ h _
    exact h.elim
end Go.Proofs.YtnhnldmldnhaoaaGreatDoor
