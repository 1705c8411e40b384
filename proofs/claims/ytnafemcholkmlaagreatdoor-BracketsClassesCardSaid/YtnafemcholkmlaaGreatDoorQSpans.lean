/- The stretches between edges: sets.spans, an iterator of two values. -/
import Derived.Test.YtnafemcholkmlaaGreatDoorQEdges
namespace Go.Proofs.YtnafemcholkmlaaGreatDoor
open Go Go.RowKit Go.Proofs Go.Shelf
attribute [local go_sem] Oper.semAt_some

/-- A stretch, and how many are there. -/
abbrev Span := { x : (Int × Int) × Int // 0 ≤ x.1.1 ∧ x.1.1 ≤ x.1.2 ∧ x.1.2 ≤ 1114111 }
/-- Edges in a row. -/
def EdgesV (w : World) (B : Nat) (es : List (Int × Int)) (sa : Option Addr) : Prop :=
  es = [] ∨ ∃ g, sa = some ⟨g, 0, none⟩ ∧ g < B ∧ ∀ j (h : j < es.length), w.cell? ⟨g, j * 2, none⟩ = some (.int .i32 es[j].1) ∧ w.cell? ⟨g, j * 2 + 1, none⟩ = some (.int .i64 es[j].2)
theorem EdgesV.below {w w' : World} {B : Nat} {es : List (Int × Int)} {sa : Option Addr} (h : EdgesV w B es sa) (hb : Below B w w') : EdgesV w' B es sa := by
  rcases h with h | ⟨g, h1, h2, h3⟩
  · exact .inl h
  · exact .inr ⟨g, h1, h2, fun j hj => ⟨cell_lift hb h2 (h3 j hj).1, cell_lift hb h2 (h3 j hj).2⟩⟩

/-- What a round keeps: what lay below a block; the boxes of edges that lie at or beyond another. -/
def KpS (n₀ L : Nat) (W W' : World) : Prop := Below n₀ W W' ∧ ∀ b, L ≤ b → ∀ (cs : Array Value) (z : Nat × Nat), W.heap[b]? = some (.cells cs 97 z) → W'.heap[b]? = W.heap[b]?
theorem KpS.refl (n₀ L : Nat) (W : World) : KpS n₀ L W W := ⟨Below.refl _ _, fun _ _ _ _ _ => rfl⟩
theorem KpS.trans {n₀ L : Nat} {A B C : World} (h : KpS n₀ L A B) (k : KpS n₀ L B C) : KpS n₀ L A C := by
  refine ⟨h.1.trans k.1, fun b hb cs z ho => ?_⟩
  have h1 := h.2 b hb cs z ho
  exact (k.2 b hb cs z (by rw [h1]; exact ho)).trans h1
theorem KpS.alloc {n₀ L : Nat} {W : World} (h : n₀ ≤ W.heap.size) (o : Obj) : KpS n₀ L W (W.alloc o) :=
  ⟨(Below.refl _ W).alloc h o, fun b _ _ _ ho => Below.heap_alloc W o b (Array.getElem?_eq_some_iff.1 ho).1⟩
theorem KpS.book {n₀ L : Nat} {w : World} (hn : n₀ ≤ w.heap.size) (W : World) (l : Nat) (o o' : Obj) (hl : w.heap.size ≤ l) (h : W.heap[l]? = some o) (hc : o.isCells = false) (hw : o.isWalk = false) : KpS n₀ L W (W.putObj l o') := by
  refine ⟨belowK_b hn W l o o' hl h hc hw, fun b _ cs z hp => ?_⟩
  have hne : b ≠ l := fun e => by rw [e, h] at hp; cases hp; cases hc
  exact (grownBy_putObj' W l o').block b (Array.getElem?_eq_some_iff.1 hp).1 (fun e => hne (Option.some.inj e))
theorem KpS.row {n₀ L : Nat} {W W' : World} (h : KpS n₀ L W W') {b : Nat} (hb : L ≤ b) {cs : Array Value} {z : Nat × Nat} (hc : W.heap[b]? = some (.cells cs 97 z)) : W'.heap[b]? = some (.cells cs 97 z) :=
  (h.2 b hb _ _ hc).trans hc

theorem spansL_length : ∀ (es : List (Int × Int)) (f n : Int), (spansL f n es).length ≤ es.length + 1
  | [], f, n => by simp only [spansL]; split <;> simp
  | (a, m) :: l, f, n => by
    simp only [spansL]
    split
    · have := spansL_length l a (n + m); simp only [List.length_cons]; omega
    · have := spansL_length l f (n + m); simp only [List.length_cons]; omega

set_option maxHeartbeats 1000000 in
/-- 'spans' hands back a function that holds a box of the row. -/
theorem spans_in (F : Fence) (n : Nat) (h4 : F.fn 59) (hro : F.round = none) (sa : Option Addr) (sn sc : Nat) (w : World) :
    CallsIn F n Tryz.prog 59 #[.slice sa sn sc] w fun e w' => e = .returned (.func (.func 87) #[] #[.pointer (some ⟨w.heap.size, 0, none⟩)]) ∧ w' = w.alloc (.cells #[.slice sa sn sc] 73) := by
  refine callsIn_of_wp Tryz.func59 rfl h4 ?_ hro
  simp only [Tryz.ntmps59, List.size_toArray, List.length_cons, List.length_nil, Nat.reduceAdd, Nat.reduceSub, Array.replicate_succ, Array.replicate_zero, List.push_toArray, List.append_toArray, List.nil_append, List.cons_append]
  gi_wp2
  go_ret
  exact ⟨rfl, rfl⟩

set_option maxRecDepth 100000 in
set_option maxHeartbeats 2000000 in
theorem spans1_in (F : Fence) (hd : F.depth = none) (n : Nat) (h5 : F.fn 87) (hro : F.round = none) (l Bt n₀ L B : Nat) (w0 : World) (hB0 : B ≤ n₀) (hnL : n₀ ≤ L) (es : List (Int × Int)) (sa : Option Addr) (sc : Nat) (hv : EdgesV w0 B es sa)
    (hes : ∀ e ∈ es, 0 ≤ e.1 ∧ e.1 ≤ 1114112 ∧ (e.2 = 1 ∨ e.2 = -1)) (hlen : es.length ≤ 4000000000000) (N : Nat) (hN : (spansL 0 0 es).length ≤ N)
    (J Jx : List Span → World → Prop) (hJa : ∀ s W o, J s W → J s (W.alloc o))
    (hY : ∀ pre x W, J pre W → pre.length < N → YieldAt F (n - 1) Tryz.prog l #[.agg #[.int .i32 x.1.1.1, .int .i32 x.1.1.2], .int .i64 x.1.2] W fun e W' =>
      (e = .returned (.bool true) ∧ J (pre ++ [x]) W' ∧ KpS n₀ L W W') ∨ (e = .returned (.bool false) ∧ Jx (pre ++ [x]) W'))
    (W : World) (hbox : W.heap[Bt]? = some (.cells #[.slice sa es.length sc] 73 (0, 0))) (hb : Below n₀ w0 W) (hL : L ≤ W.heap.size) (h0 : J [] W) :
    CallsIn F n Tryz.prog 87 #[.func (.yield l) #[] #[], .pointer (some ⟨Bt, 0, none⟩)] W fun e W' => (∃ v, e = .returned v) ∧
      ((∃ ys : List Span, ys.map (·.1) = spansL 0 0 es ∧ J ys W') ∨ (∃ pre : List Span, pre.map (·.1) <+: spansL 0 0 es ∧ Jx pre W')) := by
  have hdd : ∀ k : Nat, (F.depth.isSome = true → 1 ≤ k) := fun k h => by rw [hd] at h; cases h
  have c0 : W.cell? ⟨Bt, 0, none⟩ = some (.slice sa es.length sc) := by simp [World.cell?, hbox]
  have HV := Lib.hid hv; have HY := Lib.hid hY; have HES := Lib.hid hes; have HBX := Lib.hid hbox
  clear hv hY hes hbox
  refine callsIn_of_wp Tryz.func87 rfl h5 ?_ hro
  simp only [Tryz.ntmps87, List.size_toArray, List.length_cons, List.length_nil, Nat.reduceAdd, Nat.reduceSub, Array.replicate_succ, Array.replicate_zero, List.push_toArray, List.append_toArray, List.nil_append, List.cons_append]
  gi_wp2
  gi_loopw [3, 4, 9] (fun fv nv i wr => ∃ (k : Nat) (fr m : Int) (xs : List Span), k ≤ es.length ∧ i = .int .i64 k ∧ fv = .int .i32 fr ∧ nv = .int .i64 m ∧ 0 ≤ fr ∧ fr ≤ 1114112 ∧ -(k : Int) ≤ m ∧ m ≤ k ∧
    Hid (spansL 0 0 es = xs.map (·.1) ++ spansL fr m (es.drop k)) ∧ J xs wr ∧ KpS n₀ L W wr) (fun _ _ i _ => es.length - (intOf i).toNat)
  case atStart => exact ⟨0, 0, 0, [], Nat.zero_le _, rfl, rfl, rfl, by omega, by omega, by omega, by omega, by simp [Hid], h0, KpS.refl _ _ _⟩
  case round =>
    obtain ⟨k, fr, m, xs, hk, rfl, rfl, rfl, hf0, hf1, hm0, hm1, HSP, hJ, hK⟩ := hrel
    have hsz := hK.1.size
    by_cases hlt : k < es.length
    · rcases HV.out with h0 | ⟨g, rfl, hgB, hcs⟩
      · rw [h0] at hlt; simp at hlt
      obtain ⟨g1, g2⟩ := hcs k hlt
      have g1' := cell_lift (hb.trans hK.1) (show g < n₀ by omega) g1
      have g2' := cell_lift (hb.trans hK.1) (show g < n₀ by omega) g2
      obtain ⟨b1, b2, b3⟩ := HES.out es[k] (List.getElem_mem hlt)
      obtain ⟨a, ha⟩ : ∃ a, es[k].1 = a := ⟨_, rfl⟩
      obtain ⟨mm, hmm⟩ : ∃ mm, es[k].2 = mm := ⟨_, rfl⟩
      have HD := Lib.hid (show es.drop k = (a, mm) :: es.drop (k + 1) by rw [List.drop_eq_getElem_cons hlt, ← ha, ← hmm])
      rw [ha] at g1' b1 b2; rw [hmm] at g2' b3
      have HJ := Lib.hid hJ; have HK := Lib.hid hK
      clear hcs g1 g2 ha hmm hJ hK
      by_cases c1 : fr < a
      · have HS1 := Lib.hid (show spansL fr m (es.drop k) = ((fr, a - 1), m) :: spansL a (m + mm) (es.drop (k + 1)) by rw [HD.out]; simp only [spansL]; rw [if_pos c1])
        have hxl : xs.length < N := by
          have e := congrArg List.length HSP.out
          rw [HS1.out] at e
          simp only [List.length_append, List.length_map, List.length_cons] at e; omega
        have hpr : 0 ≤ (((fr, a - 1), m) : (Int × Int) × Int).1.1 ∧ (((fr, a - 1), m) : (Int × Int) × Int).1.1 ≤ (((fr, a - 1), m) : (Int × Int) × Int).1.2 ∧ (((fr, a - 1), m) : (Int × Int) × Int).1.2 ≤ 1114111 := by dsimp only; omega
        obtain ⟨x, hx⟩ : ∃ x : Span, x = ⟨((fr, a - 1), m), hpr⟩ := ⟨_, rfl⟩
        obtain ⟨W1, hW1⟩ : ∃ W1, W1 = wr.alloc (.cells #[.int .i32 a, .int .i64 mm] 97) := ⟨_, rfl⟩
        have hbx : W1.heap[wr.heap.size]? = some (.cells #[.int .i32 a, .int .i64 mm] 97 (0, 0)) := by rw [hW1]; exact World.alloc_heap_new wr _
        have hK1 : KpS n₀ L wr W1 := by rw [hW1]; exact KpS.alloc (by omega) _
        have hy := YieldAt.mono (R' := fun e W' => (e = .returned (.bool true) ∧ (J (xs ++ [x]) W' ∧ KpS n₀ L wr W') ∧ W'.cell? ⟨wr.heap.size, 0, none⟩ = some (.int .i32 a) ∧ W'.cell? ⟨wr.heap.size, 1, none⟩ = some (.int .i64 mm)) ∨ (e = .returned (.bool false) ∧ Jx (xs ++ [x]) W'))
          (HY.out xs x W1 (by rw [hW1]; exact hJa _ _ _ HJ.out) hxl)
          (fun e W' h => h.imp (fun ⟨a, b, c⟩ => ⟨a, ⟨b, hK1.trans c⟩, by simp [World.cell?, c.row (by omega) hbx], by simp [World.cell?, c.row (by omega) hbx]⟩) id)
        have HX := Lib.hid hx
        have hwr : IntKind.i32.wrap (a - 1) = a - 1 := IntWalk.i32_in _ (by omega)
        clear hbx hK1
        obtain ⟨fn, tmps, assign, body, hy, hR⟩ := hy
        rw [hx, hW1] at hy
        dsimp only at hy
        rw [hW1] at hR
        clear hx hW1
        gi_wp2_with ((try refine ⟨hdd _, ?_⟩); refine hR.mono ?_; clear hR; rintro e W2 (⟨rfl, hJK, c2, c3⟩ | ⟨rfl, hx2⟩))
        · have HJK := Lib.hid hJK; clear hJK
          gi_wp2
          go_roundw
          case rel =>
            refine ⟨k + 1, a, m + mm, xs ++ [x], hlt, by go_num, rfl, by go_num, by omega, by omega, by omega, by omega, ?_, HJK.out.1, HK.out.trans HJK.out.2⟩
            show _ = _
            rw [HSP.out, HS1.out, List.map_append, HX.out]; simp
          case measure => simp [intOf]; omega
        · gi_wp2
          refine bodyPost_ret (results_none rfl _ _ _) rfl ⟨⟨_, rfl⟩, .inr ⟨xs ++ [x], ?_, hx2⟩⟩
          rw [HSP.out, HS1.out, List.map_append, HX.out]
          exact ⟨spansL a (m + mm) (es.drop (k + 1)), by simp⟩
      · have HS1 := Lib.hid (show spansL fr m (es.drop k) = spansL fr (m + mm) (es.drop (k + 1)) by rw [HD.out]; simp only [spansL]; rw [if_neg c1])
        gi_wp2
        go_roundw
        case rel =>
          refine ⟨k + 1, fr, m + mm, xs, hlt, by go_num, rfl, by go_num, by omega, by omega, by omega, by omega, ?_, hJa _ _ _ HJ.out, HK.out.trans (KpS.alloc (by omega) _)⟩
          show _ = _
          rw [HSP.out, HS1.out]
        case measure => simp [intOf]; omega
    · obtain rfl : k = es.length := by omega
      have HD := Lib.hid (show es.drop es.length = [] by simp)
      have HJ := Lib.hid hJ; have HK := Lib.hid hK
      clear hJ hK
      by_cases c1 : fr ≤ 1114111
      · have HS1 := Lib.hid (show spansL 0 0 es = xs.map (·.1) ++ [((fr, 1114111), m)] by rw [HSP.out, HD.out]; simp only [spansL]; rw [if_pos c1])
        have hxl : xs.length < N := by
          have e := congrArg List.length HS1.out
          simp only [List.length_append, List.length_map, List.length_cons] at e; omega
        have hpr : 0 ≤ (((fr, 1114111), m) : (Int × Int) × Int).1.1 ∧ (((fr, 1114111), m) : (Int × Int) × Int).1.1 ≤ (((fr, 1114111), m) : (Int × Int) × Int).1.2 ∧ (((fr, 1114111), m) : (Int × Int) × Int).1.2 ≤ 1114111 := by dsimp only; omega
        obtain ⟨x, hx⟩ : ∃ x : Span, x = ⟨((fr, 1114111), m), hpr⟩ := ⟨_, rfl⟩
        have HX := Lib.hid hx
        obtain ⟨fn, tmps, assign, body, hy, hR⟩ := HY.out xs x wr HJ.out hxl
        rw [hx] at hy
        dsimp only at hy
        clear hx
        gi_wp2_with ((try refine ⟨hdd _, ?_⟩); refine hR.mono ?_; clear hR; rintro e W2 (⟨rfl, hJ2, hK2⟩ | ⟨rfl, hx2⟩))
        · gi_wp2
          go_end0
          exact ⟨⟨_, rfl⟩, .inl ⟨xs ++ [x], by rw [HS1.out, List.map_append, HX.out]; rfl, hJ2⟩⟩
        · gi_wp2
          go_end0
          exact ⟨⟨_, rfl⟩, .inr ⟨xs ++ [x], by rw [HS1.out, List.map_append, HX.out]; exact ⟨[], by simp⟩, hx2⟩⟩
      · gi_wp2
        go_end0
        refine ⟨⟨_, rfl⟩, .inl ⟨xs, ?_, HJ.out⟩⟩
        rw [HSP.out, HD.out]; simp only [spansL]; rw [if_neg (by omega)]; simp

/-- The iterator's contract. -/
theorem spans_stops (F : Fence) (hd : F.depth = none) (n : Nat) (h5 : F.fn 87) (hro : F.round = none) (Bt n₀ L B : Nat) (w0 : World) (hB0 : B ≤ n₀) (hnL : n₀ ≤ L) (es : List (Int × Int)) (sa : Option Addr) (sc : Nat) (hv : EdgesV w0 B es sa)
    (hes : ∀ e ∈ es, 0 ≤ e.1 ∧ e.1 ≤ 1114112 ∧ (e.2 = 1 ∨ e.2 = -1)) (hlen : es.length ≤ 4000000000000) (N : Nat) (hN : (spansL 0 0 es).length ≤ N)
    (w : World) (hbox : w.heap[Bt]? = some (.cells #[.slice sa es.length sc] 73 (0, 0))) (hb : Below n₀ w0 w) (hL : L ≤ w.heap.size) :
    SeqStopsK F n Tryz.prog 87 #[.pointer (some ⟨Bt, 0, none⟩)] (fun x : Span => #[.agg #[.int .i32 x.1.1.1, .int .i32 x.1.1.2], .int .i64 x.1.2]) (KpS n₀ L) (fun ys => ys.map (·.1) = spansL 0 0 es) (fun pre => pre.map (·.1) <+: spansL 0 0 es) N w := fun l J Jx W hW hJ _ hY h0 =>
  spans1_in F hd n h5 hro l Bt n₀ L B w0 hB0 hnL es sa sc hv hes hlen N hN J Jx (fun s A o hs => hJ s A _ none hs (World.grownBy_alloc A o none) (fun r e => by cases e)) hY W
    ((hW.block Bt (Array.getElem?_eq_some_iff.1 hbox).1).trans hbox) (hb.trans (hW.mono (by omega))) (Nat.le_trans hL hW.size) h0
end Go.Proofs.YtnafemcholkmlaaGreatDoor
