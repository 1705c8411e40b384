/- The stretches between edges: sets.spans, an iterator of two values. What sets.those keeps from stretch to stretch. A quiet region that draws its order, within a round of a range over a function. -/
import Derived.Test.YtnhnldmldnhaoaaGreatDoorDSortEdges
import Derived.Sort.QuietIn
import Derived.RangeFuncBox
import Derived.RangeFuncCalls
import Derived.OwnWalkIn
namespace Go.Proofs.YtnhnldmldnhaoaaGreatDoor
open Go Go.RowKit Go.Proofs Go.Shelf
attribute [local go_sem] Oper.semAt_some

/-- A stretch, and how many are there. -/
abbrev Span := { x : (Int × Int) × Int // 0 ≤ x.1.1 ∧ x.1.1 ≤ x.1.2 ∧ x.1.2 ≤ 1114111 }
/-- Edges in a row. -/
def EdgesV (w : World) (B : Nat) (es : List (Int × Int)) (sa : Option Addr) : Prop :=
  es = [] ∨ ∃ g, sa = some ⟨g, 0, none⟩ ∧ g < B ∧ ∀ j (h : j < es.length), w.cell? ⟨g, j * 2, none⟩ = some (.int .i32 es[j].1) ∧ w.cell? ⟨g, j * 2 + 1, none⟩ = some (.int .i64 es[j].2)
theorem EdgesV.below {w w' : World} {B : Nat} {es : List (Int × Int)} {sa : Option Addr} (h : EdgesV w B es sa) (hb : Below B w w') : EdgesV w' B es sa := by
  rcases h with h | ⟨g, h1, h2, h3⟩
  · exact .inl h
  · exact .inr ⟨g, h1, h2, fun j hj => ⟨cell_lift hb h2 (h3 j hj).1, cell_lift hb h2 (h3 j hj).2⟩⟩

/-- What a round keeps: what lay below a block; the boxes of edges that lie at or beyond another. -/
def KpS (n₀ L : Nat) (W W' : World) : Prop := Below n₀ W W' ∧ ∀ b, L ≤ b → ∀ (cs : Array Value) (z : Nat × Nat), W.heap[b]? = some (.cells cs 166 z) → W'.heap[b]? = W.heap[b]?
theorem KpS.refl (n₀ L : Nat) (W : World) : KpS n₀ L W W := ⟨Below.refl _ _, fun _ _ _ _ _ => rfl⟩
theorem KpS.trans {n₀ L : Nat} {A B C : World} (h : KpS n₀ L A B) (k : KpS n₀ L B C) : KpS n₀ L A C := by
  refine ⟨h.1.trans k.1, fun b hb cs z ho => ?_⟩
  have h1 := h.2 b hb cs z ho
  exact (k.2 b hb cs z (by rw [h1]; exact ho)).trans h1
theorem KpS.alloc {n₀ L : Nat} {W : World} (h : n₀ ≤ W.heap.size) (o : Obj) : KpS n₀ L W (W.alloc o) :=
  ⟨(Below.refl _ W).alloc h o, fun b _ _ _ ho => Below.heap_alloc W o b (Array.getElem?_eq_some_iff.1 ho).1⟩
theorem KpS.book {n₀ L : Nat} {w : World} (hn : n₀ ≤ w.heap.size) (W : World) (l : Nat) (o o' : Obj) (hl : w.heap.size ≤ l) (h : W.heap[l]? = some o) (hc : o.isCells = false) (hw : o.isWalk = false) : KpS n₀ L W (W.putObj l o') := by
  refine ⟨belowK_b hn W l o o' hl h hc hw, fun b _ cs z hp => ?_⟩
  have hne : b ≠ l := fun e => by rw [e, h] at hp; cases hp; cases hc
  exact (grownBy_putObj' W l o').block b (Array.getElem?_eq_some_iff.1 hp).1 (fun e => hne (Option.some.inj e))
theorem KpS.row {n₀ L : Nat} {W W' : World} (h : KpS n₀ L W W') {b : Nat} (hb : L ≤ b) {cs : Array Value} {z : Nat × Nat} (hc : W.heap[b]? = some (.cells cs 166 z)) : W'.heap[b]? = some (.cells cs 166 z) :=
  (h.2 b hb _ _ hc).trans hc

theorem spansL_length : ∀ (es : List (Int × Int)) (f n : Int), (spansL f n es).length ≤ es.length + 1
  | [], f, n => by simp only [spansL]; split <;> simp
  | (a, m) :: l, f, n => by
    simp only [spansL]
    split
    · have := spansL_length l a (n + m); simp only [List.length_cons]; omega
    · have := spansL_length l f (n + m); simp only [List.length_cons]; omega

set_option maxHeartbeats 1000000 in
/-- 'spans' hands back a function that holds a box of the row. -/
theorem spans_in (F : Fence) (n : Nat) (h4 : F.fn 110) (hro : F.round = none) (sa : Option Addr) (sn sc : Nat) (w : World) :
    CallsIn F n Tryz.prog 110 #[.slice sa sn sc] w fun e w' => e = .returned (.func (.func 143) #[] #[.pointer (some ⟨w.heap.size, 0, none⟩)]) ∧ w' = w.alloc (.cells #[.slice sa sn sc] 133) := by
  refine callsIn_of_wp Tryz.func110 rfl h4 ?_ hro
  simp only [Tryz.ntmps110, List.size_toArray, List.length_cons, List.length_nil, Nat.reduceAdd, Nat.reduceSub, Array.replicate_succ, Array.replicate_zero, List.push_toArray, List.append_toArray, List.nil_append, List.cons_append]
  gi_wp2
  go_ret
  exact ⟨rfl, rfl⟩

set_option maxRecDepth 100000 in
set_option maxHeartbeats 2000000 in
theorem spans1_in (F : Fence) (hd : F.depth = none) (n : Nat) (h5 : F.fn 143) (hro : F.round = none) (l Bt n₀ L B : Nat) (w0 : World) (hB0 : B ≤ n₀) (hnL : n₀ ≤ L) (es : List (Int × Int)) (sa : Option Addr) (sc : Nat) (hv : EdgesV w0 B es sa)
    (hes : ∀ e ∈ es, 0 ≤ e.1 ∧ e.1 ≤ 1114112 ∧ (e.2 = 1 ∨ e.2 = -1)) (hlen : es.length ≤ 4000000000000) (N : Nat) (hN : (spansL 0 0 es).length ≤ N)
    (J Jx : List Span → World → Prop) (hJa : ∀ s W o, J s W → J s (W.alloc o))
    (hY : ∀ pre x W, J pre W → pre.length < N → YieldAt F (n - 1) Tryz.prog l #[.agg #[.int .i32 x.1.1.1, .int .i32 x.1.1.2], .int .i64 x.1.2] W fun e W' =>
      (e = .returned (.bool true) ∧ J (pre ++ [x]) W' ∧ KpS n₀ L W W') ∨ (e = .returned (.bool false) ∧ Jx (pre ++ [x]) W'))
    (W : World) (hbox : W.heap[Bt]? = some (.cells #[.slice sa es.length sc] 133 (0, 0))) (hb : Below n₀ w0 W) (hL : L ≤ W.heap.size) (h0 : J [] W) :
    CallsIn F n Tryz.prog 143 #[.func (.yield l) #[] #[], .pointer (some ⟨Bt, 0, none⟩)] W fun e W' => (∃ v, e = .returned v) ∧
      ((∃ ys : List Span, ys.map (·.1) = spansL 0 0 es ∧ J ys W') ∨ (∃ pre : List Span, pre.map (·.1) <+: spansL 0 0 es ∧ Jx pre W')) := by
  have hdd : ∀ k : Nat, (F.depth.isSome = true → 1 ≤ k) := fun k h => by rw [hd] at h; cases h
  have c0 : W.cell? ⟨Bt, 0, none⟩ = some (.slice sa es.length sc) := by simp [World.cell?, hbox]
  have HV := Lib.hid hv; have HY := Lib.hid hY; have HES := Lib.hid hes; have HBX := Lib.hid hbox
  clear hv hY hes hbox
  refine callsIn_of_wp Tryz.func143 rfl h5 ?_ hro
  simp only [Tryz.ntmps143, List.size_toArray, List.length_cons, List.length_nil, Nat.reduceAdd, Nat.reduceSub, Array.replicate_succ, Array.replicate_zero, List.push_toArray, List.append_toArray, List.nil_append, List.cons_append]
  gi_wp2
  gi_loopw [3, 4, 9] (fun fv nv i wr => ∃ (k : Nat) (fr m : Int) (xs : List Span), k ≤ es.length ∧ i = .int .i64 k ∧ fv = .int .i32 fr ∧ nv = .int .i64 m ∧ 0 ≤ fr ∧ fr ≤ 1114112 ∧ -(k : Int) ≤ m ∧ m ≤ k ∧
    Hid (spansL 0 0 es = xs.map (·.1) ++ spansL fr m (es.drop k)) ∧ J xs wr ∧ KpS n₀ L W wr) (fun _ _ i _ => es.length - (intOf i).toNat)
  case atStart => exact ⟨0, 0, 0, [], Nat.zero_le _, rfl, rfl, rfl, by omega, by omega, by omega, by omega, by simp [Hid], h0, KpS.refl _ _ _⟩
  case round =>
    obtain ⟨k, fr, m, xs, hk, rfl, rfl, rfl, hf0, hf1, hm0, hm1, HSP, hJ, hK⟩ := hrel
    have hsz := hK.1.size
    by_cases hlt : k < es.length
    · rcases HV.out with h0 | ⟨g, rfl, hgB, hcs⟩
      · rw [h0] at hlt; simp at hlt
      obtain ⟨g1, g2⟩ := hcs k hlt
      have g1' := cell_lift (hb.trans hK.1) (show g < n₀ by omega) g1
      have g2' := cell_lift (hb.trans hK.1) (show g < n₀ by omega) g2
      obtain ⟨b1, b2, b3⟩ := HES.out es[k] (List.getElem_mem hlt)
      obtain ⟨a, ha⟩ : ∃ a, es[k].1 = a := ⟨_, rfl⟩
      obtain ⟨mm, hmm⟩ : ∃ mm, es[k].2 = mm := ⟨_, rfl⟩
      have HD := Lib.hid (show es.drop k = (a, mm) :: es.drop (k + 1) by rw [List.drop_eq_getElem_cons hlt, ← ha, ← hmm])
      rw [ha] at g1' b1 b2; rw [hmm] at g2' b3
      have HJ := Lib.hid hJ; have HK := Lib.hid hK
      clear hcs g1 g2 ha hmm hJ hK
      by_cases c1 : fr < a
      · have HS1 := Lib.hid (show spansL fr m (es.drop k) = ((fr, a - 1), m) :: spansL a (m + mm) (es.drop (k + 1)) by rw [HD.out]; simp only [spansL]; rw [if_pos c1])
        have hxl : xs.length < N := by
          have e := congrArg List.length HSP.out
          rw [HS1.out] at e
          simp only [List.length_append, List.length_map, List.length_cons] at e; omega
        have hpr : 0 ≤ (((fr, a - 1), m) : (Int × Int) × Int).1.1 ∧ (((fr, a - 1), m) : (Int × Int) × Int).1.1 ≤ (((fr, a - 1), m) : (Int × Int) × Int).1.2 ∧ (((fr, a - 1), m) : (Int × Int) × Int).1.2 ≤ 1114111 := by dsimp only; omega
        obtain ⟨x, hx⟩ : ∃ x : Span, x = ⟨((fr, a - 1), m), hpr⟩ := ⟨_, rfl⟩
        obtain ⟨W1, hW1⟩ : ∃ W1, W1 = wr.alloc (.cells #[.int .i32 a, .int .i64 mm] 166) := ⟨_, rfl⟩
        have hbx : W1.heap[wr.heap.size]? = some (.cells #[.int .i32 a, .int .i64 mm] 166 (0, 0)) := by rw [hW1]; exact World.alloc_heap_new wr _
        have hK1 : KpS n₀ L wr W1 := by rw [hW1]; exact KpS.alloc (by omega) _
        have hy := YieldAt.mono (R' := fun e W' => (e = .returned (.bool true) ∧ (J (xs ++ [x]) W' ∧ KpS n₀ L wr W') ∧ W'.cell? ⟨wr.heap.size, 0, none⟩ = some (.int .i32 a) ∧ W'.cell? ⟨wr.heap.size, 1, none⟩ = some (.int .i64 mm)) ∨ (e = .returned (.bool false) ∧ Jx (xs ++ [x]) W'))
          (HY.out xs x W1 (by rw [hW1]; exact hJa _ _ _ HJ.out) hxl)
          (fun e W' h => h.imp (fun ⟨a, b, c⟩ => ⟨a, ⟨b, hK1.trans c⟩, by simp [World.cell?, c.row (by omega) hbx], by simp [World.cell?, c.row (by omega) hbx]⟩) id)
        have HX := Lib.hid hx
        have hwr : IntKind.i32.wrap (a - 1) = a - 1 := IntWalk.i32_in _ (by omega)
        clear hbx hK1
        obtain ⟨fn, tmps, assign, body, hy, hR⟩ := hy
        rw [hx, hW1] at hy
        dsimp only at hy
        rw [hW1] at hR
        clear hx hW1
        gi_wp2_with ((try refine ⟨hdd _, ?_⟩); refine hR.mono ?_; clear hR; rintro e W2 (⟨rfl, hJK, c2, c3⟩ | ⟨rfl, hx2⟩))
        · have HJK := Lib.hid hJK; clear hJK
          gi_wp2
          go_roundw
          case rel =>
            refine ⟨k + 1, a, m + mm, xs ++ [x], hlt, by go_num, rfl, by go_num, by omega, by omega, by omega, by omega, ?_, HJK.out.1, HK.out.trans HJK.out.2⟩
            show _ = _
            rw [HSP.out, HS1.out, List.map_append, HX.out]; simp
          case measure => simp [intOf]; omega
        · gi_wp2
          refine bodyPost_ret (results_none rfl _ _ _) rfl ⟨⟨_, rfl⟩, .inr ⟨xs ++ [x], ?_, hx2⟩⟩
          rw [HSP.out, HS1.out, List.map_append, HX.out]
          exact ⟨spansL a (m + mm) (es.drop (k + 1)), by simp⟩
      · have HS1 := Lib.hid (show spansL fr m (es.drop k) = spansL fr (m + mm) (es.drop (k + 1)) by rw [HD.out]; simp only [spansL]; rw [if_neg c1])
        gi_wp2
        go_roundw
        case rel =>
          refine ⟨k + 1, fr, m + mm, xs, hlt, by go_num, rfl, by go_num, by omega, by omega, by omega, by omega, ?_, hJa _ _ _ HJ.out, HK.out.trans (KpS.alloc (by omega) _)⟩
          show _ = _
          rw [HSP.out, HS1.out]
        case measure => simp [intOf]; omega
    · obtain rfl : k = es.length := by omega
      have HD := Lib.hid (show es.drop es.length = [] by simp)
      have HJ := Lib.hid hJ; have HK := Lib.hid hK
      clear hJ hK
      by_cases c1 : fr ≤ 1114111
      · have HS1 := Lib.hid (show spansL 0 0 es = xs.map (·.1) ++ [((fr, 1114111), m)] by rw [HSP.out, HD.out]; simp only [spansL]; rw [if_pos c1])
        have hxl : xs.length < N := by
          have e := congrArg List.length HS1.out
          simp only [List.length_append, List.length_map, List.length_cons] at e; omega
        have hpr : 0 ≤ (((fr, 1114111), m) : (Int × Int) × Int).1.1 ∧ (((fr, 1114111), m) : (Int × Int) × Int).1.1 ≤ (((fr, 1114111), m) : (Int × Int) × Int).1.2 ∧ (((fr, 1114111), m) : (Int × Int) × Int).1.2 ≤ 1114111 := by dsimp only; omega
        obtain ⟨x, hx⟩ : ∃ x : Span, x = ⟨((fr, 1114111), m), hpr⟩ := ⟨_, rfl⟩
        have HX := Lib.hid hx
        obtain ⟨fn, tmps, assign, body, hy, hR⟩ := HY.out xs x wr HJ.out hxl
        rw [hx] at hy
        dsimp only at hy
        clear hx
        gi_wp2_with ((try refine ⟨hdd _, ?_⟩); refine hR.mono ?_; clear hR; rintro e W2 (⟨rfl, hJ2, hK2⟩ | ⟨rfl, hx2⟩))
        · gi_wp2
          go_end0
          exact ⟨⟨_, rfl⟩, .inl ⟨xs ++ [x], by rw [HS1.out, List.map_append, HX.out]; rfl, hJ2⟩⟩
        · gi_wp2
          go_end0
          exact ⟨⟨_, rfl⟩, .inr ⟨xs ++ [x], by rw [HS1.out, List.map_append, HX.out]; exact ⟨[], by simp⟩, hx2⟩⟩
      · gi_wp2
        go_end0
        refine ⟨⟨_, rfl⟩, .inl ⟨xs, ?_, HJ.out⟩⟩
        rw [HSP.out, HD.out]; simp only [spansL]; rw [if_neg (by omega)]; simp

/-- The iterator's contract. -/
theorem spans_stops (F : Fence) (hd : F.depth = none) (n : Nat) (h5 : F.fn 143) (hro : F.round = none) (Bt n₀ L B : Nat) (w0 : World) (hB0 : B ≤ n₀) (hnL : n₀ ≤ L) (es : List (Int × Int)) (sa : Option Addr) (sc : Nat) (hv : EdgesV w0 B es sa)
    (hes : ∀ e ∈ es, 0 ≤ e.1 ∧ e.1 ≤ 1114112 ∧ (e.2 = 1 ∨ e.2 = -1)) (hlen : es.length ≤ 4000000000000) (N : Nat) (hN : (spansL 0 0 es).length ≤ N)
    (w : World) (hbox : w.heap[Bt]? = some (.cells #[.slice sa es.length sc] 133 (0, 0))) (hb : Below n₀ w0 w) (hL : L ≤ w.heap.size) :
    SeqStopsK F n Tryz.prog 143 #[.pointer (some ⟨Bt, 0, none⟩)] (fun x : Span => #[.agg #[.int .i32 x.1.1.1, .int .i32 x.1.1.2], .int .i64 x.1.2]) (KpS n₀ L) (fun ys => ys.map (·.1) = spansL 0 0 es) (fun pre => pre.map (·.1) <+: spansL 0 0 es) N w := fun l J Jx W hW hJ _ hY h0 =>
  spans1_in F hd n h5 hro l Bt n₀ L B w0 hB0 hnL es sa sc hv hes hlen N hN J Jx (fun s A o hs => hJ s A _ none hs (World.grownBy_alloc A o none) (fun r e => by cases e)) hY W
    ((hW.block Bt (Array.getElem?_eq_some_iff.1 hbox).1).trans hbox) (hb.trans (hW.mono (by omega))) (Nat.le_trans hL hW.size) h0
end Go.Proofs.YtnhnldmldnhaoaaGreatDoor

namespace Go.Proofs.YtnhnldmldnhaoaaGreatDoor
open Go Go.RowKit Go.Proofs Go.Shelf

def flatR (rs : List (Int × Int)) : List Value := rs.flatMap fun r => [.int .i32 r.1, .int .i32 r.2]
theorem flatR_append (a b : List (Int × Int)) : flatR (a ++ b) = flatR a ++ flatR b := by simp [flatR]
theorem flatR_length (rs : List (Int × Int)) : (flatR rs).length = rs.length * 2 := by
  induction rs with
  | nil => rfl
  | cons x rs ih => rw [show flatR (x :: rs) = [.int .i32 x.1, .int .i32 x.2] ++ flatR rs by simp [flatR], List.length_append, ih]; simp; omega
theorem flatR_snoc1 (b : List (Int × Int)) (y : Int × Int) : (flatR (b ++ [y]))[b.length * 2 + 1]? = some (.int .i32 y.2) := by
  rw [flatR_append, List.getElem?_append_right (by rw [flatR_length]; omega), flatR_length, show b.length * 2 + 1 - b.length * 2 = 1 by omega]; simp [flatR]
theorem flatR_set (b : List (Int × Int)) (y : Int × Int) (h : Int) : (flatR (b ++ [y])).set (b.length * 2 + 1) (.int .i32 h) = flatR (b ++ [(y.1, h)]) := by
  rw [flatR_append, flatR_append, List.set_append_right _ _ (by rw [flatR_length]; omega), flatR_length, show b.length * 2 + 1 - b.length * 2 = 1 by omega]; simp [flatR]

theorem pushT_nil (x : Int × Int) : pushT [] x = [x] := rfl
theorem pushT_snoc (b : List (Int × Int)) (y x : Int × Int) : pushT (b ++ [y]) x = if y.2 + 1 = x.1 then b ++ [(y.1, x.2)] else b ++ [y] ++ [x] := by unfold pushT; simp
theorem pushT_length (out : List (Int × Int)) (x : Int × Int) : (pushT out x).length ≤ out.length + 1 := by
  rcases snoc_cases out with rfl | ⟨b, y, rfl⟩
  · simp [pushT_nil]
  · rw [pushT_snoc]; split <;> simp

/-- All ends of a list are runes. -/
def tops (out : List (Int × Int)) : Prop := ∀ r ∈ out, 0 ≤ r.2 ∧ r.2 ≤ 1114111
theorem tops_push {out : List (Int × Int)} {x : Int × Int} (h : tops out) (h0 : 0 ≤ x.2) (h1 : x.2 ≤ 1114111) : tops (pushT out x) := by
  rcases snoc_cases out with rfl | ⟨b, y, rfl⟩
  · rw [pushT_nil]; intro r hr; simp only [List.mem_cons, List.not_mem_nil, or_false] at hr; subst hr; exact ⟨h0, h1⟩
  · rw [pushT_snoc]
    split
    · intro r hr
      rcases List.mem_append.1 hr with hr | hr
      · exact h r (List.mem_append.2 (.inl hr))
      · simp only [List.mem_cons, List.not_mem_nil, or_false] at hr; subst hr; exact ⟨h0, h1⟩
    · intro r hr
      rcases List.mem_append.1 hr with hr | hr
      · exact h r hr
      · simp only [List.mem_cons, List.not_mem_nil, or_false] at hr; subst hr; exact ⟨h0, h1⟩

theorem infoRange : (Tryz.prog.info? 61).map (fun i => (i.zero, i.size, i.bytes)) = some (some (.agg #[.int .i32 0, .int .i32 0]), 2, 8) := by kernel_rfl

/-- A store into an owned row. -/
theorem ownsRow_setIn {w : World} {B : Nat} {e : TypeId} {size g n cap : Nat} {xs : List Value} (h : w.ownsRow B e size (.slice (some ⟨g, 0, none⟩) n cap) n xs) (j : Nat) (u : Value) :
    (w.setCell ⟨g, j, none⟩ u).ownsRow B e size (.slice (some ⟨g, 0, none⟩) n cap) n (xs.set j u) := by
  obtain ⟨h1, h2⟩ := h
  rcases h2 with ⟨h0, _⟩ | ⟨g', cap', cur, hv, hg, hh, hn, hcap, hsz, htake⟩
  · cases h0
  · cases hv
    refine ⟨by simpa using h1, .inr ⟨g, cap, cur.setIfInBounds j u, rfl, hg, ?_, hn, hcap, by simpa using hsz, ?_⟩⟩
    · simp [World.setCell, Array.getElem?_modify, hh]
    · rw [← htake, Array.toList_setIfInBounds, List.take_set]

/-- What a round keeps for the loop's law. -/
structure StS (n₀ L : Nat) (W W' : World) : Prop where
  keeps : KeepsOthers W W'
  kp : KpS n₀ L W W'
theorem StS.trans {n₀ L : Nat} {a b c : World} (h : StS n₀ L a b) (k : StS n₀ L b c) : StS n₀ L a c := ⟨h.keeps.trans k.keeps, h.kp.trans k.kp⟩
theorem StS.below {n₀ L : Nat} {W W' : World} (hb : Below W.heap.size W W') (hn : n₀ ≤ W.heap.size) : StS n₀ L W W' :=
  ⟨KeepsOthers.of_grownBy (grownBy_below hb none) (fun j o e => by cases e), hb.mono hn, fun b _ _ _ ho => hb.block b (Array.getElem?_eq_some_iff.1 ho).1⟩
theorem StS.own {n₀ L B : Nat} {W W' : World} {v : Value} {n : Nat} {xs : List Value} (ho : W.ownsRow B 61 2 v n xs) (hB : n₀ ≤ B) (hn : n₀ ≤ W.heap.size) (hg : W.grownBy W' v.ownBlock) : StS n₀ L W W' := by
  have hcell : ∀ j, v.ownBlock = some j → ∃ c fz, W.heap[j]? = some (.cells c 61 fz) ∧ B ≤ j := by
    intro j hj
    rcases ho.2 with ⟨rfl, _⟩ | ⟨g, cap, cur, rfl, hb, hh, _⟩
    · cases hj
    · obtain rfl : g = j := by simpa [Value.ownBlock] using hj
      exact ⟨_, _, hh, hb⟩
  refine ⟨KeepsOthers.of_grownBy hg (fun j o e h => ?_), below_of_grownBy hg hn (fun k e => ?_), fun b _ cs z h => hg.block b (Array.getElem?_eq_some_iff.1 h).1 (fun e => ?_)⟩
  · obtain ⟨c, fz, hc, _⟩ := hcell j e
    rw [hc] at h; cases h; rfl
  · obtain ⟨_, _, _, h⟩ := hcell k e; omega
  · obtain ⟨c, fz, hc, _⟩ := hcell b e.symm
    rw [hc] at h; cases h
theorem StS.box {n₀ L b : Nat} {W : World} {v u : Value} (h : Boxed W b 26 v) (hn : n₀ ≤ W.heap.size) (h0 : n₀ ≤ b) : StS n₀ L W (W.setCell ⟨b, 0, none⟩ u) :=
  ⟨KeepsOthers.setCell _ _ _, below_of_grownBy (grownBy_setCell W b 0 u) hn (fun k e => by cases e; exact h0), fun c _ cs z hc => Below.heap_setCell W _ _ c (fun e => by
    have e : c = b := e
    subst e
    have h' : W.heap[c]? = some (.cells #[v] 26 (0, 0)) := h
    rw [h'] at hc; cases hc)⟩

theorem cell_two_new (w : World) (a b : Value) (t : TypeId) : ∀ j u, [a, b][j]? = some u → (w.alloc (.cells #[a, b] t)).cell? ((⟨w.heap.size, 0, none⟩ : Addr).add j) = some u := by
  intro j u hj
  match j, hj with
  | 0, hj => simp at hj; subst hj; simp [Addr.add]
  | 1, hj => simp at hj; subst hj; simp [Addr.add]
  | j + 2, hj => simp at hj

/-- What the loop of those keeps. -/
structure TI (w : World) (b : Nat) (fv : Value) (out : List (Int × Int)) (k : Nat) (L : Nat) (v : Value) (W : World) : Prop where
  box : Boxed W (b + 1) 26 v
  fn : Boxed W b 112 fv
  row : W.ownsRow w.heap.size 61 2 v out.length (flatR out)
  len : out.length ≤ k
  top : tops out
  below : Below w.heap.size w W
  size : L ≤ W.heap.size
theorem TI.kept {w : World} {b k L : Nat} {fv : Value} {out : List (Int × Int)} {v : Value} {W W' : World} (h : TI w b fv out k L v W) (hb : Below W.heap.size W W') : TI w b fv out k L v W' :=
  ⟨h.box.kept (grownBy_below hb none) (by simp), h.fn.kept (grownBy_below hb none) (by simp), h.row.kept (grownBy_below hb none) (by cases v.ownBlock <;> simp), h.len, h.top, h.below.trans (hb.mono h.below.size), Nat.le_trans h.size hb.size⟩

/-- A stretch put behind the others. -/
theorem TI.pushed {w : World} {k : Nat} {fv : Value} {out : List (Int × Int)} {v v' : Value} {W w4 : World} {lo hx : Int} {tmp : Obj} (h : TI w w.heap.size fv out k (w.heap.size + 1 + 1 + 1) v W) (h0 : 0 ≤ hx) (h1 : hx ≤ 1114111) (hp : pushT out (lo, hx) = out ++ [(lo, hx)])
    (hown' : w4.ownsRow w.heap.size 61 2 v' (out.length + 1) (flatR out ++ [.int .i32 lo, .int .i32 hx])) (hgrow : (W.alloc tmp).grownBy w4 v.ownBlock) :
    TI w w.heap.size fv (pushT out (lo, hx)) (k + 1) (w.heap.size + 1 + 1 + 1) v' (w4.setCell ⟨w.heap.size + 1, 0, none⟩ v') ∧ StS w.heap.size (w.heap.size + 1 + 1 + 1) W (w4.setCell ⟨w.heap.size + 1, 0, none⟩ v') := by
  have hs := h.below.size
  obtain ⟨hv1, hv2, hr2, hk2, hb2⟩ := h.box.appended (by decide) h.row hs (by omega) hown' hgrow
  have hs4 := hgrow.size
  simp only [World.size_alloc] at hs4
  refine ⟨⟨hv2, ?_, ?_, ?_, tops_push h.top h0 h1, h.below.trans hb2, ?_⟩, ?_⟩
  · exact ((h.fn.alloc tmp).kept hgrow ((h.fn.alloc tmp).not_row (by decide) (h.row.alloc tmp))).other (by omega) _
  · rw [hp, List.length_append, flatR_append]; exact hr2
  · rw [hp, List.length_append]; have := h.len; simp; omega
  · have := h.size; simp [World.setCell]; omega
  · exact (StS.below ((Below.refl _ W).alloc (Nat.le_refl _) tmp) hs).trans ((StS.own (h.row.alloc tmp) (Nat.le_refl _) (by simp; omega) hgrow).trans (StS.box hv1 (by omega) (by omega)))

/-- A stretch joined to the last. -/
theorem TI.joined {w : World} {k : Nat} {fv : Value} {b : List (Int × Int)} {y1 y2 : Int} {g vc : Nat} {W : World} {lo hx : Int} (h : TI w w.heap.size fv (b ++ [(y1, y2)]) k (w.heap.size + 1 + 1 + 1) (.slice (some ⟨g, 0, none⟩) (b ++ [(y1, y2)]).length vc) W) (h0 : 0 ≤ hx) (h1 : hx ≤ 1114111) (hy : y2 + 1 = lo) :
    TI w w.heap.size fv (pushT (b ++ [(y1, y2)]) (lo, hx)) (k + 1) (w.heap.size + 1 + 1 + 1) (.slice (some ⟨g, 0, none⟩) (b ++ [(y1, y2)]).length vc) (W.setCell ⟨g, b.length * 2 + 1, none⟩ (.int .i32 hx)) ∧ StS w.heap.size (w.heap.size + 1 + 1 + 1) W (W.setCell ⟨g, b.length * 2 + 1, none⟩ (.int .i32 hx)) := by
  have hs := h.below.size
  have hg := grownBy_setCell W g (b.length * 2 + 1) (.int .i32 hx)
  have hp : pushT (b ++ [(y1, y2)]) (lo, hx) = b ++ [(y1, hx)] := by rw [pushT_snoc, if_pos hy]
  have hr := ownsRow_setIn h.row (b.length * 2 + 1) (.int .i32 hx)
  rw [flatR_set] at hr
  have hst : StS w.heap.size (w.heap.size + 1 + 1 + 1) W (W.setCell ⟨g, b.length * 2 + 1, none⟩ (.int .i32 hx)) := StS.own h.row (Nat.le_refl _) hs hg
  refine ⟨⟨h.box.kept hg (h.box.not_row (by decide) h.row), h.fn.kept hg (h.fn.not_row (by decide) h.row), ?_, ?_, tops_push h.top h0 h1, h.below.trans hst.kp.1, ?_⟩, hst⟩
  · rw [hp]; simpa using hr
  · rw [hp]; have := h.len; simp at this ⊢; omega
  · have := h.size; simp [World.setCell]; omega
end Go.Proofs.YtnhnldmldnhaoaaGreatDoor

namespace Go.Proofs.YtnhnldmldnhaoaaGreatDoor
open Go Go.RowKit Go.Proofs

section
variable {F : Fence} {n : Nat} {P : Program} {ops : Array Oper} {Q : Exit → Act → World → Prop} {md : Region.Mode}

def noDefer (o : Oper) : Bool := match o.op with | .defer _ => false | _ => true
theorem noDefer_ne {o : Oper} (h : noDefer o = true) : ∀ c, o.op ≠ .defer c := by
  intro c e
  simp [noDefer, e] at h

theorem wpIn_inRound_op (l : Nat) {o : Oper} (hd : noDefer o = true) {a : Act} {w : World} {K : Act → World → Prop} (h : o.wpIn F n P a w K Q) : o.wpIn (F.inRound l) n P a w K Q := by
  unfold Oper.wpIn at h ⊢
  refine ⟨h.1, ?_⟩
  have h2 := h.2
  rw [Oper.semAt_plain _ _ _ (noDefer_ne hd)] at h2 ⊢
  exact h2

theorem wpOpIn_inRound (l : Nat) (hd : ∀ (i : Nat) (o : Oper), ops[i]? = some o → noDefer o = true) {i : Nat} {a : Act} {w : World} {K K' : Act → World → Prop} (hK : ∀ a w, K a w → K' a w) (h : wpOpIn F n P ops Q i K a w) : wpOpIn (F.inRound l) n P ops Q i K' a w := by
  have h := wpOpIn_mono hK h
  unfold wpOpIn at h ⊢
  split
  · simpa [*] using h
  · rename_i o ho
    simp only [ho] at h
    split
    · rename_i hw; simp only [hw, if_true] at h; exact wpIn_inRound_op l (hd i o ho) h
    · rename_i hw; simp only [hw] at h; exact ⟨h.1, h.2⟩

theorem wpAnyIn_inRound (l : Nat) (hd : ∀ (i : Nat) (o : Oper), ops[i]? = some o → noDefer o = true) : ∀ (fuel : Nat) (listed : Array Bool) (a : Act) (w : World), wpAnyIn F n P md ops Q fuel listed a w → wpAnyIn (F.inRound l) n P md ops Q fuel listed a w
  | 0, _, _, _, h => h
  | fuel + 1, _, _, _, h => ⟨h.1, fun i hi => wpOpIn_inRound l hd (fun a w h => wpAnyIn_inRound l hd fuel _ a w h) (h.2 i hi)⟩

theorem wpIn_region_quiet_round (lr : Nat) {id : Nat} {a : Act} {w : World} {l : List Oper} (hro : F.round = none) (hm : P.follows .mixedOrders = true) (hB : Region.lexB .any l.toArray = true) (hd : l.all noDefer = true)
    (h : wpQuietIn F n P l.toArray (fun w' => ∃ n, w' = w.drewN n) (fun a' => ∀ w', (∃ n, w' = w.drewN n) → Q .normal a' w') l a) : (Code.region id l.toArray true).wpIn (F.inRound lr) n P Q a w := by
  have hB' := hB
  simp only [Region.lexB, Bool.and_eq_true] at hB
  refine wpIn_region_any hm (wpAnyIn_inRound lr (fun i o ho => ?_) _ _ _ _ (wpAnyIn_of_quiet (C := fun w' => ∃ n, w' = w.drewN n) (Q := fun a' => ∀ w', (∃ n, w' = w.drewN n) → Q .normal a' w') hro (fun _ w' hw' h => h w' hw') _ _ _ _ ⟨1, rfl⟩ ?_))
  · rw [List.all_eq_true] at hd
    exact hd o (by rw [List.getElem?_toArray] at ho; exact List.mem_of_getElem? ho)
  · have := wpAnyQIn_lex (F := F) (n := n) (C := fun w' => ∃ n, w' = w.drewN n) (md := .any) hB.1 l.toArray.toList 0 (Array.replicate l.toArray.size false) a (by simp) (by simpa using hB.2) (by simpa using h)
    simpa using this
end
end Go.Proofs.YtnhnldmldnhaoaaGreatDoor
