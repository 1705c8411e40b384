/- The reader of patterns: atoms, one behind the other. -/
import Derived.Test.YtnhnldmldnhaoaaGreatDoorDSyOpen
import Derived.Test.YtnhnldmldnhaoaaGreatDoorDSyRepeat
import Derived.Test.YtnhnldmldnhaoaaGreatDoorDSynLen
import Derived.ArgAppend
import Derived.Deep.RegionLaw
namespace Go.Proofs.YtnhnldmldnhaoaaGreatDoor
open Go Go.RowKit Go.Proofs Go.Shelf

/-- The place that the reader's block holds. -/
def placeS (b : Nat) (w : World) : Nat := (intOf ((w.cell? ⟨b, 2, none⟩).getD (.int .i64 0))).toNat
theorem placeS_r {w : World} {b : Nat} {s : ByteArray} {f : Int} {p : Nat} {nv : Value} (h : SyR w b s f p nv) : placeS b w = p := by
  unfold placeS
  rw [Blk.cell h (j := 2) rfl]
  simp [intOf]
/-- The frame of a part, laid. -/
structure PartAt (w W : World) (b lo : Nat) (s : ByteArray) (nv0 nv : Value) (st : St) (ts : List T) (l : Value) (xs : List Value) : Prop where
  L : Left w W b lo s nv0 st nv
  k : Blk W w.heap.size zero10 29
  r : RowF W (w.heap.size + 1) (fun k => nv.ownBlock = some k) ts l xs
  n : nv.ownBlock ≠ some w.heap.size
  m : ts.length ≤ st.p
theorem PartAt.z {w W : World} {b lo : Nat} {s : ByteArray} {nv0 nv : Value} {st : St} {ts : List T} {l : Value} {xs : List Value} (h : PartAt w W b lo s nv0 nv st ts l xs) : w.heap.size + 1 ≤ W.heap.size := h.k.lt
theorem PartAt.below {w W W' : World} {b lo : Nat} {s : ByteArray} {nv0 nv : Value} {st : St} {ts : List T} {l : Value} {xs : List Value} (h : PartAt w W b lo s nv0 nv st ts l xs) (hB : Below W.heap.size W W') : PartAt w W' b lo s nv0 nv st ts l xs :=
  ⟨h.L.below hB, Blk.below h.k hB h.k.lt, h.r.below hB, h.n, h.m⟩
theorem PartAt.grown {w W W' : World} {b lo : Nat} {s : ByteArray} {nv0 nv : Value} {st st' : St} {ts : List T} {l : Value} {xs : List Value} (h : PartAt w W b lo s nv0 nv st ts l xs) (hb : b < w.heap.size) (hr : SyR W' b s st'.f st'.p nv) (hG : W.grownBy W' (some b)) (hns : st'.ns = st.ns) (hp : st'.p ≤ s.size) (hd : Bd s st'.p) (hle : st.p ≤ st'.p) : PartAt w W' b lo s nv0 nv st' ts l xs :=
  ⟨h.L.grown hr hG hns hp hd (by have := h.L.i.m; rw [hns]; omega), h.k.grown hG (ne_some (by omega)), h.r.keep hG.size (fun k hk _ ha => ⟨hG.block k (by assumption) (ne_some (by omega)), ha⟩), h.n, by have := h.m; omega⟩
theorem PartAt.form {w W : World} {b lo : Nat} {s : ByteArray} {nv0 nv : Value} {st : St} {ts : List T} {l : Value} {xs : List Value} (h : PartAt w W b lo s nv0 nv st ts l xs) (hs : s.size ≤ 100000000) : ∃ a c, l = .slice a ts.length c ∧ KidsS W (fun k => (w.heap.size + 1 ≤ k ∧ k < W.heap.size ∧ ¬ nv.ownBlock = some k)) ts a ts.length c :=
  (h.r.2.1.turned (ok' := fun k => (w.heap.size + 1 ≤ k ∧ k < W.heap.size ∧ ¬ nv.ownBlock = some k)) (fun _ _ => rfl) (fun _ hk => hk.1)).slice h.r.1 (fun g hg => ⟨(h.r.1.lt g hg).1, (h.r.1.lt g hg).2, h.r.2.2 g hg⟩) (by have := h.m; have := h.L.i.p; omega)
theorem cells_own {w : World} {base : Nat} {e : TypeId} {sz n cap g : Nat} {xs : List Value} (h : w.ownsRow base e sz (.slice (some ⟨g, 0, none⟩) n cap) n xs) : ∀ j u, xs[j]? = some u → w.cell? ((⟨g, 0, none⟩ : Addr).add j) = some u := by
  intro j u hj
  have e2 : (⟨g, 0, none⟩ : Addr).add j = ⟨g, j, none⟩ := by unfold Addr.add; split <;> simp_all
  rw [e2, ← hj]
  have := ownsRow_at h j (List.getElem?_eq_some_iff.1 hj).1
  rw [Nat.zero_add] at this
  exact this
theorem PartAt.read {w W W' : World} {b lo : Nat} {s : ByteArray} {nv0 nv nv1 : Value} {st st1 : St} {ts : List T} {l : Value} {xs : List Value} (h : PartAt w W b lo s nv0 nv st ts l xs) (hb : b < w.heap.size) (hL : Left W W' b lo s nv st1 nv1) (hle : st.p ≤ st1.p) : PartAt w W' b lo s nv0 nv1 st1 ts l xs := by
  have hz := h.z
  refine ⟨h.L.trans hL, h.k.grownF hL.g (by rintro (h2 | h2); omega; exact h.n h2), h.r.keep hL.g.size (fun k hk hk2 ha => ⟨hL.g.block k hk2 (by rintro (h2 | h2); omega; exact ha h2), fun e => ?_⟩), fun e => ?_, by have := h.m; omega⟩
  · rcases hL.v k e with h2 | h2
    · exact ha h2
    · omega
  · rcases hL.v _ e with h2 | h2
    · exact h.n h2
    · omega
/-- Trees put behind. -/
theorem PartAt.push {w W W' : World} {b lo : Nat} {s : ByteArray} {nv0 nv : Value} {st : St} {ts us : List T} {l l' : Value} {xs ys : List Value} (h : PartAt w W b lo s nv0 nv st ts l xs) (hb : b < w.heap.size) (hl : lo ≤ w.heap.size)
    (hu : TreesF W (fun k => (w.heap.size + 1 ≤ k ∧ k < W.heap.size ∧ ¬ nv.ownBlock = some k) ∧ l.ownBlock ≠ some k) us ys) (ho : W'.ownsRow (w.heap.size + 1) 29 10 l' (ts.length + us.length) (xs ++ ys)) (hg : W.grownBy W' l.ownBlock) (hat : l'.ownBlock = l.ownBlock ∨ l'.ownBlock = some W.heap.size) (hm : (ts ++ us).length ≤ st.p) :
    PartAt w W' b lo s nv0 nv st (ts ++ us) l' (xs ++ ys) :=
  ⟨h.L.newrow hg hb hl (fun k e => ⟨by have := (h.r.1.lt k e).1; omega, h.r.2.2 k e⟩), h.k.grown hg (fun e => by have := (h.r.1.lt _ e.symm).1; omega), h.r.push hu ho hg hat (fun e => by have := (h.L.i.o.lt _ e).2; omega), h.n, hm⟩
/-- The last tree of a part's, put anew. -/
theorem PartAt.swap {w W W' : World} {b lo : Nat} {s : ByteArray} {nv0 nv : Value} {st : St} {ts' : List T} {k t : T} {l v' : Value} {xs ys cs : List Value} (h : PartAt w W b lo s nv0 nv st (ts' ++ [k]) l xs)
    (hTy : TreesF W (fun j => w.heap.size + 1 ≤ j ∧ j < W.heap.size ∧ ¬ nv.ownBlock = some j) ts' ys) (ht : TreeF W (fun j => w.heap.size + 1 ≤ j ∧ j < W.heap.size ∧ ¬ nv.ownBlock = some j) t cs)
    (ho : W'.ownsRow W.heap.size 29 10 v' (ts'.length + 1) (ys ++ cs)) (hg : W.grownBy W' none) : PartAt w W' b lo s nv0 nv st (ts' ++ [t]) v' (ys ++ cs) := by
  have hz := h.z
  have hB := below_grownBy hg
  have hlt := ho.lt
  have key : ∀ j, (w.heap.size + 1 ≤ j ∧ j < W.heap.size ∧ ¬ nv.ownBlock = some j) → (w.heap.size + 1 ≤ j ∧ j < W'.heap.size ∧ ¬ nv.ownBlock = some j) ∧ v'.ownBlock ≠ some j := fun j hj =>
    ⟨⟨hj.1, Nat.lt_of_lt_of_le hj.2.1 hB.size, hj.2.2⟩, fun e => by have := (hlt j e).1; omega⟩
  refine ⟨h.L.below hB, Blk.below h.k hB h.k.lt, ⟨?_, ?_, ?_⟩, h.n, ?_⟩
  · rw [List.length_append, List.length_singleton]
    exact Joins.ownsRow_le ho hz
  · exact (hTy.turned (fun j hj => hB.block j hj.2.1) key).append (TreesF.single (ht.turned (fun j hj => hB.block j hj.2.1) key))
  · intro j hj e
    have h1 := (hlt j hj).1
    have h2 := (h.L.i.o.lt j e).2
    omega
  · have := h.m
    simpa using this
theorem row_front {w : World} {base : Nat} {e : TypeId} {n c g : Nat} {ys cs : List Value} (h : w.ownsRow base e 10 (.slice (some ⟨g, 0, none⟩) n c) n (ys ++ cs)) (o : Obj) : RowAt (w.alloc o) g 0 ys := by
  have hlt := (h.lt g rfl).2
  have h1 := ownsRow_at h
  intro j hj
  have h2 := h1 j (by rw [List.length_append]; omega)
  rw [List.getElem?_append_left hj] at h2
  rw [← h2]
  exact World.cell?_of_block (w := w) (Below.heap_alloc w o g hlt)
/-- A slice of trees cut to its length, one put behind. -/
theorem run_append_cut (W : World) (ty : TypeId) (g n a : Nat) (ys cs : List Value) (hyl : ys.length = n * 10) (hcl : cs.length = 10) (hy : RowAt W g 0 ys) (hc : ∀ j u, cs[j]? = some u → W.cell? ((⟨a, 0, none⟩ : Addr).add j) = some u) (hn : n ≤ 100000000) :
    ∃ v' W', (Builtin.append_ #[25, 25] ty #[.slice (some ⟨g, 0, none⟩) n n, .slice (some ⟨a, 0, none⟩) 1 1]).run Tryz.prog W = .ok v' W' ∧ W'.ownsRow W.heap.size 29 10 v' (n + 1) (ys ++ cs) ∧ W.grownBy W' none := by
  obtain ⟨i0, hi, hz0, hz1, hz2⟩ := info_parts infoTree
  exact run_append_arg_grows (P := Tryz.prog) W 25 ty 29 i0 _ 10 120 Tryz.underlying25 hi hz0 hz1 hz2 rfl (by decide) ⟨g, 0, none⟩ n n ys hyl (fun j u hj => by
    have e2 : (⟨g, 0, none⟩ : Addr).add j = ⟨g, j, none⟩ := by unfold Addr.add; split <;> simp_all
    have h1 := hy j (List.getElem?_eq_some_iff.1 hj).1
    rw [Nat.zero_add, hj] at h1
    rw [e2]; exact h1) ⟨a, 0, none⟩ 1 1 cs (by rw [hcl]) hc (by omega) (by unfold maxLen; omega) (by omega)
theorem step_append_cut {ops : Array Oper} {o : Oper} {a : Act} {W : World} {K : Act → World → Prop} {Q : Exit → Act → World → Prop} {E : Prop} (hgd : o.guard = none) (s x : Operand) (hop : o.op = Op.call { callee := Callee.builtin Builtin.append, args := #[s, x], argTypes := #[25, 25] })
    (g n m : Nat) (ys cs : List Value) (hs : a.eval s = .slice (some ⟨g, 0, none⟩) n n) (hx : a.eval x = .slice (some ⟨m, 0, none⟩) 1 1) (hyl : ys.length = n * 10) (hcl : cs.length = 10) (hy : RowAt W g 0 ys) (hc : ∀ j u, cs[j]? = some u → W.cell? ((⟨m, 0, none⟩ : Addr).add j) = some u) (hn : n ≤ 100000000)
    (hK : ∀ v' W', W'.ownsRow W.heap.size 29 10 v' (n + 1) (ys ++ cs) → W.grownBy W' none → K (a.put o.dst v') W') :
    if Region.wanted o (yielded ops a.tmps) = true then Oper.wp Tryz.prog o a W K Q else E := by
  have hw : Region.wanted o (yielded ops a.tmps) = true := by simp [Region.wanted, hgd]
  rw [if_pos hw]
  obtain ⟨v', w', hrun, r1, r2⟩ := run_append_cut W o.type g n m ys cs hyl hcl hy hc hn
  unfold Oper.wp
  simp [execOp, hop, resolve, invoke, builtin, hs, hx, hrun, Result.andThen]
  exact hK v' w' r1 r2
/-- A part's frame at a panic. -/
def PartQ (w : World) (b : Nat) (nv0 : Value) (x a d : Int) : Exit → Act → World → Prop
  | .panic c, f, W => c = [{ v := .iface 32 (synV x a d), recovered := false }] ∧ f.defers = [] ∧ GrownF (Mine b nv0) w W
  | _, _, _ => False
theorem PartQ.put {w W : World} {b : Nat} {nv0 : Value} {x a d : Int} {c : List PanicEntry} {f : Act} {t : Option Tmp} {v : Value} (h : PartQ w b nv0 x a d (.panic c) (f.put t v) W) : PartQ w b nv0 x a d (.panic c) f W := by
  cases t <;> exact h
set_option maxRecDepth 100000 in
set_option maxHeartbeats 16000000 in
theorem syn_part (s : ByteArray) (N : Nat) (hs : s.size ≤ 100000000) (hA : ∀ n, n < N → AtomsC s n) : PartC s N := by
  intro b lo st0 nv0 w h hN
  obtain ⟨i0, hi, hz0, hz1, hz2⟩ := info_parts infoTree
  have hb := h.r.lt
  have hl := h.e.le
  obtain ⟨R, hR⟩ : ∃ R, R = partP s N st0 [] := ⟨_, rfl⟩
  rw [← hR]
  have P0 := Lib.hid (show PartAt w (w.alloc (.cells zero10.toArray 29)) b lo s nv0 nv0 st0 [] (.slice none 0 0) [] from
    ⟨h.below ((Below.refl _ w).alloc (Nat.le_refl _) _), Blk.new w zero10 29, RowF.nil _ _ _, fun e => by have := (h.o.lt _ e).2; omega, Nat.zero_le _⟩)
  have HA := Lib.hid hA; have HR := Lib.hid hR; have HN := Lib.hid hN
  clear h hA hR hN
  go_enter Tryz.func47, Tryz.ntmps47
  go_wp2_with fail
  go_loopw [3] (fun lv wr => ∃ (n : Nat) (st : St) (nv : Value) (ts : List T) (xs : List Value), PartAt w wr b lo s nv0 nv st ts lv xs ∧ partP s n st ts = R ∧ 8 * (s.size - st.p) + 3 ≤ n ∧ n ≤ N) (fun _ wr => s.size - placeS b wr)
  case atStart => exact ⟨N, st0, nv0, [], [], P0.out, HR.out.symm, HN.out, Nat.le_refl _⟩
  case round =>
    obtain ⟨n, st, nv, ts, xs, hP, hr, hn, hnN⟩ := hrel
    obtain ⟨la, lc, rfl, hK⟩ := hP.form hs
    obtain ⟨n, rfl⟩ : ∃ m, n = m + 1 := ⟨n - 1, by omega⟩
    have PP := Lib.hid hP; have HRR := Lib.hid hr
    have HKK := Lib.hid hK
    clear hP hr hK
    go_wp2_with fail
    refine (syn_next b s st.f st.p nv _ PP.out.L.i.r PP.out.L.i.e.t PP.out.L.i.p).mono ?_
    rintro e w1 ⟨rfl, hR1, hB⟩
    have P1 := Lib.hid (PP.out.below hB)
    have K1 := Lib.hid (HKK.out.turned (ok' := fun k => w.heap.size + 1 ≤ k ∧ k < w1.heap.size ∧ ¬ nv.ownBlock = some k) (fun k hk => hB.block k hk.2.1) (fun k hk => ⟨hk.1, Nat.lt_of_lt_of_le hk.2.1 hB.size, hk.2.2⟩))
    clear hR1 hB
    obtain ⟨C, hC⟩ : ∃ C, C = nextC s st.p := ⟨_, rfl⟩
    rw [← hC]
    have HC := Lib.hid hC; clear hC
    by_cases hend : C = -1 ∨ C = 124 ∨ C = 41
    · have hRe : R = .ok (catT ts) st := by rw [← HRR.out]; unfold partP; rw [if_pos (by rw [← HC.out]; exact hend)]
      subst hRe
      have fin : ∀ (W : World) (cs : List Value), TreeF W (fun k => w.heap.size + 1 ≤ k ∧ k < w1.heap.size ∧ ¬ nv.ownBlock = some k) (catT ts) cs → Below w1.heap.size w1 W → ∀ (op : Int) (ka : Option Addr) (kn kc : Nat) (rune : Int) (xa : Option Addr) (xn xc : Nat) (pl cap : Int) (name : ByteArray) (mn mx : Int) (lz : Bool), cs = [.int .i64 op, .slice ka kn kc, .int .i32 rune, .slice xa xn xc, .int .i64 pl, .int .i64 cap, .string name, .int .i64 mn, .int .i64 mx, .bool lz] →
          TreeOut w b lo s nv0 (.ok (catT ts) st) (.returned (.agg #[.int .i64 op, .slice ka kn kc, .int .i32 rune, .slice xa xn xc, .int .i64 pl, .int .i64 cap, .string name, .int .i64 mn, .int .i64 mx, .bool lz])) (World.set10 W w.heap.size (.int .i64 op) (.slice ka kn kc) (.int .i32 rune) (.slice xa xn xc) (.int .i64 pl) (.int .i64 cap) (.string name) (.int .i64 mn) (.int .i64 mx) (.bool lz)) := by
        intro W cs hT hB op ka kn kc rune xa xn xc pl cap name mn mx lz e
        subst e
        refine ⟨_, nv, rfl, ?_, (P1.out.L.below hB).new10 (Nat.le_refl _) hb hl P1.out.n _ _ _ _ _ _ _ _ _ _⟩
        have hz : (World.set10 W w.heap.size (.int .i64 op) (.slice ka kn kc) (.int .i32 rune) (.slice xa xn xc) (.int .i64 pl) (.int .i64 cap) (.string name) (.int .i64 mn) (.int .i64 mx) (.bool lz)).heap.size = W.heap.size := by simp [World.set10, World.setCell]
        exact hT.turned (fun k hk => set10_block _ _ _ _ _ _ _ _ _ _ _ _ k (by have := hk.1; omega)) (fun k hk => ⟨⟨by have := hk.1; omega, by rw [hz]; have := hk.2.1; have := hB.size; omega⟩, hk.2.2⟩)
      have FIN := Lib.hid fin; clear fin
      rcases hend with h1 | h1 | h1
      · have m1 : (C == -1) = true := by rw [h1]; rfl
        clear h1
        go_wp2_with fail
        refine (syn_cat ts la _ lc _ w1 K1.out (fun k hk => hk.2.1)).mono ?_
        rintro e w2 ⟨cs, rfl, hT, hB⟩
        obtain ⟨op, ka, kn, kc, rune, xa, xn, xc, pl, cap, name, mn, mx, lz, rfl⟩ := hT.form
        have K2 := Lib.hid (Blk.below P1.out.k hB P1.out.k.lt)
        have F2 := Lib.hid (FIN.out w2 _ hT hB op ka kn kc rune xa xn xc pl cap name mn mx lz rfl)
        clear hT hB
        obtain ⟨c0, c1, c2, c3, c4, c5, c6, c7, c8, c9, f0, f1, f2, f3, f4, f5, f6, f7, f8, f9⟩ := K2.out.ten
        go_wp2_with fail
        change bodyPost _ _ _ _ _ (World.set10 w2 w.heap.size (.int .i64 op) (.slice ka kn kc) (.int .i32 rune) (.slice xa xn xc) (.int .i64 pl) (.int .i64 cap) (.string name) (.int .i64 mn) (.int .i64 mx) (.bool lz))
        have O := K2.out.set10 (.int .i64 op) (.slice ka kn kc) (.int .i32 rune) (.slice xa xn xc) (.int .i64 pl) (.int .i64 cap) (.string name) (.int .i64 mn) (.int .i64 mx) (.bool lz)
        obtain ⟨d0, d1, d2, d3, d4, d5, d6, d7, d8, d9, _, _, _, _, _, _, _, _, _, _⟩ := O.ten
        refine ⟨rfl, .agg #[.int .i64 op, .slice ka kn kc, .int .i32 rune, .slice xa xn xc, .int .i64 pl, .int .i64 cap, .string name, .int .i64 mn, .int .i64 mx, .bool lz], ?_, F2.out⟩
        simp [results, Tryz.results47, go_sem, d0, d1, d2, d3, d4, d5, d6, d7, d8, d9]
      · have m1 : (C == -1) = false := by rw [h1]; rfl
        have m2 : (C == 124) = true := by rw [h1]; rfl
        clear h1
        go_wp2_with fail
        refine (syn_cat ts la _ lc _ w1 K1.out (fun k hk => hk.2.1)).mono ?_
        rintro e w2 ⟨cs, rfl, hT, hB⟩
        obtain ⟨op, ka, kn, kc, rune, xa, xn, xc, pl, cap, name, mn, mx, lz, rfl⟩ := hT.form
        have K2 := Lib.hid (Blk.below P1.out.k hB P1.out.k.lt)
        have F2 := Lib.hid (FIN.out w2 _ hT hB op ka kn kc rune xa xn xc pl cap name mn mx lz rfl)
        clear hT hB
        obtain ⟨c0, c1, c2, c3, c4, c5, c6, c7, c8, c9, f0, f1, f2, f3, f4, f5, f6, f7, f8, f9⟩ := K2.out.ten
        go_wp2_with fail
        change bodyPost _ _ _ _ _ (World.set10 w2 w.heap.size (.int .i64 op) (.slice ka kn kc) (.int .i32 rune) (.slice xa xn xc) (.int .i64 pl) (.int .i64 cap) (.string name) (.int .i64 mn) (.int .i64 mx) (.bool lz))
        have O := K2.out.set10 (.int .i64 op) (.slice ka kn kc) (.int .i32 rune) (.slice xa xn xc) (.int .i64 pl) (.int .i64 cap) (.string name) (.int .i64 mn) (.int .i64 mx) (.bool lz)
        obtain ⟨d0, d1, d2, d3, d4, d5, d6, d7, d8, d9, _, _, _, _, _, _, _, _, _, _⟩ := O.ten
        refine ⟨rfl, .agg #[.int .i64 op, .slice ka kn kc, .int .i32 rune, .slice xa xn xc, .int .i64 pl, .int .i64 cap, .string name, .int .i64 mn, .int .i64 mx, .bool lz], ?_, F2.out⟩
        simp [results, Tryz.results47, go_sem, d0, d1, d2, d3, d4, d5, d6, d7, d8, d9]
      · have m1 : (C == -1) = false := by rw [h1]; rfl
        have m2 : (C == 124) = false := by rw [h1]; rfl
        have m3 : (C == 41) = true := by rw [h1]; rfl
        clear h1
        go_wp2_with fail
        refine (syn_cat ts la _ lc _ w1 K1.out (fun k hk => hk.2.1)).mono ?_
        rintro e w2 ⟨cs, rfl, hT, hB⟩
        obtain ⟨op, ka, kn, kc, rune, xa, xn, xc, pl, cap, name, mn, mx, lz, rfl⟩ := hT.form
        have K2 := Lib.hid (Blk.below P1.out.k hB P1.out.k.lt)
        have F2 := Lib.hid (FIN.out w2 _ hT hB op ka kn kc rune xa xn xc pl cap name mn mx lz rfl)
        clear hT hB
        obtain ⟨c0, c1, c2, c3, c4, c5, c6, c7, c8, c9, f0, f1, f2, f3, f4, f5, f6, f7, f8, f9⟩ := K2.out.ten
        go_wp2_with fail
        change bodyPost _ _ _ _ _ (World.set10 w2 w.heap.size (.int .i64 op) (.slice ka kn kc) (.int .i32 rune) (.slice xa xn xc) (.int .i64 pl) (.int .i64 cap) (.string name) (.int .i64 mn) (.int .i64 mx) (.bool lz))
        have O := K2.out.set10 (.int .i64 op) (.slice ka kn kc) (.int .i32 rune) (.slice xa xn xc) (.int .i64 pl) (.int .i64 cap) (.string name) (.int .i64 mn) (.int .i64 mx) (.bool lz)
        obtain ⟨d0, d1, d2, d3, d4, d5, d6, d7, d8, d9, _, _, _, _, _, _, _, _, _, _⟩ := O.ten
        refine ⟨rfl, .agg #[.int .i64 op, .slice ka kn kc, .int .i32 rune, .slice xa xn xc, .int .i64 pl, .int .i64 cap, .string name, .int .i64 mn, .int .i64 mx, .bool lz], ?_, F2.out⟩
        simp [results, Tryz.results47, go_sem, d0, d1, d2, d3, d4, d5, d6, d7, d8, d9]
    · have m1 : (C == -1) = false := by simp only [beq_eq_false_iff_ne]; exact fun e => hend (.inl e)
      have m2 : (C == 124) = false := by simp only [beq_eq_false_iff_ne]; exact fun e => hend (.inr (.inl e))
      have m3 : (C == 41) = false := by simp only [beq_eq_false_iff_ne]; exact fun e => hend (.inr (.inr e))
      have hlt : st.p < s.size := by
        by_cases hlt : st.p < s.size
        · exact hlt
        · exact absurd (.inl (by rw [HC.out]; exact (nextC_end s st.p (by omega)).1)) hend
      have g2 := Blk.cell P1.out.L.i.r (j := 2) rfl
      have HE := Lib.hid (show ¬ (nextC s st.p = -1 ∨ nextC s st.p = 124 ∨ nextC s st.p = 41) by rw [← HC.out]; exact hend)
      clear hend
      go_wp2_with fail
      refine (syn_sign b s st.f st.p nv _ P1.out.L.i.r P1.out.L.i.p (by omega)).mono ?_
      cases hsg : signP s st.p with
      | mk o q =>
        cases o with
        | none =>
          rintro e w2 ⟨rfl, hR2, hG⟩
          have P2 := Lib.hid ((P1.out.grown hb (st' := st) hR2 hG rfl P1.out.L.i.p P1.out.L.i.d (Nat.le_refl _)).below ((Below.refl _ w2).alloc (Nat.le_refl _) (.cells #[.int .i64 10, .slice none 0 0, .int .i32 0, .slice none 0 0, .int .i64 0, .int .i64 0, .string ⟨#[]⟩, .int .i64 0, .int .i64 0, .bool false] 29)))
          clear hR2 hG
          have hfit := (syn_fit s n).atoms st hlt P2.out.L.i.d (by omega)
          have HAT := Lib.hid (HA.out n (by omega) b lo st nv _ P2.out.L.i hlt (by omega))
          have HSG := Lib.hid hsg
          unfold repC
          clear g2
          go_wp2_with fail
          refine (HAT.out).mono ?_
          cases hx : atomsP s n st with
          | out => rw [hx] at hfit; exact hfit.elim
          | wrong x a d =>
            rintro e w4 ⟨rfl, hg⟩
            have hRe : R = .wrong x a d := by rw [← HRR.out]; unfold partP; rw [if_neg HE.out, HSG.out, hx]
            subst hRe
            exact ⟨rfl, rfl, P2.out.L.g.trans hg P2.out.L.mine⟩
          | ok us st1 =>
            rintro e w4 ⟨v2, ys, nv1, rfl, hr2, hL2⟩
            have hlen := atoms_len P2.out.L.i.d hfit hx
            rw [hx] at hfit
            have hst1 : st.p < st1.p := hfit.1
            have hRe : partP s n st1 (ts ++ us) = R := by rw [← HRR.out]; conv => rhs; unfold partP; rw [if_neg HE.out, HSG.out, hx]
            have P4 := Lib.hid (P2.out.read hb hL2 (Nat.le_of_lt hst1))
            have HR4 := Lib.hid hr2; have HRE := Lib.hid hRe
            have hlo := (P2.out.r.1.lt)
            have hml : (ts ++ us).length ≤ st1.p := by rw [List.length_append]; have := P2.out.m; omega
            have hsz := P4.out.L.i.p
            have U4 := Lib.hid (show TreesF w4 (fun k => (w.heap.size + 1 ≤ k ∧ k < w4.heap.size ∧ ¬ nv1.ownBlock = some k) ∧ (Value.slice la ts.length lc).ownBlock ≠ some k) us ys from
              hr2.2.1.turned (fun _ _ => rfl) (fun k hk => ⟨⟨by have := hk.1.1; have := P2.out.z; omega, hk.1.2.1, hk.1.2.2⟩, fun e => by have := (hlo k e).2; have := hk.1.1; omega⟩))
            clear hlo hfit hlen hL2 hx
            rcases hr2.1.2 with ⟨rfl, h0⟩ | ⟨g2, cap2, cur2, rfl, hgb, _⟩
            · obtain rfl : us = [] := List.eq_nil_of_length_eq_zero h0
              clear hr2 h0
              go_wp2_with (at_builtin; refine wpList_append_own_none rfl _ _ 25 rfl (w.heap.size + 1) 29 i0 10 Tryz.underlying25 hi _ _ _ rfl P4.out.r.1 rfl ?_)
              go_roundw
              case rel => exact ⟨n, st1, nv1, ts, xs, P4.out, by have := HRE.out; rw [List.append_nil] at this; exact this, by omega, by omega⟩
              case measure =>
                rw [placeS_r P4.out.L.i.r, placeS_r PP.out.L.i.r]
                omega
            · have hcl := cells_own HR4.out.1
              have hone := HR4.out.2.1.one
              clear hr2
              go_wp2_with (at_builtin; refine wpList_append_own_at _ rfl _ _ 25 rfl (w.heap.size + 1) 29 i0 (.agg zero10.toArray) 10 120 Tryz.underlying25 hi hz0 hz1 hz2 rfl (by decide) _ ts.length xs rfl P4.out.r.1 ⟨g2, 0, none⟩ us.length cap2 ys rfl HR4.out.1.1 hcl hone (by unfold maxLen; simp at hml; omega) (by simp at hml; omega) (by have := P4.out.z; omega) ?_; intro v' w10 hown hgrow hiff)
              intro hat
              clear hiff hcl hone
              have P10 := Lib.hid (P4.out.push hb hl U4.out hown hgrow hat hml)
              clear hown hgrow hat
              go_wp2_with fail
              go_roundw
              case rel => exact ⟨n, st1, nv1, ts ++ us, xs ++ ys, P10.out, HRE.out, by omega, by omega⟩
              case measure =>
                rw [placeS_r P10.out.L.i.r, placeS_r PP.out.L.i.r]
                omega
        | some x =>
          obtain ⟨op, mn, mx⟩ := x
          rintro e w2 ⟨rfl, hR2, hG⟩
          have hsf := signP_some P1.out.L.i.p P1.out.L.i.d hsg
          have P2 := Lib.hid (P1.out.grown hb (st' := { st with p := q }) hR2 hG rfl hsf.2.1 hsf.2.2 (Nat.le_of_lt hsf.1))
          have P3 := Lib.hid (P2.out.below ((Below.refl _ w2).alloc (Nat.le_refl _) (.cells #[.int .i64 op, .slice none 0 0, .int .i32 0, .slice none 0 0, .int .i64 0, .int .i64 0, .string ⟨#[]⟩, .int .i64 mn, .int .i64 mx, .bool false] 29)))
          have K5 := Lib.hid (Blk.new w2 [.int .i64 op, .slice none 0 0, .int .i32 0, .slice none 0 0, .int .i64 0, .int .i64 0, .string ⟨#[]⟩, .int .i64 mn, .int .i64 mx, .bool false] 29)
          have HSG := Lib.hid hsg
          clear hR2 hG g2 hsg
          unfold repC
          rcases snoc_cases ts with rfl | ⟨ts', k, rfl⟩
          · have hRe : R = .wrong 82 st.p q := by rw [← HRR.out]; unfold partP; rw [if_neg HE.out, HSG.out]; rfl
            subst hRe
            have g2 := Blk.cell P3.out.L.i.r (j := 2) rfl
            go_wp2_with fail
            refine (syn_stop _ _ _ _).mono ?_
            rintro e w9 ⟨rfl, rfl⟩
            exact ⟨rfl, rfl, P3.out.L.g⟩
          · obtain ⟨ys, cs, rfl, hTy, hTk⟩ := P2.out.r.2.1.snoc
            obtain ⟨op2, ka, kn, kc, rune, xa, xn, xc, pl, cap, name, mn2, mx2, lz2, rfl⟩ := hTk.form
            have hyl := hTy.length
            obtain ⟨g, gc, e3, hgb, hgz⟩ := World.ownsRow.form P3.out.r.1 (by simp)
            have e4 : la = some ⟨g, 0, none⟩ := by injection e3
            subst e4
            have hrow : RowAt (w2.alloc (.cells #[.int .i64 op, .slice none 0 0, .int .i32 0, .slice none 0 0, .int .i64 0, .int .i64 0, .string ⟨#[]⟩, .int .i64 mn, .int .i64 mx, .bool false] 29)) g (ts'.length * 10) [.int .i64 op2, .slice ka kn kc, .int .i32 rune, .slice xa xn xc, .int .i64 pl, .int .i64 cap, .string name, .int .i64 mn2, .int .i64 mx2, .bool lz2] := by
              have h1 := ownsRow_at P3.out.r.1
              intro j hj
              have h2 := h1 (ys.length + j) (by rw [List.length_append]; omega)
              rw [List.getElem?_append_right (by omega), Nat.zero_add, Nat.add_sub_cancel_left, hyl] at h2
              exact h2
            obtain ⟨z0, z1, z2, z3, z4, z5, z6, z7, z8, z9⟩ := hrow.ten
            have HTY := Lib.hid hTy; have HTK := Lib.hid hTk; have HYL := Lib.hid hyl
            have HGB := Lib.hid (And.intro hgb hgz)
            have c1 := Blk.cell K5.out (j := 1) rfl
            have f1 := K5.out.frozen 1
            have hlen : ((ts' ++ [k]).length : Int) = (ts'.length : Int) + 1 := by rw [List.length_append, List.length_singleton]; omega
            have hlen0 : (((ts' ++ [k]).length : Int) == 0) = false := by rw [hlen]; simp; omega
            have hsm : ts'.length ≤ 100000000 := by
              have h1 : (ts' ++ [k]).length ≤ q := P3.out.m
              have h2 : q ≤ s.size := P3.out.L.i.p
              rw [List.length_append] at h1
              omega
            clear hTy hTk hyl hgb hgz hrow e3 hlen
            go_wp2_with fail
            have P9 := Lib.hid (P2.out.below (((((Below.refl _ w2).alloc (Nat.le_refl _) (.cells #[.int .i64 op, .slice (some ⟨w2.heap.size + 1, 0, none⟩) 1 1, .int .i32 0, .slice none 0 0, .int .i64 0, .int .i64 0, .string ⟨#[]⟩, .int .i64 mn, .int .i64 mx, .bool false] 29)).alloc (by simp) (.cells #[.int .i64 op2, .slice ka kn kc, .int .i32 rune, .slice xa xn xc, .int .i64 pl, .int .i64 cap, .string name, .int .i64 mn2, .int .i64 mx2, .bool lz2] 29))).drew))
            have K9 := Lib.hid (((Blk.new w2 [.int .i64 op, .slice (some ⟨w2.heap.size + 1, 0, none⟩) 1 1, .int .i32 0, .slice none 0 0, .int .i64 0, .int .i64 0, .string ⟨#[]⟩, .int .i64 mn, .int .i64 mx, .bool false] 29).alloc (.cells #[.int .i64 op2, .slice ka kn kc, .int .i32 rune, .slice xa xn xc, .int .i64 pl, .int .i64 cap, .string name, .int .i64 mn2, .int .i64 mx2, .bool lz2] 29)))
            have GB := Lib.hid (show Below w2.heap.size w2 _ from ((((Below.refl _ w2).alloc (Nat.le_refl _) (.cells #[.int .i64 op, .slice (some ⟨w2.heap.size + 1, 0, none⟩) 1 1, .int .i32 0, .slice none 0 0, .int .i64 0, .int .i64 0, .string ⟨#[]⟩, .int .i64 mn, .int .i64 mx, .bool false] 29)).alloc (by simp) (.cells #[.int .i64 op2, .slice ka kn kc, .int .i32 rune, .slice xa xn xc, .int .i64 pl, .int .i64 cap, .string name, .int .i64 mn2, .int .i64 mx2, .bool lz2] 29))).drew)
            have J9 := Lib.hid (Blk.new (w2.alloc (.cells #[.int .i64 op, .slice (some ⟨w2.heap.size + 1, 0, none⟩) 1 1, .int .i32 0, .slice none 0 0, .int .i64 0, .int .i64 0, .string ⟨#[]⟩, .int .i64 mn, .int .i64 mx, .bool false] 29)) [.int .i64 op2, .slice ka kn kc, .int .i32 rune, .slice xa xn xc, .int .i64 pl, .int .i64 cap, .string name, .int .i64 mn2, .int .i64 mx2, .bool lz2] 29)
            rw [World.size_alloc] at J9
            generalize hW9 : (w2.alloc (.cells #[.int .i64 op, .slice (some ⟨w2.heap.size + 1, 0, none⟩) 1 1, .int .i32 0, .slice none 0 0, .int .i64 0, .int .i64 0, .string ⟨#[]⟩, .int .i64 mn, .int .i64 mx, .bool false] 29)).alloc (.cells #[.int .i64 op2, .slice ka kn kc, .int .i32 rune, .slice xa xn xc, .int .i64 pl, .int .i64 cap, .string name, .int .i64 mn2, .int .i64 mx2, .bool lz2] 29) = W9 at P9 K9 GB J9 ⊢
            have HW9 := Lib.hid hW9
            clear hW9
            obtain ⟨y0, y1, y2, y3, y4, y5, y6, y7, y8, y9, _⟩ := K9.out.ten
            have hss : s.size ≤ 100000000000000 := by omega
            have hsl : (ts'.length : Int) ≤ (lc : Int) := by have := K1.out.2.1.1; rw [List.length_append, List.length_singleton] at this; omega
            cases hrp : repeatP s st.p q st.f op mn mx with
            | error er =>
              obtain ⟨x, a, d⟩ := er
              have hRe : R = .wrong x a d := by rw [← HRR.out]; unfold partP; rw [if_neg HE.out, HSG.out]; simp [hrp]
              subst hRe
              refine Code.wp_mono (Q := PartQ w b nv0 x a d) ?_ ?_
              · intro e f W hq
                cases e with
                | panic c =>
                  obtain ⟨rfl, hd, hg⟩ := hq
                  exact ⟨hd, rfl, hg⟩
                | _ => exact hq.elim
              refine wp_region_any (by kernel_rfl) ?_
              refine wpAny_take (i := 0) (v := ?_) rfl (by kernel_rfl) (by kernel_rfl) (by kernel_rfl) (by exact fun _ _ _ h => PartQ.put h) (Or.inl ⟨by rfl, ?_⟩) ?_
              rotate_left
              · (intro W'; go_simp; try with_reducible rfl)
              refine wpAny_take (i := 1) (v := ?_) rfl (by kernel_rfl) (by kernel_rfl) (by kernel_rfl) (by exact fun _ _ _ h => PartQ.put h) (Or.inl ⟨by rfl, ?_⟩) ?_
              rotate_left
              · (intro W'; go_simp; try with_reducible rfl)
              refine wpAny_take (i := 2) (v := ?_) rfl (by kernel_rfl) (by kernel_rfl) (by kernel_rfl) (by exact fun _ _ _ h => PartQ.put h) (Or.inl ⟨by rfl, ?_⟩) ?_
              rotate_left
              · (intro W'; go_simp; try with_reducible rfl)
              refine wpAny_take (i := 3) (v := ?_) rfl (by kernel_rfl) (by kernel_rfl) (by kernel_rfl) (by exact fun _ _ _ h => PartQ.put h) (Or.inl ⟨by rfl, ?_⟩) ?_
              rotate_left
              · (intro W'; go_simp; try with_reducible rfl)
              refine wpAny_take (i := 4) (v := ?_) rfl (by kernel_rfl) (by kernel_rfl) (by kernel_rfl) (by exact fun _ _ _ h => PartQ.put h) (Or.inl ⟨by rfl, ?_⟩) ?_
              rotate_left
              · (intro W'; go_simp; try with_reducible rfl)
              refine wpAny_take (i := 5) (v := ?_) rfl (by kernel_rfl) (by kernel_rfl) (by kernel_rfl) (by exact fun _ _ _ h => PartQ.put h) (Or.inl ⟨by rfl, ?_⟩) ?_
              rotate_left
              · (intro W'; go_simp; try with_reducible rfl)
              refine wpAny_ready (rs := [6]) (by kernel_rfl) (by simp) ?_
              refine AllReady.cons rfl (fun K hK => ?_) AllReady.nil
              go_simp
              refine hK _ _ ?_
              clear hK K
              refine wpAny_ready (rs := [7]) (by kernel_rfl) (by simp) ?_
              refine AllReady.cons rfl (fun K hK => ?_) AllReady.nil
              go_simp
              go_at_call 63
              refine (syn_repeat b s st.f q nv op (some ⟨w2.heap.size + 1, 0, none⟩) 1 1 mn mx st.p _ P9.out.L.i.r P9.out.L.i.p hss P9.out.L.i.d).mono ?_
              rw [hrp]
              rintro e w10 ⟨hG, rfl⟩
              exact ⟨rfl, rfl, P9.out.L.g.trans (GrownF.of_grown (F := Mine b nv) hG (fun x e _ => by cases e; exact .inl rfl)) P9.out.L.mine⟩
            | ok z =>
              obtain ⟨lz, q2⟩ := z
              have hRe : partP s n { st with p := q2 } (ts' ++ [repT op k mn mx lz]) = R := by rw [← HRR.out]; conv => rhs; unfold partP; rw [if_neg HE.out, HSG.out]; simp [hrp]
              have HRE := Lib.hid hRe
              clear hRe
              have hft := repeatP_fit s st.p q st.f op mn mx (Nat.le_of_lt hsf.1) hsf.2.1 hsf.2.2
              rw [hrp] at hft
              obtain ⟨hq2, hq3, hq4⟩ := hft
              have hbz : b ≠ w2.heap.size := by have := P2.out.z; omega
              go_region_held3 (fun w' => w'.cell? ⟨w2.heap.size, 0, none⟩ = some (.int .i64 op) ∧ w'.cell? ⟨w2.heap.size, 1, none⟩ = some (.slice (some ⟨w2.heap.size + 1, 0, none⟩) 1 1) ∧ w'.cell? ⟨w2.heap.size, 2, none⟩ = some (.int .i32 0) ∧ w'.cell? ⟨w2.heap.size, 3, none⟩ = some (.slice none 0 0) ∧ w'.cell? ⟨w2.heap.size, 4, none⟩ = some (.int .i64 0) ∧ w'.cell? ⟨w2.heap.size, 5, none⟩ = some (.int .i64 0) ∧ w'.cell? ⟨w2.heap.size, 6, none⟩ = some (.string ⟨#[]⟩) ∧ w'.cell? ⟨w2.heap.size, 7, none⟩ = some (.int .i64 mn) ∧ w'.cell? ⟨w2.heap.size, 8, none⟩ = some (.int .i64 mx) ∧ w'.cell? ⟨w2.heap.size, 9, none⟩ = some (.bool false)) (go_keep) (first
                | (go_at_call 63; refine (syn_repeat b s st.f q nv op (some ⟨w2.heap.size + 1, 0, none⟩) 1 1 mn mx st.p _ P9.out.L.i.r P9.out.L.i.p hss P9.out.L.i.d).mono ?_; rw [hrp]; rintro e w10 ⟨hG, rfl, hR⟩; have P10 := Lib.hid (P9.out.grown hb (st' := { st with p := q2 }) hR hG rfl hq3 hq4 hq2); have K10 := (Blk.drew K9.out).grown hG (ne_some (Ne.symm hbz)); obtain ⟨x0, x1, x2, x3, x4, x5, x6, x7, x8, x9, _⟩ := K10.ten; have hy := row_front P10.out.r.1 (.cells #[.int .i64 op, .slice (some ⟨w2.heap.size + 1, 0, none⟩) 1 1, .int .i32 0, .slice none 0 0, .int .i64 0, .int .i64 0, .string ⟨#[]⟩, .int .i64 mn, .int .i64 mx, .bool lz] 29); have HG := Lib.hid hG; clear hR hG; unfold repC)
                | (refine step_append_cut (by rfl) (.tmp 37) (.tmp 42) (by rfl) g ts'.length _ ys [.int .i64 op, .slice (some ⟨w2.heap.size + 1, 0, none⟩) 1 1, .int .i32 0, .slice none 0 0, .int .i64 0, .int .i64 0, .string ⟨#[]⟩, .int .i64 mn, .int .i64 mx, .bool lz] (by rfl) (by rfl) HYL.out (by rfl) hy (cells_new _ _ _) hsm ?_; intro v' W' hown hgrow; have K11 := Blk.below (Blk.alloc K10 _) (below_grownBy hgrow) (Blk.alloc K10 _).lt; obtain ⟨t0, t1, t2, t3, t4, t5, t6, t7, t8, t9, _⟩ := K11.ten))
              go_wp2_with fail
              have G10 := grownBy_trans (grownBy_below GB.out (some b)) (grownBy_trans HG.out (grownBy_alloc w10 (.cells #[.int .i64 op, .slice (some ⟨w2.heap.size + 1, 0, none⟩) 1 1, .int .i32 0, .slice none 0 0, .int .i64 0, .int .i64 0, .string ⟨#[]⟩, .int .i64 mn, .int .i64 mx, .bool lz] 29) (some b)))
              have J10 := ((Blk.drew J9.out).grown HG.out (ne_some (by have := P2.out.z; omega))).alloc (.cells #[.int .i64 op, .slice (some ⟨w2.heap.size + 1, 0, none⟩) 1 1, .int .i32 0, .slice none 0 0, .int .i64 0, .int .i64 0, .string ⟨#[]⟩, .int .i64 mn, .int .i64 mx, .bool lz] 29)
              have P11 := P10.out.below ((Below.refl _ w10).alloc (Nat.le_refl _) (.cells #[.int .i64 op, .slice (some ⟨w2.heap.size + 1, 0, none⟩) 1 1, .int .i32 0, .slice none 0 0, .int .i64 0, .int .i64 0, .string ⟨#[]⟩, .int .i64 mn, .int .i64 mx, .bool lz] 29))
              generalize hV : w10.alloc (.cells #[.int .i64 op, .slice (some ⟨w2.heap.size + 1, 0, none⟩) 1 1, .int .i32 0, .slice none 0 0, .int .i64 0, .int .i64 0, .string ⟨#[]⟩, .int .i64 mn, .int .i64 mx, .bool lz] 29) = V at G10 J10 P11 hown hgrow
              have hzz := P2.out.z
              have hne : ∀ j, w.heap.size + 1 ≤ j → (some j : Option Nat) ≠ some b := fun j hj e => by cases e; omega
              have hT1 : TreesF V (fun j => w.heap.size + 1 ≤ j ∧ j < V.heap.size ∧ ¬ nv.ownBlock = some j) ts' ys :=
                HTY.out.turned (fun j hj => G10.block j hj.1.2.1 (hne j hj.1.1)) (fun j hj => ⟨hj.1.1, Nat.lt_of_lt_of_le hj.1.2.1 G10.size, hj.1.2.2⟩)
              have hT2 : TreeF V (fun j => w.heap.size + 1 ≤ j ∧ j < V.heap.size ∧ ¬ nv.ownBlock = some j) k _ :=
                HTK.out.turned (fun j hj => G10.block j hj.1.2.1 (hne j hj.1.1)) (fun j hj => ⟨hj.1.1, Nat.lt_of_lt_of_le hj.1.2.1 G10.size, hj.1.2.2⟩)
              have hT3 : TreeF V (fun j => w.heap.size + 1 ≤ j ∧ j < V.heap.size ∧ ¬ nv.ownBlock = some j) (repT op k mn mx lz) _ :=
                TreeF.mk (ka := some ⟨w2.heap.size + 1, 0, none⟩) (kn := 1) (kc := 1) (sa := none) (sn := 0) (sc := 0) ⟨rfl, ⟨Nat.le_refl _, by decide⟩, .inr ⟨w2.heap.size + 1, 0, rfl, ⟨by omega, J10.lt, fun e => by have := (P2.out.L.i.o.lt _ e).2; omega⟩, KidsF.cons.2 ⟨⟨_, hT2, fun j hj => by rw [Nat.zero_add, List.getElem?_eq_getElem hj]; exact Blk.cell J10 (List.getElem?_eq_getElem hj)⟩, KidsF.nil⟩⟩⟩ ⟨rfl, ⟨Nat.le_refl _, by decide⟩, .inl rfl⟩
              have P12 := Lib.hid (P11.swap hT1 hT3 hown hgrow)
              have hq0 := hsf.1
              go_roundw
              case rel => exact ⟨n, { st with p := q2 }, nv, ts' ++ [repT op k mn mx lz], _, P12.out, HRE.out, by show 8 * (s.size - q2) + 3 ≤ n; omega, by omega⟩
              case measure =>
                rw [placeS_r P12.out.L.i.r, placeS_r PP.out.L.i.r]
                show s.size - q2 < s.size - st.p
                omega
end Go.Proofs.YtnhnldmldnhaoaaGreatDoor
