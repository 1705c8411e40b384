/- The reader of patterns: parts, with | between. -/
import Derived.Test.YtnhnldmldnhaoaaGreatDoorDSyPart
namespace Go.Proofs.YtnhnldmldnhaoaaGreatDoor
open Go Go.RowKit Go.Proofs Go.Shelf

/-- The frame of parts, laid. -/
structure AltAt (w W : World) (b lo : Nat) (s : ByteArray) (nv0 nv : Value) (st : St) (ts : List T) (l : Value) (xs : List Value) : Prop where
  L : Left w W b lo s nv0 st nv
  k : Blk W w.heap.size zero10 29
  r : RowF W (w.heap.size + 1) (fun k => nv.ownBlock = some k) ts l xs
  n : nv.ownBlock ≠ some w.heap.size
  m : ts.length ≤ st.p + 1
theorem AltAt.z {w W : World} {b lo : Nat} {s : ByteArray} {nv0 nv : Value} {st : St} {ts : List T} {l : Value} {xs : List Value} (h : AltAt w W b lo s nv0 nv st ts l xs) : w.heap.size + 1 ≤ W.heap.size := h.k.lt
theorem AltAt.below {w W W' : World} {b lo : Nat} {s : ByteArray} {nv0 nv : Value} {st : St} {ts : List T} {l : Value} {xs : List Value} (h : AltAt w W b lo s nv0 nv st ts l xs) (hB : Below W.heap.size W W') : AltAt w W' b lo s nv0 nv st ts l xs :=
  ⟨h.L.below hB, Blk.below h.k hB h.k.lt, h.r.below hB, h.n, h.m⟩
theorem AltAt.grown {w W W' : World} {b lo : Nat} {s : ByteArray} {nv0 nv : Value} {st st' : St} {ts : List T} {l : Value} {xs : List Value} (h : AltAt w W b lo s nv0 nv st ts l xs) (hb : b < w.heap.size) (hr : SyR W' b s st'.f st'.p nv) (hG : W.grownBy W' (some b)) (hns : st'.ns = st.ns) (hp : st'.p ≤ s.size) (hd : Bd s st'.p) (hle : st.p ≤ st'.p) : AltAt w W' b lo s nv0 nv st' ts l xs :=
  ⟨h.L.grown hr hG hns hp hd (by have := h.L.i.m; rw [hns]; omega), h.k.grown hG (ne_some (by omega)), h.r.keep hG.size (fun k hk _ ha => ⟨hG.block k (by assumption) (ne_some (by omega)), ha⟩), h.n, by have := h.m; omega⟩
theorem AltAt.form {w W : World} {b lo : Nat} {s : ByteArray} {nv0 nv : Value} {st : St} {ts : List T} {l : Value} {xs : List Value} (h : AltAt w W b lo s nv0 nv st ts l xs) (hs : s.size ≤ 100000000) : ∃ a c, l = .slice a ts.length c ∧ KidsS W (fun k => (w.heap.size + 1 ≤ k ∧ k < W.heap.size ∧ ¬ nv.ownBlock = some k)) ts a ts.length c :=
  (h.r.2.1.turned (ok' := fun k => (w.heap.size + 1 ≤ k ∧ k < W.heap.size ∧ ¬ nv.ownBlock = some k)) (fun _ _ => rfl) (fun _ hk => hk.1)).slice h.r.1 (fun g hg => ⟨(h.r.1.lt g hg).1, (h.r.1.lt g hg).2, h.r.2.2 g hg⟩) (by have := h.m; have := h.L.i.p; omega)
theorem AltAt.read {w W W' : World} {b lo : Nat} {s : ByteArray} {nv0 nv nv1 : Value} {st st1 : St} {ts : List T} {l : Value} {xs : List Value} (h : AltAt w W b lo s nv0 nv st ts l xs) (hb : b < w.heap.size) (hL : Left W W' b lo s nv st1 nv1) (hle : st.p ≤ st1.p) : AltAt w W' b lo s nv0 nv1 st1 ts l xs := by
  have hz := h.z
  refine ⟨h.L.trans hL, h.k.grownF hL.g (by rintro (h2 | h2); omega; exact h.n h2), h.r.keep hL.g.size (fun k hk hk2 ha => ⟨hL.g.block k hk2 (by rintro (h2 | h2); omega; exact ha h2), fun e => ?_⟩), fun e => ?_, by have := h.m; omega⟩
  · rcases hL.v k e with h2 | h2
    · exact ha h2
    · omega
  · rcases hL.v _ e with h2 | h2
    · exact h.n h2
    · omega
theorem AltAt.push {w W W' : World} {b lo : Nat} {s : ByteArray} {nv0 nv : Value} {st : St} {ts us : List T} {l l' : Value} {xs ys : List Value} (h : AltAt w W b lo s nv0 nv st ts l xs) (hb : b < w.heap.size) (hl : lo ≤ w.heap.size)
    (hu : TreesF W (fun k => (w.heap.size + 1 ≤ k ∧ k < W.heap.size ∧ ¬ nv.ownBlock = some k) ∧ l.ownBlock ≠ some k) us ys) (ho : W'.ownsRow (w.heap.size + 1) 29 10 l' (ts.length + us.length) (xs ++ ys)) (hg : W.grownBy W' l.ownBlock) (hat : l'.ownBlock = l.ownBlock ∨ l'.ownBlock = some W.heap.size) (hm : (ts ++ us).length ≤ st.p + 1) :
    AltAt w W' b lo s nv0 nv st (ts ++ us) l' (xs ++ ys) :=
  ⟨h.L.newrow hg hb hl (fun k e => ⟨by have := (h.r.1.lt k e).1; omega, h.r.2.2 k e⟩), h.k.grown hg (fun e => by have := (h.r.1.lt _ e.symm).1; omega), h.r.push hu ho hg hat (fun e => by have := (h.L.i.o.lt _ e).2; omega), h.n, hm⟩
/-- A tree that is handed back through the result's block. -/
theorem tree_back {w W : World} {b lo : Nat} {s : ByteArray} {nv0 nv : Value} {st : St} {t : T} (hL : Left w W b lo s nv0 st nv) (hb : b < w.heap.size) (hl : lo ≤ w.heap.size) (hn : nv.ownBlock ≠ some w.heap.size) {op : Int} {ka : Option Addr} {kn kc : Nat} {rune : Int} {xa : Option Addr} {xn xc : Nat} {pl cap : Int} {name : ByteArray} {mn mx : Int} {lz : Bool}
    (hT : TreeF W (fun k => w.heap.size + 1 ≤ k ∧ k < W.heap.size ∧ ¬ nv.ownBlock = some k) t [.int .i64 op, .slice ka kn kc, .int .i32 rune, .slice xa xn xc, .int .i64 pl, .int .i64 cap, .string name, .int .i64 mn, .int .i64 mx, .bool lz]) :
    TreeOut w b lo s nv0 (.ok t st) (.returned (.agg #[.int .i64 op, .slice ka kn kc, .int .i32 rune, .slice xa xn xc, .int .i64 pl, .int .i64 cap, .string name, .int .i64 mn, .int .i64 mx, .bool lz])) (World.set10 W w.heap.size (.int .i64 op) (.slice ka kn kc) (.int .i32 rune) (.slice xa xn xc) (.int .i64 pl) (.int .i64 cap) (.string name) (.int .i64 mn) (.int .i64 mx) (.bool lz)) := by
  refine ⟨_, nv, rfl, ?_, hL.new10 (Nat.le_refl _) hb hl hn _ _ _ _ _ _ _ _ _ _⟩
  have hz : (World.set10 W w.heap.size (.int .i64 op) (.slice ka kn kc) (.int .i32 rune) (.slice xa xn xc) (.int .i64 pl) (.int .i64 cap) (.string name) (.int .i64 mn) (.int .i64 mx) (.bool lz)).heap.size = W.heap.size := by simp [World.set10, World.setCell]
  exact hT.turned (fun k hk => set10_block _ _ _ _ _ _ _ _ _ _ _ _ k (by have := hk.1; omega)) (fun k hk => ⟨⟨by have := hk.1; omega, by rw [hz]; exact hk.2.1⟩, hk.2.2⟩)
theorem parts_len1 {t : T} {l : List T} (h : l ≠ []) : (((t :: l).length : Int) == 1) = false := by
  cases l with
  | nil => exact absurd rfl h
  | cons a l => simp; omega
set_option maxRecDepth 100000 in
set_option maxHeartbeats 16000000 in
theorem syn_parts (s : ByteArray) (N : Nat) (hs : s.size ≤ 100000000) (hA : ∀ n, n ≤ N → PartC s n) : PartsC s (N + 1) := by
  intro b lo st0 nv0 w h hN
  obtain ⟨i0, hi, hz0, hz1, hz2⟩ := info_parts infoTree
  have hb := h.r.lt
  have hl := h.e.le
  have hno := fun k hk => (h.o.lt k hk).2
  have hfit := (syn_fit s N).part st0 [] h.p h.d (by omega)
  have L0 := Lib.hid (h.below ((Below.refl _ w).alloc (Nat.le_refl _) (.cells zero10.toArray 29)))
  have K0 := Lib.hid (Blk.new w zero10 29)
  have HC := Lib.hid (hA N (Nat.le_refl _) b lo st0 nv0 _ L0.out.i (by omega))
  obtain ⟨R, hR⟩ : ∃ R, R = partsP s (N + 1) st0 := ⟨_, rfl⟩
  rw [← hR]
  unfold partsP at hR
  have HA := Lib.hid hA; have HNO := Lib.hid hno; have HR0 := Lib.hid hR
  clear h hA hno hR
  go_enter Tryz.func35, Tryz.ntmps35
  go_wp2_with fail
  refine HC.out.mono ?_
  cases hx : partP s N st0 [] with
  | out => rw [hx] at hfit; exact hfit.elim
  | wrong x a d =>
    rintro e w1 ⟨rfl, hg⟩
    have hR := HR0.out
    rw [hx] at hR
    subst hR
    exact ⟨rfl, rfl, L0.out.g.trans hg L0.out.mine⟩
  | ok t st1 =>
    rintro e w1 ⟨cs, nv1, rfl, hT, hL⟩
    have hR := HR0.out
    rw [hx] at hR hfit
    simp only at hR
    have hne1 : nv1.ownBlock ≠ some w.heap.size := fun e => by
      rcases hL.v _ e with h2 | h2
      · have := HNO.out _ h2; omega
      · rw [World.size_alloc] at h2; omega
    have K1 := K0.out.grownF hL.g (by rintro (h2 | h2); omega; have := HNO.out _ h2; omega)
    have hz1' : w.heap.size + 1 ≤ w1.heap.size := by have := K1.lt; omega
    have hrow := row_single hT (by rw [World.size_alloc]; omega) (fun k hk => (hL.i.o.lt k hk).2)
    rw [World.size_alloc] at hrow
    have P1 := Lib.hid (show AltAt w (w1.alloc (.cells cs.toArray 29)) b lo s nv0 nv1 st1 [t] (.slice (some ⟨w1.heap.size, 0, none⟩) 1 1) cs from
      ⟨(L0.out.trans hL).below ((Below.refl _ w1).alloc (Nat.le_refl _) _), K1.alloc _, hrow, hne1, by simp⟩)
    obtain ⟨op, ka, kn, kc, rune, xa, xn, xc, pl, cap, name, mn, mx, lz, rfl⟩ := hT.form
    have HR := Lib.hid hR
    have hst1 := hfit.1
    clear hT hL hne1 K1 hrow hR hfit hx HNO K0 HC L0
    go_wp2_with fail
    go_loopw [3] (fun lv wr => ∃ (n : Nat) (st : St) (nv : Value) (ts : List T) (xs : List Value), AltAt w wr b lo s nv0 nv st ts lv xs ∧ ts ≠ [] ∧ R = altP s n st ts ∧ 8 * (s.size - st.p) + 1 ≤ n ∧ n ≤ N) (fun _ wr => s.size - placeS b wr)
    case atStart => exact ⟨N, st1, nv1, [t], _, P1.out, by simp, HR.out, by omega, Nat.le_refl _⟩
    case round =>
      obtain ⟨n, st, nv, ts, xs, hP, hne, hr, hn, hnN⟩ := hrel
      obtain ⟨la, lc, rfl, hK⟩ := hP.form hs
      obtain ⟨n, rfl⟩ : ∃ m, n = m + 1 := ⟨n - 1, by omega⟩
      have PP := Lib.hid hP; have HRR := Lib.hid hr
      have HKK := Lib.hid hK
      have hss : s.size ≤ 1000000000000000 := by omega
      clear hP hr hK
      unfold altP at HRR
      cases hst : stands s st.p [124] with
      | true =>
        go_wp2_with fail
        refine (syn_has_yes b s 124 st.f st.p nv _ PP.out.L.i.r PP.out.L.i.p hss hst).mono ?_
        rintro e w2 ⟨rfl, hR, hG⟩
        have hbd := Bd.sign PP.out.L.i.d (Nat.le_refl _) hst (by decide)
        obtain ⟨hlt, _⟩ := (stands_one s st.p 124).1 hst
        have P2 := Lib.hid (PP.out.grown hb (st' := { st with p := st.p + 1 }) hR hG rfl hlt hbd (Nat.le_succ _))
        have hfit := (syn_fit s n).part { st with p := st.p + 1 } [] P2.out.L.i.p P2.out.L.i.d (by show 8 * (s.size - (st.p + 1)) + 3 ≤ n; omega)
        have HAT := Lib.hid (HA.out n (by omega) b lo { st with p := st.p + 1 } nv _ P2.out.L.i (by show 8 * (s.size - (st.p + 1)) + 3 ≤ n; omega))
        clear hR hG hbd
        go_wp2_with fail
        refine (HAT.out).mono ?_
        have HFT := Lib.hid hfit
        clear hfit
        cases hx : partP s n { st with p := st.p + 1 } [] with
        | out => have h1 := HFT.out; rw [hx] at h1; exact h1.elim
        | wrong x a d =>
          rintro e w4 ⟨rfl, hg⟩
          have hRe : R = .wrong x a d := by rw [HRR.out, if_pos hst, hx]
          subst hRe
          exact ⟨rfl, rfl, P2.out.L.g.trans hg P2.out.L.mine⟩
        | ok t2 st2 =>
          rintro e w4 ⟨cs2, nv2, rfl, hT, hL⟩
          have hft := HFT.out
          rw [hx] at hft
          have hst2 : st.p + 1 ≤ st2.p := hft.1
          have hRe : R = altP s n st2 (ts ++ [t2]) := by rw [HRR.out, if_pos hst, hx]
          have HRE := Lib.hid hRe
          have P4 := Lib.hid (P2.out.read hb hL hst2)
          have hlo := (P2.out.r.1.lt)
          have P5 := Lib.hid (P4.out.below ((Below.refl _ w4).alloc (Nat.le_refl _) (.cells cs2.toArray 29)))
          have U5 := Lib.hid (show TreesF (w4.alloc (.cells cs2.toArray 29)) (fun k => (w.heap.size + 1 ≤ k ∧ k < (w4.alloc (.cells cs2.toArray 29)).heap.size ∧ ¬ nv2.ownBlock = some k) ∧ (Value.slice la ts.length lc).ownBlock ≠ some k) [t2] cs2 from
            TreesF.single (hT.turned (fun k hk => Below.heap_alloc w4 _ k hk.1.2) (fun k hk => ⟨⟨by have := hk.1.1; have := P2.out.z; omega, by have := hk.1.2; rw [World.size_alloc]; omega, hk.2⟩, fun e => by have := (hlo k e).2; have := hk.1.1; omega⟩)))
          have hcl := cells_new w4 cs2 29
          have hone := hT.one
          have hl2 := hT.length
          have hml : (ts ++ [t2]).length ≤ st2.p + 1 := by have h1 : ts.length ≤ (st.p + 1) + 1 := P2.out.m; have h2 : ts.length ≤ st.p + 1 := PP.out.m; rw [List.length_append, List.length_singleton]; omega
          have hsz : st2.p ≤ s.size := P4.out.L.i.p
          obtain ⟨op2, ka2, kn2, kc2, rune2, xa2, xn2, xc2, pl2, cap2, name2, mn2, mx2, lz2, rfl⟩ := hT.form
          clear hlo hft hL hx hT hRe
          go_wp2_with (at_builtin; refine wpList_append_own_at _ rfl _ _ 25 rfl (w.heap.size + 1) 29 i0 (.agg zero10.toArray) 10 120 Tryz.underlying25 hi hz0 hz1 hz2 rfl (by decide) _ ts.length xs rfl P5.out.r.1 ⟨w4.heap.size, 0, none⟩ 1 1 _ rfl hl2 hcl hone (by unfold maxLen; simp at hml; omega) (by simp at hml; omega) (by have := P5.out.z; omega) ?_; intro v' w10 hown hgrow hiff)
          intro hat
          clear hiff hcl hone
          have P10 := Lib.hid (P5.out.push hb hl U5.out hown hgrow (by rw [World.size_alloc]; exact hat) hml)
          clear hown hgrow hat
          go_wp2_with fail
          go_roundw
          case rel => exact ⟨n, st2, nv2, ts ++ [t2], _, P10.out, by simp, HRE.out, by omega, by omega⟩
          case measure =>
            rw [placeS_r P10.out.L.i.r, placeS_r PP.out.L.i.r]
            omega
      | false =>
        go_wp2_with fail
        refine (syn_has_no b s 124 st.f st.p nv _ PP.out.L.i.r PP.out.L.i.p hss hst).mono ?_
        rintro e w2 ⟨rfl, hR, hG⟩
        have P2 := Lib.hid (PP.out.grown hb (st' := st) hR hG rfl PP.out.L.i.p PP.out.L.i.d (Nat.le_refl _))
        clear hR hG
        cases ts with
        | nil => exact absurd rfl hne
        | cons t0 us =>
          cases us with
          | nil =>
            have hRe : R = .ok t0 st := by rw [HRR.out, if_neg (by rw [hst]; simp)]
            subst hRe
            obtain ⟨cs, rest, e1, hT, hrest⟩ := P2.out.r.2.1
            obtain rfl : rest = [] := hrest
            rw [List.append_nil] at e1
            subst e1
            obtain ⟨g, gc, e3, hgb, hgz⟩ := World.ownsRow.form P2.out.r.1 (by simp)
            have e4 : la = some ⟨g, 0, none⟩ := by injection e3
            subst e4
            have hrow := ownsRow_at P2.out.r.1
            obtain ⟨op, ka, kn, kc, rune, xa, xn, xc, pl, cap, name, mn, mx, lz, rfl⟩ := hT.form
            obtain ⟨z0, z1, z2, z3, z4, z5, z6, z7, z8, z9⟩ := hrow.ten
            simp only [Nat.zero_add] at z0 z1 z2 z3 z4 z5 z6 z7 z8 z9
            have HT := Lib.hid hT
            clear hT hrow
            obtain ⟨c0, c1, c2, c3, c4, c5, c6, c7, c8, c9, f0, f1, f2, f3, f4, f5, f6, f7, f8, f9⟩ := P2.out.k.ten
            go_wp2_with fail
            change bodyPost _ _ _ _ _ (World.set10 w2 w.heap.size (.int .i64 op) (.slice ka kn kc) (.int .i32 rune) (.slice xa xn xc) (.int .i64 pl) (.int .i64 cap) (.string name) (.int .i64 mn) (.int .i64 mx) (.bool lz))
            have O := P2.out.k.set10 (.int .i64 op) (.slice ka kn kc) (.int .i32 rune) (.slice xa xn xc) (.int .i64 pl) (.int .i64 cap) (.string name) (.int .i64 mn) (.int .i64 mx) (.bool lz)
            obtain ⟨d0, d1, d2, d3, d4, d5, d6, d7, d8, d9, _, _, _, _, _, _, _, _, _, _⟩ := O.ten
            refine ⟨rfl, .agg #[.int .i64 op, .slice ka kn kc, .int .i32 rune, .slice xa xn xc, .int .i64 pl, .int .i64 cap, .string name, .int .i64 mn, .int .i64 mx, .bool lz], ?_, tree_back P2.out.L hb hl P2.out.n (HT.out.turned (fun _ _ => rfl) (fun _ hk => hk.1))⟩
            simp [results, Tryz.results35, go_sem, d0, d1, d2, d3, d4, d5, d6, d7, d8, d9]
          | cons t1 us =>
            have hRe : R = .ok (kidsT 12 (t0 :: t1 :: us)) st := by rw [HRR.out, if_neg (by rw [hst]; simp)]
            subst hRe
            obtain ⟨a', c', e, hK2⟩ := P2.out.form hs
            injection e with e1 e2 e3
            subst e1 e3
            have K2 := Lib.hid hK2
            have h1 := parts_len1 (t := t0) (l := t1 :: us) (by simp)
            clear hK2
            obtain ⟨c0, c1, c2, c3, c4, c5, c6, c7, c8, c9, f0, f1, f2, f3, f4, f5, f6, f7, f8, f9⟩ := P2.out.k.ten
            go_wp2_with fail
            change bodyPost _ _ _ _ _ (World.set10 w2 w.heap.size (.int .i64 12) (.slice la (us.length + 1 + 1) lc) (.int .i32 0) (.slice none 0 0) (.int .i64 0) (.int .i64 0) (.string ⟨#[]⟩) (.int .i64 0) (.int .i64 0) (.bool false))
            have O := P2.out.k.set10 (.int .i64 12) (.slice la (us.length + 1 + 1) lc) (.int .i32 0) (.slice none 0 0) (.int .i64 0) (.int .i64 0) (.string ⟨#[]⟩) (.int .i64 0) (.int .i64 0) (.bool false)
            obtain ⟨d0, d1, d2, d3, d4, d5, d6, d7, d8, d9, _, _, _, _, _, _, _, _, _, _⟩ := O.ten
            refine ⟨rfl, .agg #[.int .i64 12, .slice la (us.length + 1 + 1) lc, .int .i32 0, .slice none 0 0, .int .i64 0, .int .i64 0, .string ⟨#[]⟩, .int .i64 0, .int .i64 0, .bool false], ?_, tree_back P2.out.L hb hl P2.out.n (TreeF.mk K2.out ⟨rfl, ⟨Nat.le_refl _, by decide⟩, .inl rfl⟩)⟩
            simp [results, Tryz.results35, go_sem, d0, d1, d2, d3, d4, d5, d6, d7, d8, d9]
end Go.Proofs.YtnhnldmldnhaoaaGreatDoor
