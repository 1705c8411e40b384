/- syntax.Parse: a pattern's tree, or what is wrong with it. Texts without a backslash, a class, a (?. What two patterns are: "a|b*", "(a". The live question of layer 8. -/
import Derived.Test.YtnhnldmldnhaoaaGreatDoorDSyCatch
import Derived.Test.YtnhnldmldnhaoaaGreatDoorDSynEsc
import Derived.Test.YtnhnldmldnhaoaaGreatDoorShelf
import Derived.Test.YtnhnldmldnhaoaaGreatDoorShelfB
import Derived.Deep.RegionHeld3
import Derived.Test.YtnhnldmldnhaoaaGreatDoorDSynFit
namespace Go.Proofs.YtnhnldmldnhaoaaGreatDoor
open Go Go.RowKit Go.Proofs Go.Shelf

/-- What a pattern is: a tree, or what is wrong. -/
noncomputable def parseP (s : ByteArray) (f : Int) : Except (Int × Int × Int) T :=
  if ¬ (0 ≤ f ∧ f ≤ 63) then .error (1, 0, s.size)
  else if ¬ s.size ≤ 1024 then .error (2, 0, s.size)
  else if ¬ Lib.validD s.data.toList = true then .error (81, 0, s.size)
  else match wholeP s f with
  | .out => .error (0, 0, 0)
  | .wrong x a d => .error (x, a, d)
  | .ok t _ => if 50 < depth t then .error (86, 0, s.size) else if 4000 < weight t then .error (87, 0, s.size) else .ok t
/-- What Parse hands back. -/
def ParseOut (w : World) (r : Except (Int × Int × Int) T) (e : Ending) (w' : World) : Prop := Below w.heap.size w w' ∧ match r with
  | .error (x, a, d) => e = .returned (.tuple #[.agg zero10.toArray, .agg #[.int .i64 x, .int .i64 a, .int .i64 d]])
  | .ok t => ∃ cs, e = .returned (.tuple #[.agg cs.toArray, .agg #[.int .i64 0, .int .i64 0, .int .i64 0]]) ∧ TreeF w' (fun k => Fresh w w' k) t cs
/-- The frame of Parse, laid. -/
structure ParseAt (w W : World) (s : ByteArray) (cs : List Value) : Prop where
  k2 : Blk W w.heap.size [.string s] 9
  k4 : Blk W (w.heap.size + 1) cs 29
  k5 : Blk W (w.heap.size + 1 + 1) [.int .i64 0, .int .i64 0, .int .i64 0] 32
  bl : Below w.heap.size w W
theorem ParseAt.start (w : World) (s : ByteArray) : ParseAt w (((w.alloc (.cells #[.string s] 9)).alloc (.cells zero10.toArray 29)).alloc (.cells #[.int .i64 0, .int .i64 0, .int .i64 0] 32)) s zero10 := by
  have z1 : (w.alloc (.cells #[.string s] 9)).heap.size = w.heap.size + 1 := World.size_alloc _ _
  have z2 : ((w.alloc (.cells #[.string s] 9)).alloc (.cells zero10.toArray 29)).heap.size = w.heap.size + 1 + 1 := by rw [World.size_alloc, z1]
  refine ⟨((Blk.new w [.string s] 9).alloc _).alloc _, ?_, ?_, ?_⟩
  · rw [← z1]; exact (Blk.new _ zero10 29).alloc _
  · rw [← z2]; exact Blk.new _ [.int .i64 0, .int .i64 0, .int .i64 0] 32
  · exact (((Below.refl _ w).alloc (Nat.le_refl _) _).alloc (by simp) _).alloc (by simp; omega) _
theorem ParseAt.below {w W W' : World} {s : ByteArray} {cs : List Value} (h : ParseAt w W s cs) (hB : Below W.heap.size W W') : ParseAt w W' s cs :=
  ⟨Blk.below h.k2 hB h.k2.lt, Blk.below h.k4 hB h.k4.lt, Blk.below h.k5 hB h.k5.lt, below_then h.bl hB⟩
theorem ParseAt.grownF {w W W' : World} {s : ByteArray} {cs : List Value} {F : Nat → Prop} (h : ParseAt w W s cs) (hg : GrownF F W W') (hF : ∀ k, F k → w.heap.size + 1 + 1 < k) : ParseAt w W' s cs :=
  ⟨h.k2.grownF hg (fun e => by have := hF _ e; omega), h.k4.grownF hg (fun e => by have := hF _ e; omega), h.k5.grownF hg (fun e => by have := hF _ e; omega), h.bl.trans (hg.below (by have := h.k2.lt; omega) (fun k hk e => by have := hF _ e; omega))⟩
/-- A Parse that panics answers what was wrong. -/
theorem parse_panics {w W : World} {s : ByteArray} {cs : List Value} (A : ParseAt w W s cs) (hcs : cs.length = 10) (x a b : Int) (tmps : Array Value) (ht4 : tmps.getD 4 undef = .pointer (some ⟨w.heap.size + 1, 0, none⟩)) (ht5 : tmps.getD 5 undef = .pointer (some ⟨w.heap.size + 1 + 1, 0, none⟩)) :
    Leaves Tryz.prog Tryz.f10 tmps (ParseOut w (.error (x, a, b))) [{ target := .fn (.func 18) #[.pointer (some ⟨w.heap.size + 1, 0, none⟩), .pointer (some ⟨w.heap.size + 1 + 1, 0, none⟩)], args := #[] }] (.panicking [{ v := .iface 32 (synV x a b), recovered := false }]) W := by
  refine leaves_cons (by simp) (f := 18) (args := #[.pointer (some ⟨w.heap.size + 1, 0, none⟩), .pointer (some ⟨w.heap.size + 1 + 1, 0, none⟩)]) (by simp [go_sem]) ?_
  refine (parse_caught (w.heap.size + 1) (w.heap.size + 1 + 1) w.heap.size cs hcs _ _ _ x a b W A.k4 A.k5 (by omega) (by omega) (by omega) (by have := A.k2.lt; omega)).mono ?_
  rintro e u w' ⟨rfl, rfl, h4, h5, hB⟩
  obtain ⟨d0, d1, d2, d3, d4, d5, d6, d7, d8, d9, _, _, _, _, _, _, _, _, _, _⟩ := h4.ten
  have e0 := Blk.cell h5 (j := 0) rfl
  have e1 := Blk.cell h5 (j := 1) rfl
  have e2 := Blk.cell h5 (j := 2) rfl
  refine ⟨.tuple #[.agg zero10.toArray, .agg #[.int .i64 x, .int .i64 a, .int .i64 b]], ?_, A.bl.trans hB, rfl⟩
  simp only [Array.getD_eq_getD_getElem?] at ht4 ht5
  simp [results, Tryz.results10, go_sem, ht4, ht5, d0, d1, d2, d3, d4, d5, d6, d7, d8, d9, e0, e1, e2, Array.getD_eq_getD_getElem?]

theorem ParseAt.set {w W : World} {s : ByteArray} {c0 c1 c2 c3 c4 c5 c6 c7 c8 c9 : Value} (h : ParseAt w W s [c0, c1, c2, c3, c4, c5, c6, c7, c8, c9]) (v0 v1 v2 v3 v4 v5 v6 v7 v8 v9 : Value) : ParseAt w (World.set10 W (w.heap.size + 1) v0 v1 v2 v3 v4 v5 v6 v7 v8 v9) s [v0, v1, v2, v3, v4, v5, v6, v7, v8, v9] :=
  ⟨Blk.set10_other h.k2 (by omega) _ _ _ _ _ _ _ _ _ _, h.k4.set10 _ _ _ _ _ _ _ _ _ _, Blk.set10_other h.k5 (by omega) _ _ _ _ _ _ _ _ _ _, below_next h.bl (by have := h.k2.lt; omega) (grownBy_set10 _ _ _ _ _ _ _ _ _ _ _ _) (fun k e => by cases e; omega)⟩

/-- The last stores of Parse. -/
def World.lastP (W w : World) (v0 v1 v2 v3 v4 v5 v6 v7 v8 v9 : Value) : World := ((((World.set10 W (w.heap.size + 1) v0 v1 v2 v3 v4 v5 v6 v7 v8 v9).setCell ⟨w.heap.size + 1 + 1, 0, none⟩ (.int .i64 0)).setCell ⟨w.heap.size + 1 + 1, 1, none⟩ (.int .i64 0)).setCell ⟨w.heap.size + 1 + 1, 2, none⟩ (.int .i64 0)).drew
theorem lastP_block (W w : World) (v0 v1 v2 v3 v4 v5 v6 v7 v8 v9 : Value) (k : Nat) (hk : w.heap.size + 1 + 1 < k) : (World.lastP W w v0 v1 v2 v3 v4 v5 v6 v7 v8 v9).heap[k]? = W.heap[k]? := by
  have h1 := set10_block W (w.heap.size + 1) v0 v1 v2 v3 v4 v5 v6 v7 v8 v9 k (by omega)
  unfold World.lastP
  generalize World.set10 W (w.heap.size + 1) v0 v1 v2 v3 v4 v5 v6 v7 v8 v9 = V at h1 ⊢
  show (((V.setCell ⟨w.heap.size + 1 + 1, 0, none⟩ (.int .i64 0)).setCell ⟨w.heap.size + 1 + 1, 1, none⟩ (.int .i64 0)).setCell ⟨w.heap.size + 1 + 1, 2, none⟩ (.int .i64 0)).heap[k]? = _
  iterate 3 rw [Below.heap_setCell _ _ _ k (by show k ≠ w.heap.size + 1 + 1; omega)]
  exact h1
theorem lastP_size (W w : World) (v0 v1 v2 v3 v4 v5 v6 v7 v8 v9 : Value) : (World.lastP W w v0 v1 v2 v3 v4 v5 v6 v7 v8 v9).heap.size = W.heap.size := by simp [World.lastP, World.set10, World.setCell]
theorem ParseAt.last {w W : World} {s : ByteArray} {c0 c1 c2 c3 c4 c5 c6 c7 c8 c9 : Value} (h : ParseAt w W s [c0, c1, c2, c3, c4, c5, c6, c7, c8, c9]) (v0 v1 v2 v3 v4 v5 v6 v7 v8 v9 : Value) : ParseAt w (World.lastP W w v0 v1 v2 v3 v4 v5 v6 v7 v8 v9) s [v0, v1, v2, v3, v4, v5, v6, v7, v8, v9] := by
  have h1 := h.set v0 v1 v2 v3 v4 v5 v6 v7 v8 v9
  have e1 : w.heap.size ≠ w.heap.size + 1 + 1 := by omega
  have e2 : w.heap.size + 1 ≠ w.heap.size + 1 + 1 := by omega
  unfold World.lastP
  generalize World.set10 W (w.heap.size + 1) v0 v1 v2 v3 v4 v5 v6 v7 v8 v9 = V at h1 ⊢
  have a2 := ((h1.k2.setCell_other (a := ⟨w.heap.size + 1 + 1, 0, none⟩) e1 (.int .i64 0)).setCell_other (a := ⟨w.heap.size + 1 + 1, 1, none⟩) e1 (.int .i64 0)).setCell_other (a := ⟨w.heap.size + 1 + 1, 2, none⟩) e1 (.int .i64 0)
  have a4 := ((h1.k4.setCell_other (a := ⟨w.heap.size + 1 + 1, 0, none⟩) e2 (.int .i64 0)).setCell_other (a := ⟨w.heap.size + 1 + 1, 1, none⟩) e2 (.int .i64 0)).setCell_other (a := ⟨w.heap.size + 1 + 1, 2, none⟩) e2 (.int .i64 0)
  have a5 := ((h1.k5.set 0 (.int .i64 0)).set 1 (.int .i64 0)).set 2 (.int .i64 0)
  have a6 : Below w.heap.size w (((V.setCell ⟨w.heap.size + 1 + 1, 0, none⟩ (.int .i64 0)).setCell ⟨w.heap.size + 1 + 1, 1, none⟩ (.int .i64 0)).setCell ⟨w.heap.size + 1 + 1, 2, none⟩ (.int .i64 0)) :=
    ((h1.bl.setCell (show w.heap.size ≤ w.heap.size + 1 + 1 by omega) _).setCell (show w.heap.size ≤ w.heap.size + 1 + 1 by omega) _).setCell (show w.heap.size ≤ w.heap.size + 1 + 1 by omega) _
  exact ⟨Blk.drew a2, Blk.drew a4, Blk.drew a5, a6.drew⟩
/-- A Parse that returns. -/
theorem parse_done {w W : World} {s : ByteArray} {op : Int} {ka : Option Addr} {kn kc : Nat} {rune : Int} {xa : Option Addr} {xn xc : Nat} {pl cap : Int} {name : ByteArray} {mn mx : Int} {lz : Bool} (A : ParseAt w W s [.int .i64 op, .slice ka kn kc, .int .i32 rune, .slice xa xn xc, .int .i64 pl, .int .i64 cap, .string name, .int .i64 mn, .int .i64 mx, .bool lz]) {t : T} (hT : TreeF W (fun k => Fresh w W k) t [.int .i64 op, .slice ka kn kc, .int .i32 rune, .slice xa xn xc, .int .i64 pl, .int .i64 cap, .string name, .int .i64 mn, .int .i64 mx, .bool lz]) (tmps : Array Value) (ht4 : tmps.getD 4 undef = .pointer (some ⟨w.heap.size + 1, 0, none⟩)) (ht5 : tmps.getD 5 undef = .pointer (some ⟨w.heap.size + 1 + 1, 0, none⟩)) :
    Leaves Tryz.prog Tryz.f10 tmps (ParseOut w (.ok t)) [{ target := .fn (.func 18) #[.pointer (some ⟨w.heap.size + 1, 0, none⟩), .pointer (some ⟨w.heap.size + 1 + 1, 0, none⟩)], args := #[] }] .returning W := by
  refine leaves_cons (by simp) (f := 18) (args := #[.pointer (some ⟨w.heap.size + 1, 0, none⟩), .pointer (some ⟨w.heap.size + 1 + 1, 0, none⟩)]) (by simp [go_sem]) ?_
  refine (parse_idle _ _ W).mono ?_
  rintro e u w' ⟨rfl, rfl, rfl⟩
  obtain ⟨d0, d1, d2, d3, d4, d5, d6, d7, d8, d9, _, _, _, _, _, _, _, _, _, _⟩ := A.k4.ten
  have e0 := Blk.cell A.k5 (j := 0) rfl
  have e1 := Blk.cell A.k5 (j := 1) rfl
  have e2 := Blk.cell A.k5 (j := 2) rfl
  refine ⟨.tuple #[.agg #[.int .i64 op, .slice ka kn kc, .int .i32 rune, .slice xa xn xc, .int .i64 pl, .int .i64 cap, .string name, .int .i64 mn, .int .i64 mx, .bool lz], .agg #[.int .i64 0, .int .i64 0, .int .i64 0]], ?_, A.bl, _, rfl, hT⟩
  simp only [Array.getD_eq_getD_getElem?] at ht4 ht5
  simp [results, Tryz.results10, go_sem, ht4, ht5, d0, d1, d2, d3, d4, d5, d6, d7, d8, d9, e0, e1, e2, Array.getD_eq_getD_getElem?]
set_option maxRecDepth 100000 in
set_option maxHeartbeats 16000000 in
theorem syn_parse (s : ByteArray) (f : Int) (w : World) (hTM : TabsM w) (hs : s.size ≤ 1000000000000000) (hA : s.size ≤ 1024 → ∀ n, AllC s n) :
    Calls Tryz.prog 10 #[.string s, .int .i64 f] w (ParseOut w (parseP s f)) := by
  obtain ⟨R, hR⟩ : ∃ R, R = parseP s f := ⟨_, rfl⟩
  rw [← hR]
  unfold parseP at hR
  have HR := Lib.hid hR
  have HA := Lib.hid hA
  obtain ⟨hT, hM⟩ := hTM
  have HT := Lib.hid hT; have HM := Lib.hid hM
  have A0 := Lib.hid (ParseAt.start w s)
  have hlt := hT.lt
  have hlm := hM.lt
  clear hR hA hT hM
  go_enter_defers Tryz.func10, Tryz.ntmps10
  by_cases c1 : 0 ≤ f
  rotate_left
  · have hRe : R = .error (1, 0, s.size) := by rw [HR.out, if_pos (fun h => c1 h.1)]
    clear HR
    subst hRe
    go_wp2_with fail
    refine (parse_must_no w.heap.size s 1 _ A0.out.k2).mono ?_
    rintro e w1 ⟨rfl, rfl⟩
    exact parse_panics A0.out rfl 1 0 s.size _ (by rfl) (by rfl)
  by_cases c2 : f ≤ 63
  rotate_left
  · have hRe : R = .error (1, 0, s.size) := by rw [HR.out, if_pos (fun h => c2 h.2)]
    clear HR
    subst hRe
    go_wp2_with fail
    refine (parse_must_no w.heap.size s 1 _ A0.out.k2).mono ?_
    rintro e w1 ⟨rfl, rfl⟩
    exact parse_panics A0.out rfl 1 0 s.size _ (by rfl) (by rfl)
  go_wp2_with fail
  refine (parse_must_ok w.heap.size 1 _).mono ?_
  rintro e w1 ⟨rfl, rfl⟩
  have q2 := Blk.cell A0.out.k2 (j := 0) rfl
  have T0 := Lib.hid (HT.out.below A0.out.bl)
  generalize hW : ((w.alloc (.cells #[.string s] 9)).alloc (.cells zero10.toArray 29)).alloc (.cells #[.int .i64 0, .int .i64 0, .int .i64 0] 32) = W at A0 q2 T0 ⊢
  clear hW
  by_cases c3 : s.size ≤ 1024
  rotate_left
  · have hRe : R = .error (2, 0, s.size) := by rw [HR.out, if_neg (by simp [c1, c2]), if_pos c3]
    clear HR
    subst hRe
    have c4 : decide ((s.size : Int) ≤ 1024) = false := by simp only [decide_eq_false_iff_not]; omega
    go_wp2_with fail
    refine (parse_must_no w.heap.size s 2 _ A0.out.k2).mono ?_
    rintro e w1 ⟨rfl, rfl⟩
    exact parse_panics A0.out rfl 2 0 s.size _ (by rfl) (by rfl)
  have c4 : (s.size : Int) ≤ 1024 := by omega
  go_wp2_with fail
  refine (parse_must_ok w.heap.size 2 _).mono ?_
  rintro e w1 ⟨rfl, rfl⟩
  go_wp2_with fail
  refine (Any.utf8_ValidString Tryz.laysValid s _ (by omega) T0.out).mono ?_
  rintro e w2 ⟨rfl, hB⟩
  have A2 := Lib.hid (A0.out.below hB)
  have T2 := Lib.hid (T0.out.below hB)
  clear hB q2
  have q2 := Blk.cell A2.out.k2 (j := 0) rfl
  cases hv : Lib.validD s.data.toList with
  | false =>
    have hRe : R = .error (81, 0, s.size) := by rw [HR.out, if_neg (by simp [c1, c2]), if_neg (by simp [c3]), if_pos (by simp [hv])]
    clear HR
    subst hRe
    go_wp2_with fail
    refine (parse_must_no w.heap.size s 81 _ A2.out.k2).mono ?_
    rintro e w1 ⟨rfl, rfl⟩
    exact parse_panics A2.out rfl 81 0 s.size _ (by rfl) (by rfl)
  | true =>
    have hRe := HR.out
    rw [if_neg (by simp [c1, c2]), if_neg (by simp [c3]), if_neg (by simp [hv])] at hRe
    have HRE := Lib.hid hRe
    clear hRe HR
    have hz2 : w.heap.size + 1 + 1 < w2.heap.size := A2.out.k5.lt
    have IN := Lib.hid (show SynIn (w2.alloc (.cells #[.int .i64 f, .string s, .int .i64 0, .slice none 0 0] 52)) w2.heap.size w.heap.size s ⟨0, f, []⟩ (.slice none 0 0) from
      ⟨Blk.new w2 [.int .i64 f, .string s, .int .i64 0, .slice none 0 0] 52, World.ownsRow_nil _ _ _ _, (by intro e; cases e), by omega, ⟨T2.out.below ((Below.refl _ w2).alloc (Nat.le_refl _) _), hlt.1, hlt.2, by rw [World.size_alloc]; omega, (HM.out.below A2.out.bl).below ((Below.refl _ w2).alloc (Nat.le_refl _) _), hlm⟩, Nat.zero_le _, by simpa [Bd] using hv, Nat.zero_le _⟩)
    have A3 := Lib.hid (A2.out.below ((Below.refl _ w2).alloc (Nat.le_refl _) (.cells #[.int .i64 f, .string s, .int .i64 0, .slice none 0 0] 52)))
    have hdep := whole_dep s f c3
    have HD := Lib.hid hdep
    clear hdep
    go_wp2_with fail
    refine (parse_must_ok w.heap.size 81 _).mono ?_
    rintro e w1 ⟨rfl, rfl⟩
    go_wp2_with fail
    refine (syn_whole w2.heap.size w.heap.size s f _ _ IN.out (by omega) (HA.out c3)).mono ?_
    cases hx : wholeP s f with
    | out => exact fun e w' h => h.elim
    | wrong x a d =>
      rintro e w4 ⟨rfl, hg⟩
      have hRe := HRE.out
      rw [hx] at hRe
      simp only at hRe
      subst hRe
      exact parse_panics (A3.out.grownF hg (fun k hk => by rcases hk with rfl | h2; omega; cases h2)) rfl x a d _ (by rfl) (by rfl)
    | ok t st =>
      rintro e w4 ⟨cs, nv', rfl, hTr, hL⟩
      have hRe := HRE.out
      have hdp := HD.out
      rw [hx] at hRe hdp
      simp only at hRe
      have hdp' : depth t ≤ 1000000000 := hdp
      have HRR := Lib.hid hRe
      clear hRe hdp
      have A4 := Lib.hid (A3.out.grownF hL.g (fun k hk => by rcases hk with rfl | h2; omega; cases h2))
      obtain ⟨op, ka, kn, kc, rune, xa, xn, xc, pl, cap, name, mn, mx, lz, rfl⟩ := hTr.form
      have T4 := Lib.hid (hL.i.e.t)
      have TT := Lib.hid hTr
      clear hTr hL
      obtain ⟨c40, c41, c42, c43, c44, c45, c46, c47, c48, c49, f40, f41, f42, f43, f44, f45, f46, f47, f48, f49⟩ := A4.out.k4.ten
      have A5 := Lib.hid (A4.out.set (.int .i64 op) (.slice ka kn kc) (.int .i32 rune) (.slice xa xn xc) (.int .i64 pl) (.int .i64 cap) (.string name) (.int .i64 mn) (.int .i64 mx) (.bool lz))
      have T5 := Lib.hid (show TreeF (World.set10 w4 (w.heap.size + 1) (.int .i64 op) (.slice ka kn kc) (.int .i32 rune) (.slice xa xn xc) (.int .i64 pl) (.int .i64 cap) (.string name) (.int .i64 mn) (.int .i64 mx) (.bool lz)) (fun k => w2.heap.size ≤ k ∧ k < w4.heap.size) t _ from
        TT.out.turned (fun k hk => set10_block _ _ _ _ _ _ _ _ _ _ _ _ k (by have := hk.1.1; rw [World.size_alloc] at this; omega)) (fun k hk => ⟨by have := hk.1.1; rw [World.size_alloc] at this; omega, hk.1.2⟩))
      have Z5 := Lib.hid (show (World.set10 w4 (w.heap.size + 1) (.int .i64 op) (.slice ka kn kc) (.int .i32 rune) (.slice xa xn xc) (.int .i64 pl) (.int .i64 cap) (.string name) (.int .i64 mn) (.int .i64 mx) (.bool lz)).heap.size = w4.heap.size by simp [World.set10, World.setCell])
      clear q2
      generalize hX : World.set10 w4 (w.heap.size + 1) (.int .i64 op) (.slice ka kn kc) (.int .i32 rune) (.slice xa xn xc) (.int .i64 pl) (.int .i64 cap) (.string name) (.int .i64 mn) (.int .i64 mx) (.bool lz) = X at A5 T5 Z5
      have HX := Lib.hid hX
      clear hX
      obtain ⟨d0, d1, d2, d3, d4, d5, d6, d7, d8, d9, f0, f1, f2, f3, f4, f5, f6, f7, f8, f9⟩ := A5.out.k4.ten
      have x2 := Blk.cell A5.out.k2 (j := 0) rfl
      go_wp2_with fail
      change Calls _ _ _ (World.set10 w4 (w.heap.size + 1) (.int .i64 op) (.slice ka kn kc) (.int .i32 rune) (.slice xa xn xc) (.int .i64 pl) (.int .i64 cap) (.string name) (.int .i64 mn) (.int .i64 mx) (.bool lz)) _
      rw [HX.out]
      refine (depth_wide t _ X.heap.size X (T5.out.treeV (fun k hk => by rw [Z5.out]; exact hk.2)) (Nat.le_refl _) hdp').mono ?_
      rintro e w6 ⟨rfl, hB⟩
      have A6 := Lib.hid (A5.out.below hB)
      have T6 := Lib.hid (T5.out.turned (ok' := fun k => w2.heap.size ≤ k ∧ k < w6.heap.size) (fun k hk => hB.block k (by rw [Z5.out]; exact hk.2)) (fun k hk => ⟨hk.1, Nat.lt_of_lt_of_le hk.2 (by rw [← Z5.out]; exact hB.size)⟩))
      clear hB d0 d1 d2 d3 d4 d5 d6 d7 d8 d9 f0 f1 f2 f3 f4 f5 f6 f7 f8 f9 c40 c41 c42 c43 c44 c45 c46 c47 c48 c49 f40 f41 f42 f43 f44 f45 f46 f47 f48 f49 x2
      by_cases c5 : depth t ≤ 50
      rotate_left
      · have hRe : R = .error (86, 0, s.size) := by rw [HRR.out, if_pos (by omega)]
        subst hRe
        have c6 : decide ((depth t : Int) ≤ 50) = false := by simp only [decide_eq_false_iff_not]; omega
        go_wp2_with fail
        refine (parse_must_no w.heap.size s 86 _ A6.out.k2).mono ?_
        rintro e w1 ⟨rfl, rfl⟩
        exact parse_panics A6.out rfl 86 0 s.size _ (by rfl) (by rfl)
      have c6 : (depth t : Int) ≤ 50 := by omega
      obtain ⟨d0, d1, d2, d3, d4, d5, d6, d7, d8, d9, f0, f1, f2, f3, f4, f5, f6, f7, f8, f9⟩ := A6.out.k4.ten
      go_wp2_with fail
      refine (parse_must_ok w.heap.size 86 _).mono ?_
      rintro e w1 ⟨rfl, rfl⟩
      go_wp2_with fail
      refine (weight_any t _ w6.heap.size w6 (T6.out.treeV (fun k hk => hk.2)) (Nat.le_refl _)).mono ?_
      rintro e w7 ⟨rfl, hB⟩
      have A7 := Lib.hid (A6.out.below hB)
      have T7 := Lib.hid (T6.out.turned (ok' := fun k => w2.heap.size ≤ k ∧ k < w7.heap.size) (fun k hk => hB.block k hk.2) (fun k hk => ⟨hk.1, Nat.lt_of_lt_of_le hk.2 hB.size⟩))
      clear hB d0 d1 d2 d3 d4 d5 d6 d7 d8 d9 f0 f1 f2 f3 f4 f5 f6 f7 f8 f9
      by_cases c7 : weight t ≤ 4000
      rotate_left
      · have hRe : R = .error (87, 0, s.size) := by rw [HRR.out, if_neg (by omega), if_pos (by omega)]
        subst hRe
        have c8 : decide (weight t ≤ 4000) = false := by simp only [decide_eq_false_iff_not]; omega
        go_wp2_with fail
        refine (parse_must_no w.heap.size s 87 _ A7.out.k2).mono ?_
        rintro e w1 ⟨rfl, rfl⟩
        exact parse_panics A7.out rfl 87 0 s.size _ (by rfl) (by rfl)
      have hRe : R = .ok t := by rw [HRR.out, if_neg (by omega), if_neg (by omega)]
      subst hRe
      go_wp2_with fail
      refine (parse_must_ok w.heap.size 87 _).mono ?_
      rintro e w1 ⟨rfl, rfl⟩
      obtain ⟨d0, d1, d2, d3, d4, d5, d6, d7, d8, d9, f0, f1, f2, f3, f4, f5, f6, f7, f8, f9⟩ := A7.out.k4.ten
      have e0 := Blk.cell A7.out.k5 (j := 0) rfl
      have e1 := Blk.cell A7.out.k5 (j := 1) rfl
      have e2 := Blk.cell A7.out.k5 (j := 2) rfl
      have g0 := A7.out.k5.frozen 0
      have g1 := A7.out.k5.frozen 1
      have g2 := A7.out.k5.frozen 2
      have hz7 := A7.out.k5.lt
      have n1 : w.heap.size + 1 ≠ w.heap.size + 1 + 1 := by omega
      have n2 : w.heap.size + 1 + 1 ≠ w.heap.size + 1 := by omega
      go_wp2_with fail
      go_region
      all_goals go_wp2_with fail
      all_goals
        exact parse_done (A7.out.last (.int .i64 op) (.slice ka kn kc) (.int .i32 rune) (.slice xa xn xc) (.int .i64 pl) (.int .i64 cap) (.string name) (.int .i64 mn) (.int .i64 mx) (.bool lz)) (T7.out.turned (fun k hk => lastP_block _ _ _ _ _ _ _ _ _ _ _ _ k (by have := hk.1; omega)) (fun k hk => ⟨by have := hk.1; omega, by rw [lastP_size]; exact hk.2⟩)) _ (by rfl) (by rfl)
end Go.Proofs.YtnhnldmldnhaoaaGreatDoor

namespace Go.Proofs.YtnhnldmldnhaoaaGreatDoor
open Go Go.RowKit Go.Proofs Go.Shelf

/-- No byte of a text is a backslash, a [, or a ? behind a (. -/
def plainB (s : ByteArray) : Bool := s.data.toList.all fun c => c != 92 && c != 91 && c != 63
theorem plainB_at {s : ByteArray} (h : plainB s = true) {p : Nat} (hp : p < s.size) : s[p] ≠ 92 ∧ s[p] ≠ 91 ∧ s[p] ≠ 63 := by
  unfold plainB at h
  rw [List.all_eq_true] at h
  have h1 := h s[p] (by
    have : s[p] = s.data.toList[p]'(by simpa using hp) := by simp; rfl
    rw [this]; exact List.getElem_mem _)
  simp at h1
  exact ⟨h1.1.1, h1.1.2, h1.2⟩
theorem plain_next {s : ByteArray} (h : plainB s = true) (p : Nat) : nextC s p ≠ 92 ∧ nextC s p ≠ 91 := by
  constructor
  · intro e
    have h1 := stands_of_nextC (s := s) (p := p) (c := 92) e (by decide)
    obtain ⟨hl, h2⟩ := (stands_one s p 92).1 h1
    exact (plainB_at h hl).1 h2
  · intro e
    have h1 := stands_of_nextC (s := s) (p := p) (c := 91) e (by decide)
    obtain ⟨hl, h2⟩ := (stands_one s p 91).1 h1
    exact (plainB_at h hl).2.1 h2
theorem plain_ask {s : ByteArray} (h : plainB s = true) (p : Nat) : stands s p [40, 63] = false := by
  cases hst : stands s p [40, 63] with
  | false => rfl
  | true =>
    exfalso
    unfold stands Lib.hasPrefix at hst
    rw [List.isPrefixOf_iff_prefix] at hst
    obtain ⟨r, hr⟩ := hst
    have h1 : (s.data.toList.drop p)[1]? = some 63 := by rw [← hr]; rfl
    rw [List.getElem?_drop] at h1
    obtain ⟨hl, h2⟩ := List.getElem?_eq_some_iff.1 h1
    have hp : p + 1 < s.size := by simpa using hl
    refine (plainB_at h hp).2.2 ?_
    rw [← h2]
    simp
    rfl
end Go.Proofs.YtnhnldmldnhaoaaGreatDoor

namespace Go.Proofs.YtnhnldmldnhaoaaGreatDoor
open Go Go.RowKit Go.Proofs Go.Shelf

theorem head_ab : parseP ⟨#[97, 124, 98, 42]⟩ 0 = .ok (kidsT 12 [leafT 3 97 [] 0, repT 7 (leafT 3 98 [] 0) 0 0 false]) := by kernel_rfl
theorem head_pa : parseP ⟨#[40, 97]⟩ 0 = .error (84, 0, 2) := by kernel_rfl
end Go.Proofs.YtnhnldmldnhaoaaGreatDoor

namespace Go.Proofs.YtnhnldmldnhaoaaGreatDoor
open Go Go.RowKit Go.Proofs Go.Shelf

/-- A pattern without a backslash, a class, a question. -/
theorem parse_plain (s : ByteArray) (f : Int) (w : World) (hT : TabsM w) (hs : s.size ≤ 1000000000000000) (h : s.size ≤ 1024 → plainB s = true) : Calls Tryz.prog 10 #[.string s, .int .i64 f] w (ParseOut w (parseP s f)) :=
  syn_parse s f w hT hs fun hz n => syn_all_plain s (by omega) (fun p => (plain_next (h hz) p).1) (fun p => (plain_next (h hz) p).2) (plain_ask (h hz)) n
theorem head_first (w : World) (hT : TabsM w) : Calls Tryz.prog 10 #[.string ⟨#[97, 124, 98, 42]⟩, .int .i64 0] w fun e w' => Below w.heap.size w w' ∧ ∃ (b o kc : Nat) (sa : Option Addr) (sc : Nat), e = .returned (.tuple #[.agg #[.int .i64 12, .slice (some ⟨b, o, none⟩) 2 kc, .int .i32 0, .slice sa 0 sc, .int .i64 0, .int .i64 0, .string ⟨#[]⟩, .int .i64 0, .int .i64 0, .bool false], .agg #[.int .i64 0, .int .i64 0, .int .i64 0]]) ∧ b < w'.heap.size ∧ w'.cell? ⟨b, o + 10, none⟩ = some (.int .i64 7) := by
  refine (parse_plain _ 0 w hT (by decide) (fun _ => by decide)).mono ?_
  rw [head_ab]
  rintro e w' ⟨hB, cs, rfl, hTr⟩
  refine ⟨hB, ?_⟩
  obtain ⟨ka, kn, kc, sa, sn, sc, rfl, ⟨rfl, hkc, h0 | ⟨b, o, rfl, hb, hK⟩⟩, hS⟩ := (show TreeF _ _ (.mk 12 [leafT 3 97 [] 0, repT 7 (leafT 3 98 [] 0) 0 0 false] 0 [] 0 0 ⟨#[]⟩ 0 0 false) cs from hTr).open
  · cases h0
  · obtain ⟨_, hK2⟩ := KidsF.cons.1 hK
    obtain ⟨⟨cs2, hT2, hr2⟩, _⟩ := KidsF.cons.1 hK2
    obtain ⟨ka2, kn2, kc2, sa2, sn2, sc2, rfl, _, _⟩ := (show TreeF _ _ (.mk 7 [leafT 3 98 [] 0] 0 [] 0 0 ⟨#[]⟩ 0 0 false) cs2 from hT2).open
    obtain ⟨rfl, hc, h3⟩ := hS
    have h1 := hr2 0 (by simp)
    exact ⟨b, o, kc, sa, sc, rfl, hb.2, by simpa using h1⟩
theorem head_second (w : World) (hT : TabsM w) : Calls Tryz.prog 10 #[.string ⟨#[40, 97]⟩, .int .i64 0] w fun e w' => Below w.heap.size w w' ∧ e = .returned (.tuple #[.agg zero10.toArray, .agg #[.int .i64 84, .int .i64 0, .int .i64 2]]) := by
  refine (parse_plain _ 0 w hT (by decide) (fun _ => by decide)).mono ?_
  rw [head_pa]
  rintro e w' ⟨hB, rfl⟩
  exact ⟨hB, rfl⟩
set_option maxRecDepth 100000 in
set_option maxHeartbeats 4000000 in
theorem head08 (w : World) (hT : TabsM w) : Calls Tryz.prog 9 #[] w fun e w' => e = .returned (.bool true) ∧ Below w.heap.size w w' := by
  have HT := Lib.hid hT; clear hT
  go_enter Tryz.func9, Tryz.ntmps9
  go_wp2_with fail
  refine (head_first w HT.out).mono ?_
  rintro e w1 ⟨hB, b, o, kc, sa, sc, rfl, hb, z⟩
  have T1 := Lib.hid ((HT.out.below hB).below (((Below.refl _ w1).alloc (Nat.le_refl _) (.cells #[.int .i64 12, .slice (some ⟨b, o, none⟩) 2 kc, .int .i32 0, .slice sa 0 sc, .int .i64 0, .int .i64 0, .string ⟨#[]⟩, .int .i64 0, .int .i64 0, .bool false] 29)).alloc (by simp) (.cells #[.int .i64 0, .int .i64 0, .int .i64 0] 32)))
  have B1 := Lib.hid (((Below.refl _ w1).alloc (Nat.le_refl _) (.cells #[.int .i64 12, .slice (some ⟨b, o, none⟩) 2 kc, .int .i32 0, .slice sa 0 sc, .int .i64 0, .int .i64 0, .string ⟨#[]⟩, .int .i64 0, .int .i64 0, .bool false] 29)).alloc (by simp) (.cells #[.int .i64 0, .int .i64 0, .int .i64 0] 32))
  have K1 := Lib.hid ((Blk.new w1 [.int .i64 12, .slice (some ⟨b, o, none⟩) 2 kc, .int .i32 0, .slice sa 0 sc, .int .i64 0, .int .i64 0, .string ⟨#[]⟩, .int .i64 0, .int .i64 0, .bool false] 29).alloc (.cells #[.int .i64 0, .int .i64 0, .int .i64 0] 32))
  have K2 := Lib.hid (Blk.new (w1.alloc (.cells #[.int .i64 12, .slice (some ⟨b, o, none⟩) 2 kc, .int .i32 0, .slice sa 0 sc, .int .i64 0, .int .i64 0, .string ⟨#[]⟩, .int .i64 0, .int .i64 0, .bool false] 29)) [.int .i64 0, .int .i64 0, .int .i64 0] 32)
  have Z := Lib.hid z
  have HB := Lib.hid hB
  have hzz := hB.size
  clear hB z
  go_wp2_with fail
  refine (head_second _ T1.out).mono ?_
  rintro e w2 ⟨hB, rfl⟩
  rw [World.size_alloc] at K2
  have K1' := Blk.below K1.out hB K1.out.lt
  have K2' := Blk.below K2.out hB K2.out.lt
  have z2 : w2.cell? ⟨b, o + 10, none⟩ = some (.int .i64 7) := by
    have h1 := below_then B1.out hB
    rw [World.cell?_of_block (w := w1) (h1.block b hb)]
    exact Z.out
  have BB := Lib.hid (below_then HB.out (below_then B1.out hB))
  have X1 := (K1'.alloc (.cells zero10.toArray 29)).alloc (.cells #[.int .i64 84, .int .i64 0, .int .i64 2] 32)
  have X2 := (K2'.alloc (.cells zero10.toArray 29)).alloc (.cells #[.int .i64 84, .int .i64 0, .int .i64 2] 32)
  have X4 := Blk.new (w2.alloc (.cells zero10.toArray 29)) [.int .i64 84, .int .i64 0, .int .i64 2] 32
  rw [World.size_alloc] at X4
  have BX := ((Below.refl _ w2).alloc (Nat.le_refl _) (.cells zero10.toArray 29)).alloc (by simp) (.cells #[.int .i64 84, .int .i64 0, .int .i64 2] 32)
  have hbz : b < w2.heap.size := by have h1 := (below_then B1.out hB).size; omega
  clear hB K1' K2'
  generalize hX : (w2.alloc (.cells zero10.toArray 29)).alloc (.cells #[.int .i64 84, .int .i64 0, .int .i64 2] 32) = X at X1 X2 X4 BX
  have c0 := Blk.cell X1 (j := 0) rfl
  have c1 := Blk.cell X1 (j := 1) rfl
  have d0 := Blk.cell X2 (j := 0) rfl
  have e0 := Blk.cell X4 (j := 0) rfl
  have z3 : X.cell? ⟨b, o + 10, none⟩ = some (.int .i64 7) := by rw [World.cell?_of_block (w := w2) (BX.block b hbz)]; exact z2
  have BB2 := Lib.hid (below_then BB.out BX)
  clear X1 X2 X4 BX z2
  go_wp2_with fail
  go_ret
  exact ⟨rfl, BB2.out⟩
end Go.Proofs.YtnhnldmldnhaoaaGreatDoor
