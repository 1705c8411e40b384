/- The reader of patterns: a repeat whose sign is taken. (Printed by gen_syrep.py.) -/
import Derived.Test.YtnhnldmldnhaoaaGreatDoorDSySign
import Derived.Test.YtnhnldmldnhaoaaGreatDoorDSynPure
namespace Go.Proofs.YtnhnldmldnhaoaaGreatDoor
open Go Go.RowKit Go.Proofs Go.Shelf

theorem grownBy_newS {a b : World} {row : Option Nat} (h : a.grownBy b row) {k : Nat} (hk : a.heap.size ≤ k) (j : Nat) (v : Value) : a.grownBy (b.setCell ⟨k, j, none⟩ v) row :=
  ⟨h.os, h.tape, h.output, by have := h.size; simpa [World.setCell] using this, fun i hi hne => (Below.heap_setCell b ⟨k, j, none⟩ v i (by show i ≠ k; omega)).trans (h.block i hi hne)⟩
/-- What a repeat hands back. -/
def RepOut (w : World) (b : Nat) (s : ByteArray) (f : Int) (nv : Value) (op : Int) (ka : Option Addr) (kn kc : Nat) (mn mx : Int) (r : Except (Int × Int × Int) (Bool × Nat)) (e : Ending) (w' : World) : Prop :=
  w.grownBy w' (some b) ∧ match r with
  | .error (x, a, d) => e = synE x a d
  | .ok (lz, q) => e = .returned (.agg (repC op ka kn kc mn mx lz).toArray) ∧ SyR w' b s f q nv
/-- The frame of a repeat, laid. -/
structure RepAt (w W : World) (b : Nat) (s : ByteArray) (f : Int) (p : Nat) (nv : Value) (cs : List Value) : Prop where
  r : SyR W b s f p nv
  k5 : Blk W w.heap.size cs 29
  k6 : Blk W (w.heap.size + 1) zero10 29
  g : w.grownBy W (some b)
theorem RepAt.start {w : World} {b : Nat} {s : ByteArray} {f : Int} {p : Nat} {nv : Value} (h : SyR w b s f p nv) (cs : List Value) : RepAt w ((w.alloc (.cells cs.toArray 29)).alloc (.cells zero10.toArray 29)) b s f p nv cs := by
  have k := Blk.new (w.alloc (.cells cs.toArray 29)) zero10 29
  rw [World.size_alloc] at k
  exact ⟨Blk.alloc (Blk.alloc h _) _, (Blk.new w cs 29).alloc _, k, grownBy_trans (grownBy_alloc _ _ _) (grownBy_alloc _ _ _)⟩
theorem RepAt.below {w W W' : World} {b : Nat} {s : ByteArray} {f : Int} {p : Nat} {nv : Value} {cs : List Value} (h : RepAt w W b s f p nv cs) (hB : Below W.heap.size W W') : RepAt w W' b s f p nv cs :=
  ⟨Blk.below h.r hB h.r.lt, Blk.below h.k5 hB h.k5.lt, Blk.below h.k6 hB h.k6.lt, grownBy_trans h.g (grownBy_below hB _)⟩
theorem RepAt.grown {w W W' : World} {b : Nat} {s : ByteArray} {f : Int} {p p' : Nat} {nv : Value} {cs : List Value} (h : RepAt w W b s f p nv cs) (hb : b < w.heap.size) (hr : SyR W' b s f p' nv) (hG : W.grownBy W' (some b)) : RepAt w W' b s f p' nv cs :=
  ⟨hr, h.k5.grown hG (ne_some (by omega)), h.k6.grown hG (ne_some (by omega)), grownBy_trans h.g hG⟩
theorem RepAt.lazy {w W : World} {b : Nat} {s : ByteArray} {f : Int} {p : Nat} {nv : Value} {op : Int} {ka : Option Addr} {kn kc : Nat} {mn mx : Int} {lz : Bool} (h : RepAt w W b s f p nv (repC op ka kn kc mn mx lz)) (hb : b < w.heap.size) (z : Bool) :
    RepAt w (W.setCell ⟨w.heap.size, 9, none⟩ (.bool z)) b s f p nv (repC op ka kn kc mn mx z) :=
  ⟨h.r.setCell_other (a := ⟨w.heap.size, 9, none⟩) (by show b ≠ w.heap.size; omega) _, h.k5.set 9 _, h.k6.setCell_other (a := ⟨w.heap.size, 9, none⟩) (by show w.heap.size + 1 ≠ w.heap.size; omega) _, grownBy_newS h.g (Nat.le_refl _) 9 _⟩
theorem RepAt.alloc {w W : World} {b : Nat} {s : ByteArray} {f : Int} {p : Nat} {nv : Value} {cs : List Value} (h : RepAt w W b s f p nv cs) (o : Obj) : RepAt w (W.alloc o) b s f p nv cs := h.below ((Below.refl _ W).alloc (Nat.le_refl _) o)

set_option maxRecDepth 100000 in
set_option maxHeartbeats 8000000 in
theorem syn_rep_bad (b : Nat) (s : ByteArray) (f : Int) (p : Nat) (nv : Value) (op : Int) (ka : Option Addr) (kn kc : Nat) (mn mx : Int) (fr : Nat) (w : World) (h : SyR w b s f p nv) (hc : badCount op mn mx) :
    Calls Tryz.prog 63 #[.pointer (some ⟨b, 0, none⟩), .int .i64 fr, .agg #[.int .i64 op, .slice ka kn kc, .int .i32 0, .slice none 0 0, .int .i64 0, .int .i64 0, .string ⟨#[]⟩, .int .i64 mn, .int .i64 mx, .bool false]] w (RepOut w b s f nv op ka kn kc mn mx (.error (85, fr, p))) := by
  have hb := h.lt
  have A0 := Lib.hid (RepAt.start h (repC op ka kn kc mn mx false))
  clear h
  go_enter Tryz.func63, Tryz.ntmps63
  go_wp2_with fail
  refine (syn_sized_bad b s f p nv op ka kn kc mn mx false fr _ A0.out.r hc).mono ?_
  rintro e w1 ⟨rfl, hB⟩
  exact ⟨rfl, (A0.out.below hB).g, rfl⟩

set_option maxRecDepth 100000 in
set_option maxHeartbeats 8000000 in
theorem syn_rep_plain_none (b : Nat) (s : ByteArray) (f : Int) (p : Nat) (nv : Value) (op : Int) (ka : Option Addr) (kn kc : Nat) (mn mx : Int) (fr : Nat) (w : World) (h : SyR w b s f p nv) (hp : p ≤ s.size) (hs : s.size ≤ 100000000000000) (hc : ¬ badCount op mn mx) (hP : onB f 32 = false) (o : Nat) (hsg : signP s p = (none, o)) :
    Calls Tryz.prog 63 #[.pointer (some ⟨b, 0, none⟩), .int .i64 fr, .agg #[.int .i64 op, .slice ka kn kc, .int .i32 0, .slice none 0 0, .int .i64 0, .int .i64 0, .string ⟨#[]⟩, .int .i64 mn, .int .i64 mx, .bool false]] w (RepOut w b s f nv op ka kn kc mn mx (.ok (false != onB f 16, p))) := by
  have hb := h.lt
  have A0 := Lib.hid (RepAt.start h (repC op ka kn kc mn mx false))
  clear h
  go_enter Tryz.func63, Tryz.ntmps63
  go_wp2_with fail
  refine (syn_sized_ok b op ka kn kc mn mx false fr _ hc).mono ?_
  rintro e w1 ⟨rfl, hB⟩
  have A1 := Lib.hid (A0.out.below hB); clear hB
  have g0 := Blk.cell A1.out.r (j := 0) rfl
  go_wp2_with fail
  refine (syn_on f 32 _).mono ?_
  rintro e w2 ⟨rfl, hB⟩
  rw [hP]
  have A2 := Lib.hid (A1.out.below hB); clear hB g0
  have A3 := A2
  have g0 := Blk.cell A3.out.r (j := 0) rfl
  go_wp2_with fail
  refine (syn_on f 16 _).mono ?_
  rintro e w4 ⟨rfl, hB⟩
  have A4 := Lib.hid (A3.out.below hB); clear hB g0
  obtain ⟨S, hS⟩ : ∃ S, S = onB f 16 := ⟨_, rfl⟩
  rw [← hS]
  have HS := Lib.hid hS; clear hS
  have c9 : w4.cell? ⟨w.heap.size, 9, none⟩ = some (.bool false) := Blk.cell A4.out.k5 rfl
  have f9 := A4.out.k5.frozen 9
  have n5 : b ≠ w.heap.size := by omega
  have n5' : w.heap.size ≠ b := by omega
  have g2 := Blk.cell A4.out.r (j := 2) rfl
  have A5 := Lib.hid (A4.out.lazy hb S)
  go_wp2_with fail
  refine (syn_sign b s f p nv _ A5.out.r hp hs).mono ?_
  rw [hsg]
  rintro e w6 ⟨rfl, hR, hG⟩
  have A6 := Lib.hid ((A5.out.grown hb hR hG).alloc (.cells (repC 10 none 0 0 0 0 false).toArray 29)); clear hR hG c9 f9 g2
  have A6' : RepAt w (w6.alloc (.cells #[.int .i64 10, .slice none 0 0, .int .i32 0, .slice none 0 0, .int .i64 0, .int .i64 0, .string ⟨#[]⟩, .int .i64 0, .int .i64 0, .bool false] 29)) b s f p nv (repC op ka kn kc mn mx S) := A6.out
  obtain ⟨W7, hW7⟩ : ∃ W7, W7 = w6.alloc (.cells #[.int .i64 10, .slice none 0 0, .int .i32 0, .slice none 0 0, .int .i64 0, .int .i64 0, .string ⟨#[]⟩, .int .i64 0, .int .i64 0, .bool false] 29) := ⟨_, rfl⟩
  rw [← hW7] at A6'
  obtain ⟨c0, c1, c2, c3, c4, c5, c6, c7, c8, c9, f0, f1, f2, f3, f4, f5, f6, f7, f8, f9⟩ := A6'.k5.ten
  obtain ⟨e0, e1, e2, e3, e4, e5, e6, e7, e8, e9, h0, h1, h2, h3, h4, h5, h6, h7, h8, h9⟩ := A6'.k6.ten
  have HA := Lib.hid A6'; have HW := Lib.hid hW7
  clear hW7 A6'
  unfold repC
  go_wp2_with (rw [← HW.out])
  change bodyPost _ _ _ _ _ (World.set10 W7 (w.heap.size + 1) (.int .i64 op) (.slice ka kn kc) (.int .i32 0) (.slice none 0 0) (.int .i64 0) (.int .i64 0) (.string ⟨#[]⟩) (.int .i64 mn) (.int .i64 mx) (.bool S))
  have O := HA.out.k6.set10 (.int .i64 op) (.slice ka kn kc) (.int .i32 0) (.slice none 0 0) (.int .i64 0) (.int .i64 0) (.string ⟨#[]⟩) (.int .i64 mn) (.int .i64 mx) (.bool S)
  obtain ⟨x0, x1, x2, x3, x4, x5, x6, x7, x8, x9, _, _, _, _, _, _, _, _, _, _⟩ := O.ten
  refine ⟨rfl, .agg (repC op ka kn kc mn mx S).toArray, ?_, grownBy_new10 HA.out.g (by omega) _ _ _ _ _ _ _ _ _ _, by rw [HS.out]; simp, Blk.set10_other HA.out.r (by omega) _ _ _ _ _ _ _ _ _ _⟩
  simp [results, Tryz.results63, go_sem, repC, x0, x1, x2, x3, x4, x5, x6, x7, x8, x9]

set_option maxRecDepth 100000 in
set_option maxHeartbeats 8000000 in
theorem syn_rep_plain_bad (b : Nat) (s : ByteArray) (f : Int) (p : Nat) (nv : Value) (op : Int) (ka : Option Addr) (kn kc : Nat) (mn mx : Int) (fr : Nat) (w : World) (h : SyR w b s f p nv) (hp : p ≤ s.size) (hs : s.size ≤ 100000000000000) (hc : ¬ badCount op mn mx) (hP : onB f 32 = false) (o2 a2 b2 : Int) (q : Nat) (hsg : signP s p = (some (o2, a2, b2), q)) (hc2 : badCount o2 a2 b2) :
    Calls Tryz.prog 63 #[.pointer (some ⟨b, 0, none⟩), .int .i64 fr, .agg #[.int .i64 op, .slice ka kn kc, .int .i32 0, .slice none 0 0, .int .i64 0, .int .i64 0, .string ⟨#[]⟩, .int .i64 mn, .int .i64 mx, .bool false]] w (RepOut w b s f nv op ka kn kc mn mx (.error (85, (p : Nat), q))) := by
  have hb := h.lt
  have A0 := Lib.hid (RepAt.start h (repC op ka kn kc mn mx false))
  clear h
  go_enter Tryz.func63, Tryz.ntmps63
  go_wp2_with fail
  refine (syn_sized_ok b op ka kn kc mn mx false fr _ hc).mono ?_
  rintro e w1 ⟨rfl, hB⟩
  have A1 := Lib.hid (A0.out.below hB); clear hB
  have g0 := Blk.cell A1.out.r (j := 0) rfl
  go_wp2_with fail
  refine (syn_on f 32 _).mono ?_
  rintro e w2 ⟨rfl, hB⟩
  rw [hP]
  have A2 := Lib.hid (A1.out.below hB); clear hB g0
  have A3 := A2
  have g0 := Blk.cell A3.out.r (j := 0) rfl
  go_wp2_with fail
  refine (syn_on f 16 _).mono ?_
  rintro e w4 ⟨rfl, hB⟩
  have A4 := Lib.hid (A3.out.below hB); clear hB g0
  obtain ⟨S, hS⟩ : ∃ S, S = onB f 16 := ⟨_, rfl⟩
  rw [← hS]
  have HS := Lib.hid hS; clear hS
  have c9 : w4.cell? ⟨w.heap.size, 9, none⟩ = some (.bool false) := Blk.cell A4.out.k5 rfl
  have f9 := A4.out.k5.frozen 9
  have n5 : b ≠ w.heap.size := by omega
  have n5' : w.heap.size ≠ b := by omega
  have g2 := Blk.cell A4.out.r (j := 2) rfl
  have A5 := Lib.hid (A4.out.lazy hb S)
  go_wp2_with fail
  refine (syn_sign b s f p nv _ A5.out.r hp hs).mono ?_
  rw [hsg]
  rintro e w6 ⟨rfl, hR, hG⟩
  have A6 := Lib.hid ((A5.out.grown hb hR hG).alloc (.cells (repC o2 none 0 0 a2 b2 false).toArray 29)); clear hR hG c9 f9 g2
  unfold repC
  go_wp2_with fail
  refine (syn_sized_bad b s f q nv o2 none 0 0 a2 b2 false _ _ A6.out.r hc2).mono ?_
  rintro e w8 ⟨rfl, hB⟩
  exact ⟨rfl, (A6.out.below hB).g, rfl⟩
set_option maxRecDepth 100000 in
set_option maxHeartbeats 8000000 in
theorem syn_rep_plain_nest (b : Nat) (s : ByteArray) (f : Int) (p : Nat) (nv : Value) (op : Int) (ka : Option Addr) (kn kc : Nat) (mn mx : Int) (fr : Nat) (w : World) (h : SyR w b s f p nv) (hp : p ≤ s.size) (hs : s.size ≤ 100000000000000) (hc : ¬ badCount op mn mx) (hP : onB f 32 = false) (o2 a2 b2 : Int) (q : Nat) (hsg : signP s p = (some (o2, a2, b2), q)) (hc2 : ¬ badCount o2 a2 b2) :
    Calls Tryz.prog 63 #[.pointer (some ⟨b, 0, none⟩), .int .i64 fr, .agg #[.int .i64 op, .slice ka kn kc, .int .i32 0, .slice none 0 0, .int .i64 0, .int .i64 0, .string ⟨#[]⟩, .int .i64 mn, .int .i64 mx, .bool false]] w (RepOut w b s f nv op ka kn kc mn mx (.error (83, fr, (q : Nat)))) := by
  have hb := h.lt
  have A0 := Lib.hid (RepAt.start h (repC op ka kn kc mn mx false))
  clear h
  go_enter Tryz.func63, Tryz.ntmps63
  go_wp2_with fail
  refine (syn_sized_ok b op ka kn kc mn mx false fr _ hc).mono ?_
  rintro e w1 ⟨rfl, hB⟩
  have A1 := Lib.hid (A0.out.below hB); clear hB
  have g0 := Blk.cell A1.out.r (j := 0) rfl
  go_wp2_with fail
  refine (syn_on f 32 _).mono ?_
  rintro e w2 ⟨rfl, hB⟩
  rw [hP]
  have A2 := Lib.hid (A1.out.below hB); clear hB g0
  have A3 := A2
  have g0 := Blk.cell A3.out.r (j := 0) rfl
  go_wp2_with fail
  refine (syn_on f 16 _).mono ?_
  rintro e w4 ⟨rfl, hB⟩
  have A4 := Lib.hid (A3.out.below hB); clear hB g0
  obtain ⟨S, hS⟩ : ∃ S, S = onB f 16 := ⟨_, rfl⟩
  rw [← hS]
  have HS := Lib.hid hS; clear hS
  have c9 : w4.cell? ⟨w.heap.size, 9, none⟩ = some (.bool false) := Blk.cell A4.out.k5 rfl
  have f9 := A4.out.k5.frozen 9
  have n5 : b ≠ w.heap.size := by omega
  have n5' : w.heap.size ≠ b := by omega
  have g2 := Blk.cell A4.out.r (j := 2) rfl
  have A5 := Lib.hid (A4.out.lazy hb S)
  go_wp2_with fail
  refine (syn_sign b s f p nv _ A5.out.r hp hs).mono ?_
  rw [hsg]
  rintro e w6 ⟨rfl, hR, hG⟩
  have A6 := Lib.hid ((A5.out.grown hb hR hG).alloc (.cells (repC o2 none 0 0 a2 b2 false).toArray 29)); clear hR hG c9 f9 g2
  unfold repC
  go_wp2_with fail
  refine (syn_sized_ok b o2 none 0 0 a2 b2 false _ _ hc2).mono ?_
  rintro e w8 ⟨rfl, hB⟩
  have A8 := Lib.hid (A6.out.below hB); clear hB
  have g0 := Blk.cell A8.out.r (j := 0) rfl
  have g2 := Blk.cell A8.out.r (j := 2) rfl
  go_wp2_with fail
  refine (syn_on f 32 _).mono ?_
  rintro e w9 ⟨rfl, hB⟩
  rw [hP]
  have A9 := Lib.hid (A8.out.below hB); clear hB g0 g2
  have g2 := Blk.cell A9.out.r (j := 2) rfl
  go_wp2_with fail
  have AA := A9
  refine (syn_stop _ _ _ _).mono ?_
  rintro e wb ⟨rfl, rfl⟩
  exact ⟨rfl, AA.out.g, rfl⟩

set_option maxRecDepth 100000 in
set_option maxHeartbeats 8000000 in
theorem syn_rep_lazy_none (b : Nat) (s : ByteArray) (f : Int) (p : Nat) (nv : Value) (op : Int) (ka : Option Addr) (kn kc : Nat) (mn mx : Int) (fr : Nat) (w : World) (h : SyR w b s f p nv) (hp : p ≤ s.size) (hs : s.size ≤ 100000000000000) (hc : ¬ badCount op mn mx) (hP : onB f 32 = true) (hz : stands s p [63] = true) (hp1 : p + 1 ≤ s.size) (o : Nat) (hsg : signP s (p + 1) = (none, o)) :
    Calls Tryz.prog 63 #[.pointer (some ⟨b, 0, none⟩), .int .i64 fr, .agg #[.int .i64 op, .slice ka kn kc, .int .i32 0, .slice none 0 0, .int .i64 0, .int .i64 0, .string ⟨#[]⟩, .int .i64 mn, .int .i64 mx, .bool false]] w (RepOut w b s f nv op ka kn kc mn mx (.ok (true != onB f 16, (p + 1)))) := by
  have hb := h.lt
  have A0 := Lib.hid (RepAt.start h (repC op ka kn kc mn mx false))
  clear h
  go_enter Tryz.func63, Tryz.ntmps63
  go_wp2_with fail
  refine (syn_sized_ok b op ka kn kc mn mx false fr _ hc).mono ?_
  rintro e w1 ⟨rfl, hB⟩
  have A1 := Lib.hid (A0.out.below hB); clear hB
  have g0 := Blk.cell A1.out.r (j := 0) rfl
  go_wp2_with fail
  refine (syn_on f 32 _).mono ?_
  rintro e w2 ⟨rfl, hB⟩
  rw [hP]
  have A2 := Lib.hid (A1.out.below hB); clear hB g0
  go_wp2_with fail
  refine (syn_has_yes b s 63 f p nv _ A2.out.r hp (by omega) hz).mono ?_
  rintro e w3 ⟨rfl, hR, hG⟩
  have A3 := Lib.hid (A2.out.grown hb hR hG); clear hR hG
  have g0 := Blk.cell A3.out.r (j := 0) rfl
  go_wp2_with fail
  refine (syn_on f 16 _).mono ?_
  rintro e w4 ⟨rfl, hB⟩
  have A4 := Lib.hid (A3.out.below hB); clear hB g0
  obtain ⟨S, hS⟩ : ∃ S, S = onB f 16 := ⟨_, rfl⟩
  rw [← hS]
  have HS := Lib.hid hS; clear hS
  have c9 : w4.cell? ⟨w.heap.size, 9, none⟩ = some (.bool false) := Blk.cell A4.out.k5 rfl
  have f9 := A4.out.k5.frozen 9
  have n5 : b ≠ w.heap.size := by omega
  have n5' : w.heap.size ≠ b := by omega
  have g2 := Blk.cell A4.out.r (j := 2) rfl
  have A5 := Lib.hid (A4.out.lazy hb (!S))
  go_wp2_with fail
  refine (syn_sign b s f (p + 1) nv _ A5.out.r hp1 hs).mono ?_
  rw [hsg]
  rintro e w6 ⟨rfl, hR, hG⟩
  have A6 := Lib.hid ((A5.out.grown hb hR hG).alloc (.cells (repC 10 none 0 0 0 0 false).toArray 29)); clear hR hG c9 f9 g2
  have A6' : RepAt w (w6.alloc (.cells #[.int .i64 10, .slice none 0 0, .int .i32 0, .slice none 0 0, .int .i64 0, .int .i64 0, .string ⟨#[]⟩, .int .i64 0, .int .i64 0, .bool false] 29)) b s f (p + 1) nv (repC op ka kn kc mn mx (!S)) := A6.out
  obtain ⟨W7, hW7⟩ : ∃ W7, W7 = w6.alloc (.cells #[.int .i64 10, .slice none 0 0, .int .i32 0, .slice none 0 0, .int .i64 0, .int .i64 0, .string ⟨#[]⟩, .int .i64 0, .int .i64 0, .bool false] 29) := ⟨_, rfl⟩
  rw [← hW7] at A6'
  obtain ⟨c0, c1, c2, c3, c4, c5, c6, c7, c8, c9, f0, f1, f2, f3, f4, f5, f6, f7, f8, f9⟩ := A6'.k5.ten
  obtain ⟨e0, e1, e2, e3, e4, e5, e6, e7, e8, e9, h0, h1, h2, h3, h4, h5, h6, h7, h8, h9⟩ := A6'.k6.ten
  have HA := Lib.hid A6'; have HW := Lib.hid hW7
  clear hW7 A6'
  unfold repC
  go_wp2_with (rw [← HW.out])
  change bodyPost _ _ _ _ _ (World.set10 W7 (w.heap.size + 1) (.int .i64 op) (.slice ka kn kc) (.int .i32 0) (.slice none 0 0) (.int .i64 0) (.int .i64 0) (.string ⟨#[]⟩) (.int .i64 mn) (.int .i64 mx) (.bool (!S)))
  have O := HA.out.k6.set10 (.int .i64 op) (.slice ka kn kc) (.int .i32 0) (.slice none 0 0) (.int .i64 0) (.int .i64 0) (.string ⟨#[]⟩) (.int .i64 mn) (.int .i64 mx) (.bool (!S))
  obtain ⟨x0, x1, x2, x3, x4, x5, x6, x7, x8, x9, _, _, _, _, _, _, _, _, _, _⟩ := O.ten
  refine ⟨rfl, .agg (repC op ka kn kc mn mx (!S)).toArray, ?_, grownBy_new10 HA.out.g (by omega) _ _ _ _ _ _ _ _ _ _, by rw [HS.out]; simp, Blk.set10_other HA.out.r (by omega) _ _ _ _ _ _ _ _ _ _⟩
  simp [results, Tryz.results63, go_sem, repC, x0, x1, x2, x3, x4, x5, x6, x7, x8, x9]

set_option maxRecDepth 100000 in
set_option maxHeartbeats 8000000 in
theorem syn_rep_lazy_bad (b : Nat) (s : ByteArray) (f : Int) (p : Nat) (nv : Value) (op : Int) (ka : Option Addr) (kn kc : Nat) (mn mx : Int) (fr : Nat) (w : World) (h : SyR w b s f p nv) (hp : p ≤ s.size) (hs : s.size ≤ 100000000000000) (hc : ¬ badCount op mn mx) (hP : onB f 32 = true) (hz : stands s p [63] = true) (hp1 : p + 1 ≤ s.size) (o2 a2 b2 : Int) (q : Nat) (hsg : signP s (p + 1) = (some (o2, a2, b2), q)) (hc2 : badCount o2 a2 b2) :
    Calls Tryz.prog 63 #[.pointer (some ⟨b, 0, none⟩), .int .i64 fr, .agg #[.int .i64 op, .slice ka kn kc, .int .i32 0, .slice none 0 0, .int .i64 0, .int .i64 0, .string ⟨#[]⟩, .int .i64 mn, .int .i64 mx, .bool false]] w (RepOut w b s f nv op ka kn kc mn mx (.error (85, ((p + 1) : Nat), q))) := by
  have hb := h.lt
  have A0 := Lib.hid (RepAt.start h (repC op ka kn kc mn mx false))
  clear h
  go_enter Tryz.func63, Tryz.ntmps63
  go_wp2_with fail
  refine (syn_sized_ok b op ka kn kc mn mx false fr _ hc).mono ?_
  rintro e w1 ⟨rfl, hB⟩
  have A1 := Lib.hid (A0.out.below hB); clear hB
  have g0 := Blk.cell A1.out.r (j := 0) rfl
  go_wp2_with fail
  refine (syn_on f 32 _).mono ?_
  rintro e w2 ⟨rfl, hB⟩
  rw [hP]
  have A2 := Lib.hid (A1.out.below hB); clear hB g0
  go_wp2_with fail
  refine (syn_has_yes b s 63 f p nv _ A2.out.r hp (by omega) hz).mono ?_
  rintro e w3 ⟨rfl, hR, hG⟩
  have A3 := Lib.hid (A2.out.grown hb hR hG); clear hR hG
  have g0 := Blk.cell A3.out.r (j := 0) rfl
  go_wp2_with fail
  refine (syn_on f 16 _).mono ?_
  rintro e w4 ⟨rfl, hB⟩
  have A4 := Lib.hid (A3.out.below hB); clear hB g0
  obtain ⟨S, hS⟩ : ∃ S, S = onB f 16 := ⟨_, rfl⟩
  rw [← hS]
  have HS := Lib.hid hS; clear hS
  have c9 : w4.cell? ⟨w.heap.size, 9, none⟩ = some (.bool false) := Blk.cell A4.out.k5 rfl
  have f9 := A4.out.k5.frozen 9
  have n5 : b ≠ w.heap.size := by omega
  have n5' : w.heap.size ≠ b := by omega
  have g2 := Blk.cell A4.out.r (j := 2) rfl
  have A5 := Lib.hid (A4.out.lazy hb (!S))
  go_wp2_with fail
  refine (syn_sign b s f (p + 1) nv _ A5.out.r hp1 hs).mono ?_
  rw [hsg]
  rintro e w6 ⟨rfl, hR, hG⟩
  have A6 := Lib.hid ((A5.out.grown hb hR hG).alloc (.cells (repC o2 none 0 0 a2 b2 false).toArray 29)); clear hR hG c9 f9 g2
  unfold repC
  go_wp2_with fail
  refine (syn_sized_bad b s f q nv o2 none 0 0 a2 b2 false _ _ A6.out.r hc2).mono ?_
  rintro e w8 ⟨rfl, hB⟩
  exact ⟨rfl, (A6.out.below hB).g, rfl⟩
set_option maxRecDepth 100000 in
set_option maxHeartbeats 8000000 in
theorem syn_rep_lazy_nest_yes (b : Nat) (s : ByteArray) (f : Int) (p : Nat) (nv : Value) (op : Int) (ka : Option Addr) (kn kc : Nat) (mn mx : Int) (fr : Nat) (w : World) (h : SyR w b s f p nv) (hp : p ≤ s.size) (hs : s.size ≤ 100000000000000) (hc : ¬ badCount op mn mx) (hP : onB f 32 = true) (hz : stands s p [63] = true) (hp1 : p + 1 ≤ s.size) (o2 a2 b2 : Int) (q : Nat) (hsg : signP s (p + 1) = (some (o2, a2, b2), q)) (hc2 : ¬ badCount o2 a2 b2) (hq : q ≤ s.size) (hz2 : stands s q [63] = true) :
    Calls Tryz.prog 63 #[.pointer (some ⟨b, 0, none⟩), .int .i64 fr, .agg #[.int .i64 op, .slice ka kn kc, .int .i32 0, .slice none 0 0, .int .i64 0, .int .i64 0, .string ⟨#[]⟩, .int .i64 mn, .int .i64 mx, .bool false]] w (RepOut w b s f nv op ka kn kc mn mx (.error (83, fr, (q + 1 : Nat)))) := by
  have hb := h.lt
  have A0 := Lib.hid (RepAt.start h (repC op ka kn kc mn mx false))
  clear h
  go_enter Tryz.func63, Tryz.ntmps63
  go_wp2_with fail
  refine (syn_sized_ok b op ka kn kc mn mx false fr _ hc).mono ?_
  rintro e w1 ⟨rfl, hB⟩
  have A1 := Lib.hid (A0.out.below hB); clear hB
  have g0 := Blk.cell A1.out.r (j := 0) rfl
  go_wp2_with fail
  refine (syn_on f 32 _).mono ?_
  rintro e w2 ⟨rfl, hB⟩
  rw [hP]
  have A2 := Lib.hid (A1.out.below hB); clear hB g0
  go_wp2_with fail
  refine (syn_has_yes b s 63 f p nv _ A2.out.r hp (by omega) hz).mono ?_
  rintro e w3 ⟨rfl, hR, hG⟩
  have A3 := Lib.hid (A2.out.grown hb hR hG); clear hR hG
  have g0 := Blk.cell A3.out.r (j := 0) rfl
  go_wp2_with fail
  refine (syn_on f 16 _).mono ?_
  rintro e w4 ⟨rfl, hB⟩
  have A4 := Lib.hid (A3.out.below hB); clear hB g0
  obtain ⟨S, hS⟩ : ∃ S, S = onB f 16 := ⟨_, rfl⟩
  rw [← hS]
  have HS := Lib.hid hS; clear hS
  have c9 : w4.cell? ⟨w.heap.size, 9, none⟩ = some (.bool false) := Blk.cell A4.out.k5 rfl
  have f9 := A4.out.k5.frozen 9
  have n5 : b ≠ w.heap.size := by omega
  have n5' : w.heap.size ≠ b := by omega
  have g2 := Blk.cell A4.out.r (j := 2) rfl
  have A5 := Lib.hid (A4.out.lazy hb (!S))
  go_wp2_with fail
  refine (syn_sign b s f (p + 1) nv _ A5.out.r hp1 hs).mono ?_
  rw [hsg]
  rintro e w6 ⟨rfl, hR, hG⟩
  have A6 := Lib.hid ((A5.out.grown hb hR hG).alloc (.cells (repC o2 none 0 0 a2 b2 false).toArray 29)); clear hR hG c9 f9 g2
  unfold repC
  go_wp2_with fail
  refine (syn_sized_ok b o2 none 0 0 a2 b2 false _ _ hc2).mono ?_
  rintro e w8 ⟨rfl, hB⟩
  have A8 := Lib.hid (A6.out.below hB); clear hB
  have g0 := Blk.cell A8.out.r (j := 0) rfl
  have g2 := Blk.cell A8.out.r (j := 2) rfl
  go_wp2_with fail
  refine (syn_on f 32 _).mono ?_
  rintro e w9 ⟨rfl, hB⟩
  rw [hP]
  have A9 := Lib.hid (A8.out.below hB); clear hB g0 g2
  have g2 := Blk.cell A9.out.r (j := 2) rfl
  go_wp2_with fail
  refine (syn_has_yes b s 63 f q nv _ A9.out.r hq (by omega) hz2).mono ?_
  rintro e wa ⟨rfl, hR, hG⟩
  have AA := Lib.hid (A9.out.grown hb hR hG); clear hR hG g2
  have g2 := Blk.cell AA.out.r (j := 2) rfl
  go_wp2_with fail
  refine (syn_stop _ _ _ _).mono ?_
  rintro e wb ⟨rfl, rfl⟩
  exact ⟨rfl, AA.out.g, rfl⟩
set_option maxRecDepth 100000 in
set_option maxHeartbeats 8000000 in
theorem syn_rep_lazy_nest_no (b : Nat) (s : ByteArray) (f : Int) (p : Nat) (nv : Value) (op : Int) (ka : Option Addr) (kn kc : Nat) (mn mx : Int) (fr : Nat) (w : World) (h : SyR w b s f p nv) (hp : p ≤ s.size) (hs : s.size ≤ 100000000000000) (hc : ¬ badCount op mn mx) (hP : onB f 32 = true) (hz : stands s p [63] = true) (hp1 : p + 1 ≤ s.size) (o2 a2 b2 : Int) (q : Nat) (hsg : signP s (p + 1) = (some (o2, a2, b2), q)) (hc2 : ¬ badCount o2 a2 b2) (hq : q ≤ s.size) (hz2 : stands s q [63] = false) :
    Calls Tryz.prog 63 #[.pointer (some ⟨b, 0, none⟩), .int .i64 fr, .agg #[.int .i64 op, .slice ka kn kc, .int .i32 0, .slice none 0 0, .int .i64 0, .int .i64 0, .string ⟨#[]⟩, .int .i64 mn, .int .i64 mx, .bool false]] w (RepOut w b s f nv op ka kn kc mn mx (.error (83, fr, (q : Nat)))) := by
  have hb := h.lt
  have A0 := Lib.hid (RepAt.start h (repC op ka kn kc mn mx false))
  clear h
  go_enter Tryz.func63, Tryz.ntmps63
  go_wp2_with fail
  refine (syn_sized_ok b op ka kn kc mn mx false fr _ hc).mono ?_
  rintro e w1 ⟨rfl, hB⟩
  have A1 := Lib.hid (A0.out.below hB); clear hB
  have g0 := Blk.cell A1.out.r (j := 0) rfl
  go_wp2_with fail
  refine (syn_on f 32 _).mono ?_
  rintro e w2 ⟨rfl, hB⟩
  rw [hP]
  have A2 := Lib.hid (A1.out.below hB); clear hB g0
  go_wp2_with fail
  refine (syn_has_yes b s 63 f p nv _ A2.out.r hp (by omega) hz).mono ?_
  rintro e w3 ⟨rfl, hR, hG⟩
  have A3 := Lib.hid (A2.out.grown hb hR hG); clear hR hG
  have g0 := Blk.cell A3.out.r (j := 0) rfl
  go_wp2_with fail
  refine (syn_on f 16 _).mono ?_
  rintro e w4 ⟨rfl, hB⟩
  have A4 := Lib.hid (A3.out.below hB); clear hB g0
  obtain ⟨S, hS⟩ : ∃ S, S = onB f 16 := ⟨_, rfl⟩
  rw [← hS]
  have HS := Lib.hid hS; clear hS
  have c9 : w4.cell? ⟨w.heap.size, 9, none⟩ = some (.bool false) := Blk.cell A4.out.k5 rfl
  have f9 := A4.out.k5.frozen 9
  have n5 : b ≠ w.heap.size := by omega
  have n5' : w.heap.size ≠ b := by omega
  have g2 := Blk.cell A4.out.r (j := 2) rfl
  have A5 := Lib.hid (A4.out.lazy hb (!S))
  go_wp2_with fail
  refine (syn_sign b s f (p + 1) nv _ A5.out.r hp1 hs).mono ?_
  rw [hsg]
  rintro e w6 ⟨rfl, hR, hG⟩
  have A6 := Lib.hid ((A5.out.grown hb hR hG).alloc (.cells (repC o2 none 0 0 a2 b2 false).toArray 29)); clear hR hG c9 f9 g2
  unfold repC
  go_wp2_with fail
  refine (syn_sized_ok b o2 none 0 0 a2 b2 false _ _ hc2).mono ?_
  rintro e w8 ⟨rfl, hB⟩
  have A8 := Lib.hid (A6.out.below hB); clear hB
  have g0 := Blk.cell A8.out.r (j := 0) rfl
  have g2 := Blk.cell A8.out.r (j := 2) rfl
  go_wp2_with fail
  refine (syn_on f 32 _).mono ?_
  rintro e w9 ⟨rfl, hB⟩
  rw [hP]
  have A9 := Lib.hid (A8.out.below hB); clear hB g0 g2
  have g2 := Blk.cell A9.out.r (j := 2) rfl
  go_wp2_with fail
  refine (syn_has_no b s 63 f q nv _ A9.out.r hq (by omega) hz2).mono ?_
  rintro e wa ⟨rfl, hR, hG⟩
  have AA := Lib.hid (A9.out.grown hb hR hG); clear hR hG g2
  have g2 := Blk.cell AA.out.r (j := 2) rfl
  go_wp2_with fail
  refine (syn_stop _ _ _ _).mono ?_
  rintro e wb ⟨rfl, rfl⟩
  exact ⟨rfl, AA.out.g, rfl⟩

set_option maxRecDepth 100000 in
set_option maxHeartbeats 8000000 in
theorem syn_rep_perl_none (b : Nat) (s : ByteArray) (f : Int) (p : Nat) (nv : Value) (op : Int) (ka : Option Addr) (kn kc : Nat) (mn mx : Int) (fr : Nat) (w : World) (h : SyR w b s f p nv) (hp : p ≤ s.size) (hs : s.size ≤ 100000000000000) (hc : ¬ badCount op mn mx) (hP : onB f 32 = true) (hz : stands s p [63] = false) (o : Nat) (hsg : signP s p = (none, o)) :
    Calls Tryz.prog 63 #[.pointer (some ⟨b, 0, none⟩), .int .i64 fr, .agg #[.int .i64 op, .slice ka kn kc, .int .i32 0, .slice none 0 0, .int .i64 0, .int .i64 0, .string ⟨#[]⟩, .int .i64 mn, .int .i64 mx, .bool false]] w (RepOut w b s f nv op ka kn kc mn mx (.ok (false != onB f 16, p))) := by
  have hb := h.lt
  have A0 := Lib.hid (RepAt.start h (repC op ka kn kc mn mx false))
  clear h
  go_enter Tryz.func63, Tryz.ntmps63
  go_wp2_with fail
  refine (syn_sized_ok b op ka kn kc mn mx false fr _ hc).mono ?_
  rintro e w1 ⟨rfl, hB⟩
  have A1 := Lib.hid (A0.out.below hB); clear hB
  have g0 := Blk.cell A1.out.r (j := 0) rfl
  go_wp2_with fail
  refine (syn_on f 32 _).mono ?_
  rintro e w2 ⟨rfl, hB⟩
  rw [hP]
  have A2 := Lib.hid (A1.out.below hB); clear hB g0
  go_wp2_with fail
  refine (syn_has_no b s 63 f p nv _ A2.out.r hp (by omega) hz).mono ?_
  rintro e w3 ⟨rfl, hR, hG⟩
  have A3 := Lib.hid (A2.out.grown hb hR hG); clear hR hG
  have g0 := Blk.cell A3.out.r (j := 0) rfl
  go_wp2_with fail
  refine (syn_on f 16 _).mono ?_
  rintro e w4 ⟨rfl, hB⟩
  have A4 := Lib.hid (A3.out.below hB); clear hB g0
  obtain ⟨S, hS⟩ : ∃ S, S = onB f 16 := ⟨_, rfl⟩
  rw [← hS]
  have HS := Lib.hid hS; clear hS
  have c9 : w4.cell? ⟨w.heap.size, 9, none⟩ = some (.bool false) := Blk.cell A4.out.k5 rfl
  have f9 := A4.out.k5.frozen 9
  have n5 : b ≠ w.heap.size := by omega
  have n5' : w.heap.size ≠ b := by omega
  have g2 := Blk.cell A4.out.r (j := 2) rfl
  have A5 := Lib.hid (A4.out.lazy hb S)
  go_wp2_with fail
  refine (syn_sign b s f p nv _ A5.out.r hp hs).mono ?_
  rw [hsg]
  rintro e w6 ⟨rfl, hR, hG⟩
  have A6 := Lib.hid ((A5.out.grown hb hR hG).alloc (.cells (repC 10 none 0 0 0 0 false).toArray 29)); clear hR hG c9 f9 g2
  have A6' : RepAt w (w6.alloc (.cells #[.int .i64 10, .slice none 0 0, .int .i32 0, .slice none 0 0, .int .i64 0, .int .i64 0, .string ⟨#[]⟩, .int .i64 0, .int .i64 0, .bool false] 29)) b s f p nv (repC op ka kn kc mn mx S) := A6.out
  obtain ⟨W7, hW7⟩ : ∃ W7, W7 = w6.alloc (.cells #[.int .i64 10, .slice none 0 0, .int .i32 0, .slice none 0 0, .int .i64 0, .int .i64 0, .string ⟨#[]⟩, .int .i64 0, .int .i64 0, .bool false] 29) := ⟨_, rfl⟩
  rw [← hW7] at A6'
  obtain ⟨c0, c1, c2, c3, c4, c5, c6, c7, c8, c9, f0, f1, f2, f3, f4, f5, f6, f7, f8, f9⟩ := A6'.k5.ten
  obtain ⟨e0, e1, e2, e3, e4, e5, e6, e7, e8, e9, h0, h1, h2, h3, h4, h5, h6, h7, h8, h9⟩ := A6'.k6.ten
  have HA := Lib.hid A6'; have HW := Lib.hid hW7
  clear hW7 A6'
  unfold repC
  go_wp2_with (rw [← HW.out])
  change bodyPost _ _ _ _ _ (World.set10 W7 (w.heap.size + 1) (.int .i64 op) (.slice ka kn kc) (.int .i32 0) (.slice none 0 0) (.int .i64 0) (.int .i64 0) (.string ⟨#[]⟩) (.int .i64 mn) (.int .i64 mx) (.bool S))
  have O := HA.out.k6.set10 (.int .i64 op) (.slice ka kn kc) (.int .i32 0) (.slice none 0 0) (.int .i64 0) (.int .i64 0) (.string ⟨#[]⟩) (.int .i64 mn) (.int .i64 mx) (.bool S)
  obtain ⟨x0, x1, x2, x3, x4, x5, x6, x7, x8, x9, _, _, _, _, _, _, _, _, _, _⟩ := O.ten
  refine ⟨rfl, .agg (repC op ka kn kc mn mx S).toArray, ?_, grownBy_new10 HA.out.g (by omega) _ _ _ _ _ _ _ _ _ _, by rw [HS.out]; simp, Blk.set10_other HA.out.r (by omega) _ _ _ _ _ _ _ _ _ _⟩
  simp [results, Tryz.results63, go_sem, repC, x0, x1, x2, x3, x4, x5, x6, x7, x8, x9]

set_option maxRecDepth 100000 in
set_option maxHeartbeats 8000000 in
theorem syn_rep_perl_bad (b : Nat) (s : ByteArray) (f : Int) (p : Nat) (nv : Value) (op : Int) (ka : Option Addr) (kn kc : Nat) (mn mx : Int) (fr : Nat) (w : World) (h : SyR w b s f p nv) (hp : p ≤ s.size) (hs : s.size ≤ 100000000000000) (hc : ¬ badCount op mn mx) (hP : onB f 32 = true) (hz : stands s p [63] = false) (o2 a2 b2 : Int) (q : Nat) (hsg : signP s p = (some (o2, a2, b2), q)) (hc2 : badCount o2 a2 b2) :
    Calls Tryz.prog 63 #[.pointer (some ⟨b, 0, none⟩), .int .i64 fr, .agg #[.int .i64 op, .slice ka kn kc, .int .i32 0, .slice none 0 0, .int .i64 0, .int .i64 0, .string ⟨#[]⟩, .int .i64 mn, .int .i64 mx, .bool false]] w (RepOut w b s f nv op ka kn kc mn mx (.error (85, (p : Nat), q))) := by
  have hb := h.lt
  have A0 := Lib.hid (RepAt.start h (repC op ka kn kc mn mx false))
  clear h
  go_enter Tryz.func63, Tryz.ntmps63
  go_wp2_with fail
  refine (syn_sized_ok b op ka kn kc mn mx false fr _ hc).mono ?_
  rintro e w1 ⟨rfl, hB⟩
  have A1 := Lib.hid (A0.out.below hB); clear hB
  have g0 := Blk.cell A1.out.r (j := 0) rfl
  go_wp2_with fail
  refine (syn_on f 32 _).mono ?_
  rintro e w2 ⟨rfl, hB⟩
  rw [hP]
  have A2 := Lib.hid (A1.out.below hB); clear hB g0
  go_wp2_with fail
  refine (syn_has_no b s 63 f p nv _ A2.out.r hp (by omega) hz).mono ?_
  rintro e w3 ⟨rfl, hR, hG⟩
  have A3 := Lib.hid (A2.out.grown hb hR hG); clear hR hG
  have g0 := Blk.cell A3.out.r (j := 0) rfl
  go_wp2_with fail
  refine (syn_on f 16 _).mono ?_
  rintro e w4 ⟨rfl, hB⟩
  have A4 := Lib.hid (A3.out.below hB); clear hB g0
  obtain ⟨S, hS⟩ : ∃ S, S = onB f 16 := ⟨_, rfl⟩
  rw [← hS]
  have HS := Lib.hid hS; clear hS
  have c9 : w4.cell? ⟨w.heap.size, 9, none⟩ = some (.bool false) := Blk.cell A4.out.k5 rfl
  have f9 := A4.out.k5.frozen 9
  have n5 : b ≠ w.heap.size := by omega
  have n5' : w.heap.size ≠ b := by omega
  have g2 := Blk.cell A4.out.r (j := 2) rfl
  have A5 := Lib.hid (A4.out.lazy hb S)
  go_wp2_with fail
  refine (syn_sign b s f p nv _ A5.out.r hp hs).mono ?_
  rw [hsg]
  rintro e w6 ⟨rfl, hR, hG⟩
  have A6 := Lib.hid ((A5.out.grown hb hR hG).alloc (.cells (repC o2 none 0 0 a2 b2 false).toArray 29)); clear hR hG c9 f9 g2
  unfold repC
  go_wp2_with fail
  refine (syn_sized_bad b s f q nv o2 none 0 0 a2 b2 false _ _ A6.out.r hc2).mono ?_
  rintro e w8 ⟨rfl, hB⟩
  exact ⟨rfl, (A6.out.below hB).g, rfl⟩
set_option maxRecDepth 100000 in
set_option maxHeartbeats 8000000 in
theorem syn_rep_perl_nest_yes (b : Nat) (s : ByteArray) (f : Int) (p : Nat) (nv : Value) (op : Int) (ka : Option Addr) (kn kc : Nat) (mn mx : Int) (fr : Nat) (w : World) (h : SyR w b s f p nv) (hp : p ≤ s.size) (hs : s.size ≤ 100000000000000) (hc : ¬ badCount op mn mx) (hP : onB f 32 = true) (hz : stands s p [63] = false) (o2 a2 b2 : Int) (q : Nat) (hsg : signP s p = (some (o2, a2, b2), q)) (hc2 : ¬ badCount o2 a2 b2) (hq : q ≤ s.size) (hz2 : stands s q [63] = true) :
    Calls Tryz.prog 63 #[.pointer (some ⟨b, 0, none⟩), .int .i64 fr, .agg #[.int .i64 op, .slice ka kn kc, .int .i32 0, .slice none 0 0, .int .i64 0, .int .i64 0, .string ⟨#[]⟩, .int .i64 mn, .int .i64 mx, .bool false]] w (RepOut w b s f nv op ka kn kc mn mx (.error (83, fr, (q + 1 : Nat)))) := by
  have hb := h.lt
  have A0 := Lib.hid (RepAt.start h (repC op ka kn kc mn mx false))
  clear h
  go_enter Tryz.func63, Tryz.ntmps63
  go_wp2_with fail
  refine (syn_sized_ok b op ka kn kc mn mx false fr _ hc).mono ?_
  rintro e w1 ⟨rfl, hB⟩
  have A1 := Lib.hid (A0.out.below hB); clear hB
  have g0 := Blk.cell A1.out.r (j := 0) rfl
  go_wp2_with fail
  refine (syn_on f 32 _).mono ?_
  rintro e w2 ⟨rfl, hB⟩
  rw [hP]
  have A2 := Lib.hid (A1.out.below hB); clear hB g0
  go_wp2_with fail
  refine (syn_has_no b s 63 f p nv _ A2.out.r hp (by omega) hz).mono ?_
  rintro e w3 ⟨rfl, hR, hG⟩
  have A3 := Lib.hid (A2.out.grown hb hR hG); clear hR hG
  have g0 := Blk.cell A3.out.r (j := 0) rfl
  go_wp2_with fail
  refine (syn_on f 16 _).mono ?_
  rintro e w4 ⟨rfl, hB⟩
  have A4 := Lib.hid (A3.out.below hB); clear hB g0
  obtain ⟨S, hS⟩ : ∃ S, S = onB f 16 := ⟨_, rfl⟩
  rw [← hS]
  have HS := Lib.hid hS; clear hS
  have c9 : w4.cell? ⟨w.heap.size, 9, none⟩ = some (.bool false) := Blk.cell A4.out.k5 rfl
  have f9 := A4.out.k5.frozen 9
  have n5 : b ≠ w.heap.size := by omega
  have n5' : w.heap.size ≠ b := by omega
  have g2 := Blk.cell A4.out.r (j := 2) rfl
  have A5 := Lib.hid (A4.out.lazy hb S)
  go_wp2_with fail
  refine (syn_sign b s f p nv _ A5.out.r hp hs).mono ?_
  rw [hsg]
  rintro e w6 ⟨rfl, hR, hG⟩
  have A6 := Lib.hid ((A5.out.grown hb hR hG).alloc (.cells (repC o2 none 0 0 a2 b2 false).toArray 29)); clear hR hG c9 f9 g2
  unfold repC
  go_wp2_with fail
  refine (syn_sized_ok b o2 none 0 0 a2 b2 false _ _ hc2).mono ?_
  rintro e w8 ⟨rfl, hB⟩
  have A8 := Lib.hid (A6.out.below hB); clear hB
  have g0 := Blk.cell A8.out.r (j := 0) rfl
  have g2 := Blk.cell A8.out.r (j := 2) rfl
  go_wp2_with fail
  refine (syn_on f 32 _).mono ?_
  rintro e w9 ⟨rfl, hB⟩
  rw [hP]
  have A9 := Lib.hid (A8.out.below hB); clear hB g0 g2
  have g2 := Blk.cell A9.out.r (j := 2) rfl
  go_wp2_with fail
  refine (syn_has_yes b s 63 f q nv _ A9.out.r hq (by omega) hz2).mono ?_
  rintro e wa ⟨rfl, hR, hG⟩
  have AA := Lib.hid (A9.out.grown hb hR hG); clear hR hG g2
  have g2 := Blk.cell AA.out.r (j := 2) rfl
  go_wp2_with fail
  refine (syn_stop _ _ _ _).mono ?_
  rintro e wb ⟨rfl, rfl⟩
  exact ⟨rfl, AA.out.g, rfl⟩
set_option maxRecDepth 100000 in
set_option maxHeartbeats 8000000 in
theorem syn_rep_perl_nest_no (b : Nat) (s : ByteArray) (f : Int) (p : Nat) (nv : Value) (op : Int) (ka : Option Addr) (kn kc : Nat) (mn mx : Int) (fr : Nat) (w : World) (h : SyR w b s f p nv) (hp : p ≤ s.size) (hs : s.size ≤ 100000000000000) (hc : ¬ badCount op mn mx) (hP : onB f 32 = true) (hz : stands s p [63] = false) (o2 a2 b2 : Int) (q : Nat) (hsg : signP s p = (some (o2, a2, b2), q)) (hc2 : ¬ badCount o2 a2 b2) (hq : q ≤ s.size) (hz2 : stands s q [63] = false) :
    Calls Tryz.prog 63 #[.pointer (some ⟨b, 0, none⟩), .int .i64 fr, .agg #[.int .i64 op, .slice ka kn kc, .int .i32 0, .slice none 0 0, .int .i64 0, .int .i64 0, .string ⟨#[]⟩, .int .i64 mn, .int .i64 mx, .bool false]] w (RepOut w b s f nv op ka kn kc mn mx (.error (83, fr, (q : Nat)))) := by
  have hb := h.lt
  have A0 := Lib.hid (RepAt.start h (repC op ka kn kc mn mx false))
  clear h
  go_enter Tryz.func63, Tryz.ntmps63
  go_wp2_with fail
  refine (syn_sized_ok b op ka kn kc mn mx false fr _ hc).mono ?_
  rintro e w1 ⟨rfl, hB⟩
  have A1 := Lib.hid (A0.out.below hB); clear hB
  have g0 := Blk.cell A1.out.r (j := 0) rfl
  go_wp2_with fail
  refine (syn_on f 32 _).mono ?_
  rintro e w2 ⟨rfl, hB⟩
  rw [hP]
  have A2 := Lib.hid (A1.out.below hB); clear hB g0
  go_wp2_with fail
  refine (syn_has_no b s 63 f p nv _ A2.out.r hp (by omega) hz).mono ?_
  rintro e w3 ⟨rfl, hR, hG⟩
  have A3 := Lib.hid (A2.out.grown hb hR hG); clear hR hG
  have g0 := Blk.cell A3.out.r (j := 0) rfl
  go_wp2_with fail
  refine (syn_on f 16 _).mono ?_
  rintro e w4 ⟨rfl, hB⟩
  have A4 := Lib.hid (A3.out.below hB); clear hB g0
  obtain ⟨S, hS⟩ : ∃ S, S = onB f 16 := ⟨_, rfl⟩
  rw [← hS]
  have HS := Lib.hid hS; clear hS
  have c9 : w4.cell? ⟨w.heap.size, 9, none⟩ = some (.bool false) := Blk.cell A4.out.k5 rfl
  have f9 := A4.out.k5.frozen 9
  have n5 : b ≠ w.heap.size := by omega
  have n5' : w.heap.size ≠ b := by omega
  have g2 := Blk.cell A4.out.r (j := 2) rfl
  have A5 := Lib.hid (A4.out.lazy hb S)
  go_wp2_with fail
  refine (syn_sign b s f p nv _ A5.out.r hp hs).mono ?_
  rw [hsg]
  rintro e w6 ⟨rfl, hR, hG⟩
  have A6 := Lib.hid ((A5.out.grown hb hR hG).alloc (.cells (repC o2 none 0 0 a2 b2 false).toArray 29)); clear hR hG c9 f9 g2
  unfold repC
  go_wp2_with fail
  refine (syn_sized_ok b o2 none 0 0 a2 b2 false _ _ hc2).mono ?_
  rintro e w8 ⟨rfl, hB⟩
  have A8 := Lib.hid (A6.out.below hB); clear hB
  have g0 := Blk.cell A8.out.r (j := 0) rfl
  have g2 := Blk.cell A8.out.r (j := 2) rfl
  go_wp2_with fail
  refine (syn_on f 32 _).mono ?_
  rintro e w9 ⟨rfl, hB⟩
  rw [hP]
  have A9 := Lib.hid (A8.out.below hB); clear hB g0 g2
  have g2 := Blk.cell A9.out.r (j := 2) rfl
  go_wp2_with fail
  refine (syn_has_no b s 63 f q nv _ A9.out.r hq (by omega) hz2).mono ?_
  rintro e wa ⟨rfl, hR, hG⟩
  have AA := Lib.hid (A9.out.grown hb hR hG); clear hR hG g2
  have g2 := Blk.cell AA.out.r (j := 2) rfl
  go_wp2_with fail
  refine (syn_stop _ _ _ _).mono ?_
  rintro e wb ⟨rfl, rfl⟩
  exact ⟨rfl, AA.out.g, rfl⟩

/-- A repeat whose sign is taken. -/
theorem syn_repeat (b : Nat) (s : ByteArray) (f : Int) (p : Nat) (nv : Value) (op : Int) (ka : Option Addr) (kn kc : Nat) (mn mx : Int) (fr : Nat) (w : World) (h : SyR w b s f p nv) (hp : p ≤ s.size) (hs : s.size ≤ 100000000000000) (hbd : Bd s p) :
    Calls Tryz.prog 63 #[.pointer (some ⟨b, 0, none⟩), .int .i64 fr, .agg #[.int .i64 op, .slice ka kn kc, .int .i32 0, .slice none 0 0, .int .i64 0, .int .i64 0, .string ⟨#[]⟩, .int .i64 mn, .int .i64 mx, .bool false]] w (RepOut w b s f nv op ka kn kc mn mx (repeatP s fr p f op mn mx)) := by
  unfold repeatP
  by_cases hc : badCount op mn mx
  · rw [if_pos hc]; exact syn_rep_bad b s f p nv op ka kn kc mn mx fr w h hc
  rw [if_neg hc]
  cases hP : onB f 32 with
  | false =>
    have e1 : ∀ x, lazyAt s x f = false := fun x => by unfold lazyAt; rw [hP]; rfl
    have e2 : ∀ x, behindLazy s x f = x := fun x => by unfold behindLazy; rw [e1]; rfl
    rw [e2, e1]
    cases hs1 : signP s p with
    | mk o q =>
      cases o with
      | none => exact syn_rep_plain_none b s f p nv op ka kn kc mn mx fr w h hp hs hc hP q hs1
      | some x =>
        obtain ⟨o2, a2, b2⟩ := x
        simp only [e2]
        by_cases hc2 : badCount o2 a2 b2
        · rw [if_pos hc2]; exact syn_rep_plain_bad b s f p nv op ka kn kc mn mx fr w h hp hs hc hP o2 a2 b2 q hs1 hc2
        · rw [if_neg hc2]; exact syn_rep_plain_nest b s f p nv op ka kn kc mn mx fr w h hp hs hc hP o2 a2 b2 q hs1 hc2
  | true =>
    have e1 : ∀ x, lazyAt s x f = stands s x [63] := fun x => by unfold lazyAt; rw [hP]; rfl
    cases hz : stands s p [63] with
    | true =>
      have hp1 : p + 1 ≤ s.size := stands_lt' hz
      have e2 : behindLazy s p f = p + 1 := by unfold behindLazy; rw [e1, hz]; rfl
      rw [e2, e1, hz]
      cases hs1 : signP s (p + 1) with
      | mk o q =>
        cases o with
        | none => exact syn_rep_lazy_none b s f p nv op ka kn kc mn mx fr w h hp hs hc hP hz hp1 q hs1
        | some x =>
          obtain ⟨o2, a2, b2⟩ := x
          have hq := (signP_some hp1 (hbd.sign (Nat.le_refl _) hz (by decide)) hs1).2.1
          simp only
          by_cases hc2 : badCount o2 a2 b2
          · rw [if_pos hc2]; exact syn_rep_lazy_bad b s f p nv op ka kn kc mn mx fr w h hp hs hc hP hz hp1 o2 a2 b2 q hs1 hc2
          · rw [if_neg hc2]
            unfold behindLazy
            rw [e1]
            cases hz2 : stands s q [63] with
            | true => exact syn_rep_lazy_nest_yes b s f p nv op ka kn kc mn mx fr w h hp hs hc hP hz hp1 o2 a2 b2 q hs1 hc2 hq hz2
            | false => exact syn_rep_lazy_nest_no b s f p nv op ka kn kc mn mx fr w h hp hs hc hP hz hp1 o2 a2 b2 q hs1 hc2 hq hz2
    | false =>
      have e2 : behindLazy s p f = p := by unfold behindLazy; rw [e1, hz]; rfl
      rw [e2, e1, hz]
      cases hs1 : signP s p with
      | mk o q =>
        cases o with
        | none => exact syn_rep_perl_none b s f p nv op ka kn kc mn mx fr w h hp hs hc hP hz q hs1
        | some x =>
          obtain ⟨o2, a2, b2⟩ := x
          have hq := (signP_some hp hbd hs1).2.1
          simp only
          by_cases hc2 : badCount o2 a2 b2
          · rw [if_pos hc2]; exact syn_rep_perl_bad b s f p nv op ka kn kc mn mx fr w h hp hs hc hP hz o2 a2 b2 q hs1 hc2
          · rw [if_neg hc2]
            unfold behindLazy
            rw [e1]
            cases hz2 : stands s q [63] with
            | true => exact syn_rep_perl_nest_yes b s f p nv op ka kn kc mn mx fr w h hp hs hc hP hz o2 a2 b2 q hs1 hc2 hq hz2
            | false => exact syn_rep_perl_nest_no b s f p nv op ka kn kc mn mx fr w h hp hs hc hP hz o2 a2 b2 q hs1 hc2 hq hz2

end Go.Proofs.YtnhnldmldnhaoaaGreatDoor
