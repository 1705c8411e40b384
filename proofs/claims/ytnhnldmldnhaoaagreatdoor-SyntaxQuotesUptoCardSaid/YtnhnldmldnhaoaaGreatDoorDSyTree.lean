/- The reader of patterns: sets, atoms put together. The reader of patterns: lists of trees; what a sign says of a place. -/
import Derived.Test.YtnhnldmldnhaoaaGreatDoorDCount
import Derived.Test.YtnhnldmldnhaoaaGreatDoorDSpans
import Derived.Maps.AppendAt
namespace Go.Proofs.YtnhnldmldnhaoaaGreatDoor
open Go Go.RowKit Go.Proofs Go.Shelf

/-- Ten cells of a block, written. -/
def World.set10 (w : World) (b : Nat) (v0 v1 v2 v3 v4 v5 v6 v7 v8 v9 : Value) : World := ((((((((((w.setCell ⟨b, 0, none⟩ v0).setCell ⟨b, 1, none⟩ v1).setCell ⟨b, 2, none⟩ v2).setCell ⟨b, 3, none⟩ v3).setCell ⟨b, 4, none⟩ v4).setCell ⟨b, 5, none⟩ v5).setCell ⟨b, 6, none⟩ v6).setCell ⟨b, 7, none⟩ v7).setCell ⟨b, 8, none⟩ v8).setCell ⟨b, 9, none⟩ v9)
theorem Blk.set10 {w : World} {b : Nat} {c0 c1 c2 c3 c4 c5 c6 c7 c8 c9 : Value} {t : TypeId} (h : Blk w b [c0, c1, c2, c3, c4, c5, c6, c7, c8, c9] t) (v0 v1 v2 v3 v4 v5 v6 v7 v8 v9 : Value) : Blk (World.set10 w b v0 v1 v2 v3 v4 v5 v6 v7 v8 v9) b [v0, v1, v2, v3, v4, v5, v6, v7, v8, v9] t := ((((((((((h.set 0 v0).set 1 v1).set 2 v2).set 3 v3).set 4 v4).set 5 v5).set 6 v6).set 7 v7).set 8 v8).set 9 v9)
theorem Blk.set10_other {w : World} {b b' : Nat} {cs : List Value} {t : TypeId} (h : Blk w b' cs t) (hne : b' ≠ b) (v0 v1 v2 v3 v4 v5 v6 v7 v8 v9 : Value) : Blk (World.set10 w b v0 v1 v2 v3 v4 v5 v6 v7 v8 v9) b' cs t := ((((((((((h.setCell_other (a := ⟨b, 0, none⟩) hne v0).setCell_other (a := ⟨b, 1, none⟩) hne v1).setCell_other (a := ⟨b, 2, none⟩) hne v2).setCell_other (a := ⟨b, 3, none⟩) hne v3).setCell_other (a := ⟨b, 4, none⟩) hne v4).setCell_other (a := ⟨b, 5, none⟩) hne v5).setCell_other (a := ⟨b, 6, none⟩) hne v6).setCell_other (a := ⟨b, 7, none⟩) hne v7).setCell_other (a := ⟨b, 8, none⟩) hne v8).setCell_other (a := ⟨b, 9, none⟩) hne v9)
theorem set10_block (w : World) (b : Nat) (v0 v1 v2 v3 v4 v5 v6 v7 v8 v9 : Value) (k : Nat) (hk : k ≠ b) : (World.set10 w b v0 v1 v2 v3 v4 v5 v6 v7 v8 v9).heap[k]? = w.heap[k]? := by
  unfold World.set10
  iterate 10 rw [Below.heap_setCell _ _ _ k (by exact hk)]
theorem grownBy_set10 (w : World) (b : Nat) (v0 v1 v2 v3 v4 v5 v6 v7 v8 v9 : Value) : w.grownBy (World.set10 w b v0 v1 v2 v3 v4 v5 v6 v7 v8 v9) (some b) := by
  unfold World.set10
  exact grownBy_trans (grownBy_trans (grownBy_trans (grownBy_trans (grownBy_trans (grownBy_trans (grownBy_trans (grownBy_trans (grownBy_trans (grownBy_setCell _ _ _ _) (grownBy_setCell _ _ _ _)) (grownBy_setCell _ _ _ _)) (grownBy_setCell _ _ _ _)) (grownBy_setCell _ _ _ _)) (grownBy_setCell _ _ _ _)) (grownBy_setCell _ _ _ _)) (grownBy_setCell _ _ _ _)) (grownBy_setCell _ _ _ _)) (grownBy_setCell _ _ _ _)
theorem grownBy_new10 {a b : World} {row : Option Nat} (h : a.grownBy b row) {k : Nat} (hk : a.heap.size ≤ k) (v0 v1 v2 v3 v4 v5 v6 v7 v8 v9 : Value) : a.grownBy (World.set10 b k v0 v1 v2 v3 v4 v5 v6 v7 v8 v9) row :=
  have g := grownBy_set10 b k v0 v1 v2 v3 v4 v5 v6 v7 v8 v9
  ⟨g.os.trans h.os, g.tape.trans h.tape, g.output.trans h.output, Nat.le_trans h.size g.size, fun i hi hne => (set10_block b k _ _ _ _ _ _ _ _ _ _ i (by omega)).trans (h.block i hi hne)⟩
/-- What ten cells hold. -/
structure Ten (w : World) (k : Nat) (v0 v1 v2 v3 v4 v5 v6 v7 v8 v9 : Value) : Prop where
  c0 : w.cell? ⟨k, 0, none⟩ = some v0
  c1 : w.cell? ⟨k, 1, none⟩ = some v1
  c2 : w.cell? ⟨k, 2, none⟩ = some v2
  c3 : w.cell? ⟨k, 3, none⟩ = some v3
  c4 : w.cell? ⟨k, 4, none⟩ = some v4
  c5 : w.cell? ⟨k, 5, none⟩ = some v5
  c6 : w.cell? ⟨k, 6, none⟩ = some v6
  c7 : w.cell? ⟨k, 7, none⟩ = some v7
  c8 : w.cell? ⟨k, 8, none⟩ = some v8
  c9 : w.cell? ⟨k, 9, none⟩ = some v9
  f0 : w.frozen? ⟨k, 0, none⟩ = false
  f1 : w.frozen? ⟨k, 1, none⟩ = false
  f2 : w.frozen? ⟨k, 2, none⟩ = false
  f3 : w.frozen? ⟨k, 3, none⟩ = false
  f4 : w.frozen? ⟨k, 4, none⟩ = false
  f5 : w.frozen? ⟨k, 5, none⟩ = false
  f6 : w.frozen? ⟨k, 6, none⟩ = false
  f7 : w.frozen? ⟨k, 7, none⟩ = false
  f8 : w.frozen? ⟨k, 8, none⟩ = false
  f9 : w.frozen? ⟨k, 9, none⟩ = false
theorem Blk.ten {w : World} {b : Nat} {v0 v1 v2 v3 v4 v5 v6 v7 v8 v9 : Value} {t : TypeId} (h : Blk w b [v0, v1, v2, v3, v4, v5, v6, v7, v8, v9] t) : Ten w b v0 v1 v2 v3 v4 v5 v6 v7 v8 v9 :=
  ⟨Blk.cell h (j := 0) rfl, Blk.cell h (j := 1) rfl, Blk.cell h (j := 2) rfl, Blk.cell h (j := 3) rfl, Blk.cell h (j := 4) rfl, Blk.cell h (j := 5) rfl, Blk.cell h (j := 6) rfl, Blk.cell h (j := 7) rfl, Blk.cell h (j := 8) rfl, Blk.cell h (j := 9) rfl, h.frozen 0, h.frozen 1, h.frozen 2, h.frozen 3, h.frozen 4, h.frozen 5, h.frozen 6, h.frozen 7, h.frozen 8, h.frozen 9⟩
abbrev zero10 : List Value := [.int .i64 0, .slice none 0 0, .int .i32 0, .slice none 0 0, .int .i64 0, .int .i64 0, .string ⟨#[]⟩, .int .i64 0, .int .i64 0, .bool false]
/-- The cells of a tree without Kids. -/
def leafC (op rune : Int) (sa : Option Addr) (sn sc : Nat) (pl : Int) : List Value := [.int .i64 op, .slice none 0 0, .int .i32 rune, .slice sa sn sc, .int .i64 pl, .int .i64 0, .string ⟨#[]⟩, .int .i64 0, .int .i64 0, .bool false]
theorem kids_none {w : World} {ok : Nat → Prop} : KidsS w ok [] none 0 0 := ⟨rfl, ⟨Nat.le_refl _, Nat.zero_le _⟩, .inl rfl⟩
theorem set_none {w : World} {ok : Nat → Prop} : SetF w ok [] none 0 0 := ⟨rfl, ⟨Nat.le_refl _, Nat.zero_le _⟩, .inl rfl⟩
theorem leafC_tree {w : World} {ok : Nat → Prop} {op rune pl : Int} {rs : List (Int × Int)} {sa : Option Addr} {sn sc : Nat} (h : SetF w ok rs sa sn sc) : TreeF w ok (leafT op rune rs pl) (leafC op rune sa sn sc pl) := TreeF.mk kids_none h
theorem leafC_none {w : World} {ok : Nat → Prop} {op rune pl : Int} : TreeF w ok (leafT op rune [] pl) (leafC op rune none 0 0 pl) := leafC_tree set_none
set_option maxRecDepth 100000 in
set_option maxHeartbeats 1000000 in
theorem syn_set_no (sa : Option Addr) (c : Nat) (w : World) :
    Calls Tryz.prog 59 #[.slice sa 0 c] w fun e w' => e = .returned (.agg (leafC 1 0 none 0 0 0).toArray) ∧ Below w.heap.size w w' := by
  go_enter Tryz.func59, Tryz.ntmps59
  go_wp2_with fail
  refine ⟨rfl, .agg (leafC 1 0 none 0 0 0).toArray, ?_, rfl, (Below.refl _ w).alloc (Nat.le_refl _) _⟩
  simp [results, Tryz.results59, go_sem, leafC]
set_option maxRecDepth 100000 in
set_option maxHeartbeats 1000000 in
theorem syn_set_some (sa : Option Addr) (n c : Nat) (hn : ((n : Int) == 0) = false) (w : World) :
    Calls Tryz.prog 59 #[.slice sa n c] w fun e w' => e = .returned (.agg (leafC 4 0 sa n c 0).toArray) ∧ Below w.heap.size w w' := by
  go_enter Tryz.func59, Tryz.ntmps59
  go_wp2_with fail
  refine ⟨rfl, .agg (leafC 4 0 sa n c 0).toArray, ?_, rfl, (Below.refl _ w).alloc (Nat.le_refl _) _⟩
  simp [results, Tryz.results59, go_sem, leafC]
theorem syn_set (rs : List (Int × Int)) (sa : Option Addr) (n c : Nat) (ok : Nat → Prop) (w : World) (h : SetF w ok rs sa n c) (hok : ∀ k, ok k → k < w.heap.size) :
    Calls Tryz.prog 59 #[.slice sa n c] w fun e w' => ∃ cs, e = .returned (.agg cs.toArray) ∧ TreeF w' ok (setT rs) cs ∧ Below w.heap.size w w' := by
  obtain rfl := h.1
  by_cases h0 : rs.length = 0
  · rw [h0]
    refine (syn_set_no sa c w).mono ?_
    rintro e w' ⟨rfl, hB⟩
    refine ⟨_, rfl, ?_, hB⟩
    unfold setT
    rw [if_pos h0]
    exact leafC_none
  · refine (syn_set_some sa rs.length c (by simpa using h0) w).mono ?_
    rintro e w' ⟨rfl, hB⟩
    refine ⟨_, rfl, ?_, hB⟩
    unfold setT
    rw [if_neg h0]
    exact leafC_tree (h.turned (fun k hk => hB.block k (hok k hk)) (fun _ h => h))
/-- The cells of a tree of Kids alone. -/
def kidsC (op : Int) (a : Option Addr) (n c : Nat) : List Value := [.int .i64 op, .slice a n c, .int .i32 0, .slice none 0 0, .int .i64 0, .int .i64 0, .string ⟨#[]⟩, .int .i64 0, .int .i64 0, .bool false]
theorem kidsC_tree {w : World} {ok : Nat → Prop} {op : Int} {l : List T} {a : Option Addr} {n c : Nat} (h : KidsS w ok l a n c) : TreeF w ok (kidsT op l) (kidsC op a n c) := TreeF.mk h set_none
theorem KidsS.turned {w w' : World} {ok ok' : Nat → Prop} {l : List T} {a : Option Addr} {n c : Nat} (h : KidsS w ok l a n c) (hb : ∀ b, ok b → w'.heap[b]? = w.heap[b]?) (hk : ∀ b, ok b → ok' b) : KidsS w' ok' l a n c := by
  obtain ⟨h1, h2, h3⟩ := h
  refine ⟨h1, h2, ?_⟩
  rcases h3 with h3 | ⟨b, o, e, hb', hr⟩
  · exact .inl h3
  · exact .inr ⟨b, o, e, hk b hb', hr.turned hb hk (hb b hb')⟩
set_option maxRecDepth 100000 in
set_option maxHeartbeats 1000000 in
theorem syn_cat_no (a : Option Addr) (c : Nat) (w : World) :
    Calls Tryz.prog 33 #[.slice a 0 c] w fun e w' => e = .returned (.agg (leafC 2 0 none 0 0 0).toArray) ∧ Below w.heap.size w w' := by
  go_enter Tryz.func33, Tryz.ntmps33
  go_wp2_with fail
  refine ⟨rfl, .agg (leafC 2 0 none 0 0 0).toArray, ?_, rfl, (Below.refl _ w).alloc (Nat.le_refl _) _⟩
  simp [results, Tryz.results33, go_sem, leafC]
set_option maxRecDepth 100000 in
set_option maxHeartbeats 1000000 in
theorem syn_cat_one (b o c : Nat) (w : World) (op : Int) (ka : Option Addr) (kn kc : Nat) (rune : Int) (sa : Option Addr) (sn sc : Nat) (pl cap : Int) (name : ByteArray) (mn mx : Int) (lz : Bool) (hb : b < w.heap.size) (h : RowAt w b o [.int .i64 op, .slice ka kn kc, .int .i32 rune, .slice sa sn sc, .int .i64 pl, .int .i64 cap, .string name, .int .i64 mn, .int .i64 mx, .bool lz]) :
    Calls Tryz.prog 33 #[.slice (some ⟨b, o, none⟩) 1 c] w fun e w' => e = .returned (.agg #[.int .i64 op, .slice ka kn kc, .int .i32 rune, .slice sa sn sc, .int .i64 pl, .int .i64 cap, .string name, .int .i64 mn, .int .i64 mx, .bool lz]) ∧ Below w.heap.size w w' := by
  have hr' := (RowAt.turned h (Below.heap_alloc w (.cells #[.int .i64 0, .slice none 0 0, .int .i32 0, .slice none 0 0, .int .i64 0, .int .i64 0, .string ⟨#[]⟩, .int .i64 0, .int .i64 0, .bool false] 29) b hb)).ten
  obtain ⟨g0, g1, g2, g3, g4, g5, g6, g7, g8, g9⟩ := hr'
  clear h
  go_enter Tryz.func33, Tryz.ntmps33
  go_wp2_with fail
  refine ⟨rfl, .agg #[.int .i64 op, .slice ka kn kc, .int .i32 rune, .slice sa sn sc, .int .i64 pl, .int .i64 cap, .string name, .int .i64 mn, .int .i64 mx, .bool lz], ?_, rfl, (Below.refl _ w).alloc (Nat.le_refl _) _⟩
  simp [results, Tryz.results33, go_sem]
set_option maxRecDepth 100000 in
set_option maxHeartbeats 1000000 in
theorem syn_cat_more (a : Option Addr) (n c : Nat) (h0 : ((n : Int) == 0) = false) (h1 : ((n : Int) == 1) = false) (w : World) :
    Calls Tryz.prog 33 #[.slice a n c] w fun e w' => e = .returned (.agg (kidsC 11 a n c).toArray) ∧ Below w.heap.size w w' := by
  go_enter Tryz.func33, Tryz.ntmps33
  go_wp2_with fail
  refine ⟨rfl, .agg (kidsC 11 a n c).toArray, ?_, rfl, (Below.refl _ w).alloc (Nat.le_refl _) _⟩
  simp [results, Tryz.results33, go_sem, kidsC]
theorem syn_cat (l : List T) (a : Option Addr) (n c : Nat) (ok : Nat → Prop) (w : World) (h : KidsS w ok l a n c) (hok : ∀ k, ok k → k < w.heap.size) :
    Calls Tryz.prog 33 #[.slice a n c] w fun e w' => ∃ cs, e = .returned (.agg cs.toArray) ∧ TreeF w' ok (catT l) cs ∧ Below w.heap.size w w' := by
  obtain rfl := h.1
  match l, h with
  | [], h =>
    refine (syn_cat_no a c w).mono ?_
    rintro e w' ⟨rfl, hB⟩
    exact ⟨_, rfl, leafC_none, hB⟩
  | [t], h =>
    obtain ⟨b, o, rfl, hb, hk⟩ := h.2.2.resolve_left (by simp)
    obtain ⟨⟨cs, ht, hr⟩, _⟩ := KidsF.cons.1 hk
    obtain ⟨op, ka, kn, kc, rune, sa, sn, sc, pl, cap, name, mn, mx, lz, rfl⟩ := ht.form
    refine (syn_cat_one b o c w op ka kn kc rune sa sn sc pl cap name mn mx lz (hok b hb) hr).mono ?_
    rintro e w' ⟨rfl, hB⟩
    exact ⟨_, rfl, ht.turned (fun k hk => hB.block k (hok k hk)) (fun _ h => h), hB⟩
  | x :: y :: r, h =>
    refine (syn_cat_more a _ c (by simp; omega) (by simp; omega) w).mono ?_
    rintro e w' ⟨rfl, hB⟩
    exact ⟨_, rfl, kidsC_tree (h.turned (fun k hk => hB.block k (hok k hk)) (fun _ h => h)), hB⟩
end Go.Proofs.YtnhnldmldnhaoaaGreatDoor

namespace Go.Proofs.YtnhnldmldnhaoaaGreatDoor
open Go Go.RowKit Go.Proofs Go.Shelf

theorem infoTree : (Tryz.prog.info? 29).map (fun i => (i.zero, i.size, i.bytes)) = some (some (.agg zero10.toArray), 10, 120) := by kernel_rfl
/-- Blocks made between two worlds. -/
abbrev Fresh (w w' : World) (k : Nat) : Prop := w.heap.size ≤ k ∧ k < w'.heap.size
/-- A slice of trees that a call hands back. -/
def ListOut (w w' : World) (ts : List T) (v : Value) : Prop := ∃ xs, w'.ownsRow w.heap.size 29 10 v ts.length xs ∧ TreesF w' (fun k => Fresh w w' k ∧ v.ownBlock ≠ some k) ts xs
theorem row_one {W : World} {cs : List Value} (hl : cs.length = 10) {base : Nat} (hb : base ≤ W.heap.size) : (W.alloc (.cells cs.toArray 29)).ownsRow base 29 10 (.slice (some ⟨W.heap.size, 0, none⟩) 1 1) 1 cs :=
  ⟨by rw [hl], .inr ⟨W.heap.size, 1, _, rfl, hb, World.alloc_heap_new W _, Nat.le_refl _, by decide, by simpa using hl, by rw [List.take_of_length_le (by simp [hl])]⟩⟩
theorem list_one {w W : World} {t : T} {cs : List Value} (h : TreeF W (fun k => Fresh w W k) t cs) (hb : Below w.heap.size w W) : ListOut w (W.alloc (.cells cs.toArray 29)) [t] (.slice (some ⟨W.heap.size, 0, none⟩) 1 1) :=
  ⟨cs, row_one h.length hb.size, TreesF.single (h.turned (fun k hk => Below.heap_alloc W _ k hk.2) (fun k hk => ⟨⟨hk.1, by rw [World.size_alloc]; have := hk.2; omega⟩, fun e => by have e2 : W.heap.size = k := Option.some.inj e; have := hk.2; omega⟩))⟩
set_option maxRecDepth 100000 in
set_option maxHeartbeats 2000000 in
theorem syn_place (b : Nat) (s : ByteArray) (f : Int) (p : Nat) (nv : Value) (line whole : Int) (w : World) (h : SyR w b s f p nv) :
    Calls Tryz.prog 83 #[.pointer (some ⟨b, 0, none⟩), .int .i64 line, .int .i64 whole] w fun e w' => ∃ v, e = .returned v ∧ ListOut w w' [leafT 5 0 [] (if onB f 4 = true then line else whole)] v ∧ Below w.heap.size w w' := by
  have g0 := Blk.cell h (j := 0) rfl
  clear h
  obtain ⟨V, hV⟩ : ∃ V, V = (if onB f 4 = true then line else whole) := ⟨_, rfl⟩
  rw [← hV]
  have HV := Lib.hid hV
  clear hV
  go_enter Tryz.func83, Tryz.ntmps83
  go_wp2_with fail
  refine (syn_on f 4 _).mono ?_
  rintro e w1 ⟨rfl, hB⟩
  have B1 := Lib.hid hB
  clear hB g0
  have hmm : onB f 4 = true ∨ onB f 4 = false := by cases onB f 4 <;> simp
  rcases hmm with hm | hm
  · rw [hm]
    obtain rfl : V = line := by rw [HV.out, if_pos hm]
    go_wp2_with fail
    go_ret
    exact ⟨_, rfl, list_one (cs := leafC 5 0 none 0 0 V) leafC_none B1.out, B1.out.alloc B1.out.size _⟩
  · rw [hm]
    obtain rfl : V = whole := by rw [HV.out, if_neg (by simp [hm])]
    go_wp2_with fail
    go_ret
    exact ⟨_, rfl, list_one (cs := leafC 5 0 none 0 0 V) leafC_none B1.out, B1.out.alloc B1.out.size _⟩

/-- Trees in a row of their own, which grows. -/
def RowF (W : World) (base : Nat) (av : Nat → Prop) (ts : List T) (v : Value) (xs : List Value) : Prop :=
  W.ownsRow base 29 10 v ts.length xs ∧ TreesF W (fun k => (base ≤ k ∧ k < W.heap.size ∧ ¬ av k) ∧ v.ownBlock ≠ some k) ts xs ∧ ∀ k, v.ownBlock = some k → ¬ av k
theorem RowF.nil (W : World) (base : Nat) (av : Nat → Prop) : RowF W base av [] (.slice none 0 0) [] := ⟨World.ownsRow_nil _ _ _ _, rfl, fun _ h => by cases h⟩
theorem ownsRow_kept {w w' : World} {base : Nat} {e : TypeId} {sz n : Nat} {v : Value} {xs : List Value} (h : w.ownsRow base e sz v n xs) (hb : ∀ g, v.ownBlock = some g → w'.heap[g]? = w.heap[g]?) : w'.ownsRow base e sz v n xs := by
  obtain ⟨h1, h2⟩ := h
  refine ⟨h1, ?_⟩
  rcases h2 with h2 | ⟨g, cap, cur, rfl, hb', hgg, hr⟩
  · exact .inl h2
  · refine .inr ⟨g, cap, cur, rfl, hb', ?_, hr⟩
    rw [hb g rfl]; exact hgg
/-- What is not written stays. -/
theorem RowF.keep {W W' : World} {base : Nat} {av av' : Nat → Prop} {ts : List T} {v : Value} {xs : List Value} (h : RowF W base av ts v xs) (hz : W.heap.size ≤ W'.heap.size)
    (hk : ∀ k, base ≤ k → k < W.heap.size → ¬ av k → W'.heap[k]? = W.heap[k]? ∧ ¬ av' k) : RowF W' base av' ts v xs := by
  obtain ⟨h1, h2, h3⟩ := h
  have hl := h1.lt
  refine ⟨ownsRow_kept h1 fun g hg => (hk g (hl g hg).1 (hl g hg).2 (h3 g hg)).1, h2.turned (fun k hok => (hk k hok.1.1 hok.1.2.1 hok.1.2.2).1) (fun k hok => ⟨⟨hok.1.1, Nat.lt_of_lt_of_le hok.1.2.1 hz, (hk k hok.1.1 hok.1.2.1 hok.1.2.2).2⟩, hok.2⟩), fun k hk' => (hk k (hl k hk').1 (hl k hk').2 (h3 k hk')).2⟩
theorem RowF.below {W W' : World} {base : Nat} {av : Nat → Prop} {ts : List T} {v : Value} {xs : List Value} (h : RowF W base av ts v xs) (hb : Below W.heap.size W W') : RowF W' base av ts v xs :=
  h.keep hb.size fun k _ hk ha => ⟨hb.block k hk, ha⟩
/-- Trees that are put behind a row's. -/
theorem RowF.push {W W' : World} {base : Nat} {av : Nat → Prop} {ts us : List T} {v v' : Value} {xs ys : List Value} (h : RowF W base av ts v xs) (hu : TreesF W (fun k => (base ≤ k ∧ k < W.heap.size ∧ ¬ av k) ∧ v.ownBlock ≠ some k) us ys)
    (ho : W'.ownsRow base 29 10 v' (ts.length + us.length) (xs ++ ys)) (hg : W.grownBy W' v.ownBlock) (hat : v'.ownBlock = v.ownBlock ∨ v'.ownBlock = some W.heap.size) (hav : ¬ av W.heap.size) : RowF W' base av (ts ++ us) v' (xs ++ ys) := by
  have hne : ∀ k, k < W.heap.size → v.ownBlock ≠ some k → v'.ownBlock ≠ some k := by
    intro k hk h1 e
    rcases hat with h2 | h2
    · exact h1 (by rw [← h2]; exact e)
    · rw [h2] at e; cases e; omega
  have key : ∀ {l : List T} {zs : List Value}, TreesF W (fun k => (base ≤ k ∧ k < W.heap.size ∧ ¬ av k) ∧ v.ownBlock ≠ some k) l zs → TreesF W' (fun k => (base ≤ k ∧ k < W'.heap.size ∧ ¬ av k) ∧ v'.ownBlock ≠ some k) l zs :=
    fun hl => hl.turned (fun k hk => hg.block k hk.1.2.1 (fun e => hk.2 e.symm)) (fun k hk => ⟨⟨hk.1.1, Nat.lt_of_lt_of_le hk.1.2.1 hg.size, hk.1.2.2⟩, hne k hk.1.2.1 hk.2⟩)
  refine ⟨by rw [List.length_append]; exact ho, (key h.2.1).append (key hu), fun k hk => ?_⟩
  rcases hat with h2 | h2
  · exact h.2.2 k (by rw [← h2]; exact hk)
  · rw [h2] at hk; cases hk; exact hav
theorem cells_new (w : World) (cs : List Value) (t : TypeId) : ∀ j u, cs[j]? = some u → (w.alloc (.cells cs.toArray t)).cell? ((⟨w.heap.size, 0, none⟩ : Addr).add j) = some u := by
  intro j u hj
  have e : (⟨w.heap.size, 0, none⟩ : Addr).add j = ⟨w.heap.size, j, none⟩ := by unfold Addr.add; split <;> simp_all
  rw [e]
  exact Blk.cell (Blk.new w cs t) hj
theorem Blk.same {w w' : World} {b : Nat} {cs : List Value} {t : TypeId} (h : Blk w b cs t) (e : w'.heap[b]? = w.heap[b]?) : Blk w' b cs t := by
  unfold Blk at h ⊢
  rw [e]; exact h
theorem RowF.list {w W : World} {base : Nat} {av : Nat → Prop} {ts : List T} {v : Value} {xs : List Value} (h : RowF W base av ts v xs) (hb : w.heap.size ≤ base) : ListOut w W ts v :=
  ⟨xs, Joins.ownsRow_le h.1 hb, h.2.1.turned (fun _ _ => rfl) (fun _ hk => ⟨⟨Nat.le_trans hb hk.1.1, hk.1.2.1⟩, hk.2⟩)⟩
end Go.Proofs.YtnhnldmldnhaoaaGreatDoor
