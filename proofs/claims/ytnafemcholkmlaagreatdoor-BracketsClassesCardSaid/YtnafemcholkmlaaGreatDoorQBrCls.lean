/- brackets.Class: the set of a class at a place of a text, and the place behind; or what is wrong. -/
import Derived.Test.YtnafemcholkmlaaGreatDoorQBrItem
import Derived.Test.YtnafemcholkmlaaGreatDoorQBrCatch
import Derived.Test.YtnafemcholkmlaaGreatDoorQBrClsA
import Derived.Deep.LoopGhost
namespace Go.Proofs.YtnafemcholkmlaaGreatDoor
open Go Go.RowKit Go.Proofs Go.Shelf

/-- The frame of a class's reader, laid. -/
structure ClsAt (w W : World) (s : ByteArray) (q : Nat) (p : Nat) (perl : Bool) : Prop where
  k6 : Blk W w.heap.size [.slice none 0 0] 24
  k7 : Blk W (w.heap.size + 1) [.int .i64 0] 3
  k8 : Blk W (w.heap.size + 1 + 1) [.int .i64 0, .int .i64 0, .int .i64 0] 27
  rd : BrR W (w.heap.size + 1 + 1 + 1) s q p perl
  bl : Below w.heap.size w W
theorem ClsAt.start (w : World) (s : ByteArray) (p : Nat) (perl : Bool) : ClsAt w ((((w.alloc (.cells #[.slice none 0 0] 24)).alloc (.cells #[.int .i64 0] 3)).alloc (.cells #[.int .i64 0, .int .i64 0, .int .i64 0] 27)).alloc (.cells #[.string s, .int .i64 p, .int .i64 p, .bool perl] 48)) s p p perl := by
  have z1 : (w.alloc (.cells #[.slice none 0 0] 24)).heap.size = w.heap.size + 1 := World.size_alloc _ _
  have z2 : ((w.alloc (.cells #[.slice none 0 0] 24)).alloc (.cells #[.int .i64 0] 3)).heap.size = w.heap.size + 1 + 1 := by rw [World.size_alloc, z1]
  have z3 : (((w.alloc (.cells #[.slice none 0 0] 24)).alloc (.cells #[.int .i64 0] 3)).alloc (.cells #[.int .i64 0, .int .i64 0, .int .i64 0] 27)).heap.size = w.heap.size + 1 + 1 + 1 := by rw [World.size_alloc, z2]
  refine ⟨(((Blk.new w [.slice none 0 0] 24).alloc _).alloc _).alloc _, ?_, ?_, ?_, ?_⟩
  · rw [← z1]; exact ((Blk.new _ [.int .i64 0] 3).alloc _).alloc _
  · rw [← z2]; exact (Blk.new _ [.int .i64 0, .int .i64 0, .int .i64 0] 27).alloc _
  · rw [← z3]; exact Blk.new _ [.string s, .int .i64 p, .int .i64 p, .bool perl] 48
  · exact ((((Below.refl _ w).alloc (Nat.le_refl _) _).alloc (by simp) _).alloc (by simp; omega) _).alloc (by simp; omega) _
theorem ClsAt.grown {w W W' : World} {s : ByteArray} {q p : Nat} {perl : Bool} (h : ClsAt w W s q p perl) (hg : W.grownBy W' (some (w.heap.size + 1 + 1 + 1))) {q' : Nat} (hr : BrR W' (w.heap.size + 1 + 1 + 1) s q' p perl) : ClsAt w W' s q' p perl :=
  ⟨h.k6.grown hg (ne_some (by omega)), h.k7.grown hg (ne_some (by omega)), h.k8.grown hg (ne_some (by omega)), hr, below_next h.bl (by have := h.k6.lt; omega) hg (fun k e => by cases e; omega)⟩

/-- The cells that a class's reader answers by. -/
structure ClsCells (w W : World) : Prop where
  c6 : W.cell? ⟨w.heap.size, 0, none⟩ = some (.slice none 0 0)
  c7 : W.cell? ⟨w.heap.size + 1, 0, none⟩ = some (.int .i64 0)
  c80 : W.cell? ⟨w.heap.size + 1 + 1, 0, none⟩ = some (.int .i64 0)
  c81 : W.cell? ⟨w.heap.size + 1 + 1, 1, none⟩ = some (.int .i64 0)
  c82 : W.cell? ⟨w.heap.size + 1 + 1, 2, none⟩ = some (.int .i64 0)
  f6 : W.frozen? ⟨w.heap.size, 0, none⟩ = false
  f7 : W.frozen? ⟨w.heap.size + 1, 0, none⟩ = false
  f80 : W.frozen? ⟨w.heap.size + 1 + 1, 0, none⟩ = false
  f81 : W.frozen? ⟨w.heap.size + 1 + 1, 1, none⟩ = false
  f82 : W.frozen? ⟨w.heap.size + 1 + 1, 2, none⟩ = false
theorem ClsAt.cells {w W : World} {s : ByteArray} {q p : Nat} {perl : Bool} (h : ClsAt w W s q p perl) : ClsCells w W :=
  ⟨Blk.cell h.k6 rfl, Blk.cell h.k7 rfl, Blk.cell h.k8 rfl, Blk.cell h.k8 rfl, Blk.cell h.k8 rfl, h.k6.frozen 0, h.k7.frozen 0, h.k8.frozen 0, h.k8.frozen 1, h.k8.frozen 2⟩

set_option maxHeartbeats 2000000 in
theorem cls_closed (s : ByteArray) (p : Nat) (f : Int) (w : World) (hp : p ≤ s.size) (perl : Bool) (hP : (bits BinOp.and IntKind.i64 f 32 != 0) = perl) (hn : stands s p [91] = false) :
    Calls Tryz.prog 8 #[.string s, .int .i64 p, .int .i64 f] w (ClsOut w (.wrong 1 p p)) := by
  have HA := Lib.hid (ClsAt.start w s p perl)
  go_enter_defers Tryz.func8, Tryz.ntmps8
  go_wp2_with fail
  refine (br_has_no (w.heap.size + 1 + 1 + 1) s ⟨#[91]⟩ p _ _ _ HA.out.rd hp hn).mono ?_
  rintro e w1 ⟨rfl, hR, hG⟩
  have A1 := Lib.hid (HA.out.grown hG hR); clear hR hG
  obtain ⟨c6, c7, c80, c81, c82, f6, f7, f80, f81, f82⟩ := A1.out.cells
  go_wp2_with fail
  refine ⟨.tuple #[.slice none 0 0, .int .i64 0, .agg #[.int .i64 1, .int .i64 p, .int .i64 p]], ?_, ?_, rfl⟩
  · simp [results, Tryz.results8, go_sem, c6, c7, c80, c81, c82]
  · exact ((((A1.out.bl.setCell (by simp) _).setCell (by simp) _).setCell (by simp; omega) _).setCell (by simp; omega) _).setCell (by simp; omega) _

theorem br_has_any (b : Nat) (s p : ByteArray) (i : Nat) (rest : List Value) (t : TypeId) (w : World) (h : Rd w b s i rest t) (hi : i ≤ s.size) (hs : s.size ≤ 1000000000000000) :
    Calls Tryz.prog 18 #[.pointer (some ⟨b, 0, none⟩), .string p] w fun e w' => e = .returned (.bool (stands s i p.data.toList)) ∧ Rd w' b s (if stands s i p.data.toList = true then i + p.size else i) rest t ∧ w.grownBy w' (some b) := by
  cases hy : stands s i p.data.toList with
  | true => simpa using br_has_yes b s p i rest t w h hi hs hy
  | false => simpa using br_has_no b s p i rest t w h hi hy
theorem clsAt_le {s : ByteArray} {p : Nat} (hp : p ≤ s.size) (hn : stands s p [91] = true) : clsAt s p ≤ s.size ∧ p < clsAt s p := by
  have l : p + 1 ≤ s.size := stands_le (p := ⟨#[91]⟩) hp hn
  unfold clsAt
  by_cases c : stands s (p + 1) [94] = true
  · rw [if_pos c]
    have l2 : p + 1 + 1 ≤ s.size := stands_le (p := ⟨#[94]⟩) l c
    omega
  · rw [if_neg c]; omega
theorem br_not (b : Nat) (s : ByteArray) (p : Nat) (rest : List Value) (t : TypeId) (w : World) (h : Rd w b s (p + 1) rest t) (hi : p + 1 ≤ s.size) (hs : s.size ≤ 1000000000000000) :
    Calls Tryz.prog 18 #[.pointer (some ⟨b, 0, none⟩), .string ⟨#[94]⟩] w fun e w' => e = .returned (.bool (stands s (p + 1) [94])) ∧ Rd w' b s (clsAt s p) rest t ∧ w.grownBy w' (some b) := by
  unfold clsAt
  exact br_has_any b s ⟨#[94]⟩ (p + 1) rest t w h hi hs

/-- The blocks that a class's reader answers by. -/
structure ClsBlk (w W : World) : Prop where
  k6 : Blk W w.heap.size [.slice none 0 0] 24
  k7 : Blk W (w.heap.size + 1) [.int .i64 0] 3
  k8 : Blk W (w.heap.size + 1 + 1) [.int .i64 0, .int .i64 0, .int .i64 0] 27
  bl : Below w.heap.size w W
theorem ClsAt.blk {w W W' : World} {s : ByteArray} {q p : Nat} {perl : Bool} (h : ClsAt w W s q p perl) (hg : W.grownBy W' (some (w.heap.size + 1 + 1 + 1))) : ClsBlk w W' :=
  ⟨h.k6.grown hg (ne_some (by omega)), h.k7.grown hg (ne_some (by omega)), h.k8.grown hg (ne_some (by omega)), below_next h.bl (by have := h.k6.lt; omega) hg (fun k e => by cases e; omega)⟩
/-- A class's reader that panics answers what was wrong. -/
theorem cls_caught {w W : World} (A : ClsBlk w W) (x a b : Int) (tmps : Array Value)
    (hr : ∀ W', W'.cell? ⟨w.heap.size, 0, none⟩ = some (.slice none 0 0) → W'.cell? ⟨w.heap.size + 1, 0, none⟩ = some (.int .i64 0) → W'.cell? ⟨w.heap.size + 1 + 1, 0, none⟩ = some (.int .i64 x) → W'.cell? ⟨w.heap.size + 1 + 1, 1, none⟩ = some (.int .i64 a) → W'.cell? ⟨w.heap.size + 1 + 1, 2, none⟩ = some (.int .i64 b) →
      (results Tryz.f8 tmps).run Tryz.prog W' = .ok (.tuple #[.slice none 0 0, .int .i64 0, .agg #[.int .i64 x, .int .i64 a, .int .i64 b]]) W') :
    Leaves Tryz.prog Tryz.f8 tmps (ClsOut w (.wrong x a b)) [{ target := .fn (.func 19) #[.pointer (some ⟨w.heap.size, 0, none⟩), .pointer (some ⟨w.heap.size + 1, 0, none⟩), .pointer (some ⟨w.heap.size + 1 + 1, 0, none⟩)], args := #[] }] (.panicking [{ v := .iface 27 (wrongV x a b), recovered := false }]) W := by
  refine leaves_cons (by simp) (f := 19) (args := #[.pointer (some ⟨w.heap.size, 0, none⟩), .pointer (some ⟨w.heap.size + 1, 0, none⟩), .pointer (some ⟨w.heap.size + 1 + 1, 0, none⟩)]) (by simp [go_sem]) ?_
  refine (class_caught w.heap.size (w.heap.size + 1) (w.heap.size + 1 + 1) w.heap.size _ _ _ _ _ _ _ x a b W A.k6 A.k7 A.k8 (by omega) (by omega) (by omega) (Nat.le_refl _) (by omega) (by omega) (by have := A.k6.lt; omega)).mono ?_
  rintro e u w' ⟨rfl, rfl, h6, h7, h8, hB⟩
  exact ⟨_, hr w' (Blk.cell h6 rfl) (Blk.cell h7 rfl) (Blk.cell h8 rfl) (Blk.cell h8 rfl) (Blk.cell h8 rfl), A.bl.trans hB, rfl⟩

set_option maxHeartbeats 4000000 in
theorem cls_first (s : ByteArray) (p : Nat) (f : Int) (w : World) (hp : p ≤ s.size) (hs : s.size ≤ 100000000) (hT : Tabs w) (perl : Bool) (hP : (bits BinOp.and IntKind.i64 f 32 != 0) = perl) (hn : stands s p [91] = true) (x a b : Int) (hi : itemP s (clsAt s p) perl p = .wrong x a b) :
    Calls Tryz.prog 8 #[.string s, .int .i64 p, .int .i64 f] w (ClsOut w (.wrong x a b)) := by
  have HA := Lib.hid (ClsAt.start w s p perl)
  have HT := Lib.hid hT
  have HI := Lib.hid hi
  have l1 : p + 1 ≤ s.size := stands_le (p := ⟨#[91]⟩) hp hn
  have l2 := clsAt_le hp hn
  have hlt := hT.lt
  clear hT hi
  go_enter_defers Tryz.func8, Tryz.ntmps8
  go_wp2_with fail
  refine (br_has_yes (w.heap.size + 1 + 1 + 1) s ⟨#[91]⟩ p _ _ _ HA.out.rd hp (by omega) hn).mono ?_
  rintro e w1 ⟨rfl, hR, hG⟩
  have A1 := Lib.hid (HA.out.grown hG hR); clear hR hG
  go_wp2_with fail
  refine (br_not (w.heap.size + 1 + 1 + 1) s p _ _ _ A1.out.rd l1 (by omega)).mono ?_
  rintro e w2 ⟨rfl, hR, hG⟩
  have A2 := Lib.hid (A1.out.grown hG hR); clear hR hG
  have T2 := Lib.hid (HT.out.below A2.out.bl)
  go_wp2_with fail
  refine (item_any (w.heap.size + 1 + 1 + 1) s (clsAt s p) p perl _ A2.out.rd T2.out (by omega) (by omega) l2.1 (by omega)).mono ?_
  rw [HI.out]
  rintro e w3 ⟨hG, rfl⟩
  exact cls_caught (A2.out.blk hG) x a b _ (fun W' c6 c7 c80 c81 c82 => by simp [results, Tryz.results8, go_sem, c6, c7, c80, c81, c82])
end Go.Proofs.YtnafemcholkmlaaGreatDoor
