/- A block of cells that is known whole, and how it fares. -/
import Derived.Below
import Derived.OneCell
import Derived.Deep.Draws
import Derived.Lib.ConvBytes
namespace Go.Proofs.YtnafemcholkmlaaGreatDoor
open Go Go.RowKit

def Blk (w : World) (b : Nat) (cs : List Value) (t : TypeId) : Prop := w.heap[b]? = some (.cells cs.toArray t (0, 0))

theorem Blk.lt {w : World} {b : Nat} {cs : List Value} {t : TypeId} (h : Blk w b cs t) : b < w.heap.size := by
  unfold Blk at h
  rcases Nat.lt_or_ge b w.heap.size with h' | h'
  · exact h'
  · rw [Array.getElem?_eq_none h'] at h; cases h

theorem Blk.cell {w : World} {b : Nat} {cs : List Value} {t : TypeId} (h : Blk w b cs t) {j : Nat} {v : Value} (hj : cs[j]? = some v) : w.cell? ⟨b, j, none⟩ = some v := by
  unfold Blk at h
  simp [World.cell?, h, hj]

theorem Blk.frozen {w : World} {b : Nat} {cs : List Value} {t : TypeId} (h : Blk w b cs t) (j : Nat) : w.frozen? ⟨b, j, none⟩ = false := by
  unfold Blk at h
  simp [World.frozen?, h]

theorem Blk.of_block {w w' : World} {b : Nat} {cs : List Value} {t : TypeId} (h : Blk w b cs t) (he : w'.heap[b]? = w.heap[b]?) : Blk w' b cs t := by
  unfold Blk at h ⊢; rw [he]; exact h

theorem Blk.below {B : Nat} {w w' : World} {b : Nat} {cs : List Value} {t : TypeId} (h : Blk w b cs t) (hb : Below B w w') (hlt : b < B) : Blk w' b cs t :=
  h.of_block (hb.block b hlt)

theorem Blk.grown {w w' : World} {b : Nat} {cs : List Value} {t : TypeId} {row : Option Nat} (h : Blk w b cs t) (hg : w.grownBy w' row) (hne : some b ≠ row) : Blk w' b cs t :=
  h.of_block (hg.block b h.lt hne)

theorem Blk.new (w : World) (cs : List Value) (t : TypeId) : Blk (w.alloc (.cells cs.toArray t)) w.heap.size cs t := by
  unfold Blk
  show (w.heap.push _)[w.heap.size]? = _
  simp

theorem Blk.alloc {w : World} {b : Nat} {cs : List Value} {t : TypeId} (h : Blk w b cs t) (o : Obj) : Blk (w.alloc o) b cs t :=
  h.of_block (Below.heap_alloc w o b h.lt)

theorem Blk.drew {w : World} {b : Nat} {cs : List Value} {t : TypeId} (h : Blk w b cs t) : Blk w.drew b cs t := h

theorem Blk.set {w : World} {b : Nat} {cs : List Value} {t : TypeId} (h : Blk w b cs t) (j : Nat) (v : Value) : Blk (w.setCell ⟨b, j, none⟩ v) b (cs.set j v) t := by
  unfold Blk at h ⊢
  simp [World.setCell, Array.getElem?_modify, h]

theorem Blk.setCell_other {w : World} {b : Nat} {cs : List Value} {t : TypeId} (h : Blk w b cs t) {a : Addr} (hne : b ≠ a.block) (v : Value) : Blk (w.setCell a v) b cs t :=
  h.of_block (Below.heap_setCell w a v b hne)

/-- The world has grown, and nothing that was there has turned but one block. -/
theorem grownBy_refl (w : World) (row : Option Nat) : w.grownBy w row := ⟨rfl, rfl, rfl, Nat.le_refl _, fun _ _ _ => rfl⟩
theorem grownBy_trans {a b c : World} {row : Option Nat} (h : a.grownBy b row) (k : b.grownBy c row) : a.grownBy c row :=
  ⟨k.os.trans h.os, k.tape.trans h.tape, k.output.trans h.output, Nat.le_trans h.size k.size, fun i hi hne => (k.block i (Nat.lt_of_lt_of_le hi h.size) hne).trans (h.block i hi hne)⟩
theorem grownBy_below {a b : World} (h : Below a.heap.size a b) (row : Option Nat) : a.grownBy b row := ⟨h.os, h.tape, h.output, h.size, fun k hk _ => h.block k hk⟩
theorem below_grownBy {a b : World} (h : a.grownBy b none) : Below a.heap.size a b := ⟨h.os, h.tape, h.output, h.size, fun k hk => h.block k hk (by simp)⟩
theorem grownBy_alloc (w : World) (o : Obj) (row : Option Nat) : w.grownBy (w.alloc o) row := grownBy_below ((Below.refl _ _).alloc (Nat.le_refl _) _) row
theorem grownBy_drew (w : World) (row : Option Nat) : w.grownBy w.drew row := ⟨rfl, rfl, rfl, Nat.le_refl _, fun _ _ _ => rfl⟩
theorem grownBy_setCell (w : World) (b j : Nat) (v : Value) : w.grownBy (w.setCell ⟨b, j, none⟩ v) (some b) :=
  ⟨rfl, rfl, rfl, by simp [World.setCell], fun k _ hne => Below.heap_setCell w ⟨b, j, none⟩ v k (fun e => hne (by rw [e]))⟩
/-- What has grown from a world of which only blocks from B on may be written. -/
theorem below_of_grownBy {B : Nat} {a b : World} {row : Option Nat} (h : a.grownBy b row) (hB : B ≤ a.heap.size) (hr : ∀ k, row = some k → B ≤ k) : Below B a b :=
  (Below.refl B a).grown h hB hr
theorem below_drewN {B : Nat} {a w : World} (h : Below B a w) (n : Nat) : Below B a (w.drewN n) := ⟨h.os, h.tape, h.output, h.size, h.block⟩
theorem Blk.drewN {w : World} {b : Nat} {cs : List Value} {t : TypeId} (h : Blk w b cs t) (n : Nat) : Blk (w.drewN n) b cs t := h
theorem grownBy_drewN (w : World) (n : Nat) (row : Option Nat) : w.grownBy (w.drewN n) row := ⟨rfl, rfl, rfl, Nat.le_refl _, fun _ _ _ => rfl⟩
/-- '[]byte(s)'. -/
theorem conv_bytes {P : Program} (w : World) (src dst e : TypeId) (s : ByteArray) {u : TypeDesc} (hs : P.underlying src = some u) (hd : P.underlying dst = some (.slice e)) (he : P.underlying e = some (.int .u8)) :
    ∃ (cap : Nat) (w2 : World), (convert src dst (.string s)).run P w = .ok (.slice (some ⟨w.heap.size, 0, none⟩) s.size cap) w2 ∧
      (∀ j, j < s.size → w2.cell? ⟨w.heap.size, j, none⟩ = some (.int .u8 ((s.data.toList.getD j 0).toNat : Int))) ∧ Below w.heap.size w w2 ∧ w2.heap.size = w.heap.size + 1 :=
  ⟨_, _, Lib.run_convert_string_bytes w src dst e s hs hd he, fun j hj => Lib.bytesWorld_cell w e s j hj,
    ⟨by simp [Lib.bytesWorld, World.freeze, World.alloc, World.drew, -World.alloc_eq, -World.drew_eq], by simp [Lib.bytesWorld, World.freeze, World.alloc, World.drew, -World.alloc_eq, -World.drew_eq], by simp [Lib.bytesWorld, World.freeze, World.alloc, World.drew, -World.alloc_eq, -World.drew_eq], by rw [Lib.bytesWorld_size]; omega, fun k hk => Lib.bytesWorld_at_old w e s k hk⟩, Lib.bytesWorld_size w e s⟩

/-- A struct of four cells stored over a block's first four. -/
def World.set4 (w : World) (b : Nat) (v0 v1 v2 v3 : Value) : World := (((w.setCell ⟨b, 0, none⟩ v0).setCell ⟨b, 1, none⟩ v1).setCell ⟨b, 2, none⟩ v2).setCell ⟨b, 3, none⟩ v3
theorem Blk.set4 {w : World} {b : Nat} {c0 c1 c2 c3 : Value} {t : TypeId} (h : Blk w b [c0, c1, c2, c3] t) (v0 v1 v2 v3 : Value) : Blk (World.set4 w b v0 v1 v2 v3) b [v0, v1, v2, v3] t :=
  (((h.set 0 v0).set 1 v1).set 2 v2).set 3 v3
theorem Blk.set4_other {w : World} {b b' : Nat} {cs : List Value} {t : TypeId} (h : Blk w b' cs t) (hne : b' ≠ b) (v0 v1 v2 v3 : Value) : Blk (World.set4 w b v0 v1 v2 v3) b' cs t :=
  (((h.setCell_other (a := ⟨b, 0, none⟩) hne v0).setCell_other (a := ⟨b, 1, none⟩) hne v1).setCell_other (a := ⟨b, 2, none⟩) hne v2).setCell_other (a := ⟨b, 3, none⟩) hne v3
theorem grownBy_set4 (w : World) (b : Nat) (v0 v1 v2 v3 : Value) : w.grownBy (World.set4 w b v0 v1 v2 v3) (some b) :=
  grownBy_trans (grownBy_trans (grownBy_trans (grownBy_setCell w b 0 v0) (grownBy_setCell _ b 1 v1)) (grownBy_setCell _ b 2 v2)) (grownBy_setCell _ b 3 v3)
theorem ne_some {a b : Nat} (h : a ≠ b) : some a ≠ some b := fun e => h (Option.some.inj e)
/-- Two calls, one behind the other. -/
theorem below_then {a b c : World} (h : Below a.heap.size a b) (k : Below b.heap.size b c) : Below a.heap.size a c := h.trans (k.mono h.size)
/-- A call that has laid a block of its own, and written to that alone. -/
theorem below_local {w w' : World} {o : Obj} (h : (w.alloc o).grownBy w' (some w.heap.size)) : Below w.heap.size w w' :=
  ((Below.refl _ w).alloc (Nat.le_refl _) o).trans (below_of_grownBy h (by simp) (fun k e => by cases e; exact Nat.le_refl _))
/-- Blocks from B on may be written, nothing else. -/
theorem below_next {B : Nat} {w a b : World} {row : Option Nat} (h : Below B w a) (hB : B ≤ w.heap.size) (g : a.grownBy b row) (hr : ∀ k, row = some k → B ≤ k) : Below B w b :=
  h.trans (below_of_grownBy g (Nat.le_trans hB h.size) hr)
end Go.Proofs.YtnafemcholkmlaaGreatDoor
