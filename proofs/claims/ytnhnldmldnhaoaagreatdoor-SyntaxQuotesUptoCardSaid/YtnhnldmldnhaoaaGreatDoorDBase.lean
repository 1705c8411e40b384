/- Plain data of the program and how they lie in memory: ranges, trees, slices of structs. A block of cells that is known whole, and how it fares. -/
import Derived.Below
import Derived.OneCell
import Derived.Deep.Draws
import Derived.Lib.ConvBytes
namespace Go.Proofs.YtnhnldmldnhaoaaGreatDoor
open Go Go.RowKit

/-- Behind `Below` a cell that held something holds it still. -/
theorem cell_lift {B : Nat} {w w' : World} (h : Below B w w') {b o : Nat} (hb : b < B) {v : Value} (hc : w.cell? ⟨b, o, none⟩ = some v) : w'.cell? ⟨b, o, none⟩ = some v := by
  rw [h.cell (p := ⟨b, o, none⟩) hb]; exact hc

/-- A row of cells from a place on. -/
def RowAt (w : World) (b o : Nat) (cs : List Value) : Prop := ∀ j, j < cs.length → w.cell? ⟨b, o + j, none⟩ = cs[j]?

theorem RowAt.below {B : Nat} {w w' : World} {b o : Nat} {cs : List Value} (h : RowAt w b o cs) (hb : Below B w w') (hlt : b < B) : RowAt w' b o cs := by
  intro j hj
  rw [hb.cell (p := ⟨b, o + j, none⟩) hlt]; exact h j hj

theorem RowAt.ten {w : World} {b o : Nat} {c0 c1 c2 c3 c4 c5 c6 c7 c8 c9 : Value} (h : RowAt w b o [c0, c1, c2, c3, c4, c5, c6, c7, c8, c9]) :
    w.cell? ⟨b, o, none⟩ = some c0 ∧ w.cell? ⟨b, o + 1, none⟩ = some c1 ∧ w.cell? ⟨b, o + 2, none⟩ = some c2 ∧ w.cell? ⟨b, o + 3, none⟩ = some c3 ∧ w.cell? ⟨b, o + 4, none⟩ = some c4 ∧
    w.cell? ⟨b, o + 5, none⟩ = some c5 ∧ w.cell? ⟨b, o + 6, none⟩ = some c6 ∧ w.cell? ⟨b, o + 7, none⟩ = some c7 ∧ w.cell? ⟨b, o + 8, none⟩ = some c8 ∧ w.cell? ⟨b, o + 9, none⟩ = some c9 :=
  ⟨h 0 (by simp), h 1 (by simp), h 2 (by simp), h 3 (by simp), h 4 (by simp), h 5 (by simp), h 6 (by simp), h 7 (by simp), h 8 (by simp), h 9 (by simp)⟩

/-- A plain tree. -/
inductive T where
  | mk (op : Int) (kids : List T) (rune : Int) (set : List (Int × Int)) (pl cap : Int) (name : ByteArray) (mn mx : Int) (lz : Bool)

namespace T
def op : T → Int | mk a _ _ _ _ _ _ _ _ _ => a
def kids : T → List T | mk _ a _ _ _ _ _ _ _ _ => a
def rune : T → Int | mk _ _ a _ _ _ _ _ _ _ => a
def set : T → List (Int × Int) | mk _ _ _ a _ _ _ _ _ _ => a
def pl : T → Int | mk _ _ _ _ a _ _ _ _ _ => a
def cap : T → Int | mk _ _ _ _ _ a _ _ _ _ => a
def name : T → ByteArray | mk _ _ _ _ _ _ a _ _ _ => a
def mn : T → Int | mk _ _ _ _ _ _ _ a _ _ => a
def mx : T → Int | mk _ _ _ _ _ _ _ _ a _ => a
def lz : T → Bool | mk _ _ _ _ _ _ _ _ _ a => a

theorem ind {P : T → Prop} (h : ∀ op kids rune set pl cap name mn mx lz, (∀ k ∈ kids, P k) → P (.mk op kids rune set pl cap name mn mx lz)) : ∀ t, P t
  | .mk op kids rune set pl cap name mn mx lz => h _ _ _ _ _ _ _ _ _ _ (fun k _ => T.ind h k)
end T

/-- A list of ranges lies from a place on, two cells each. -/
def RangesAt (w : World) : List (Int × Int) → Nat → Nat → Prop
  | [], _, _ => True
  | (l, h) :: rs, b, o => w.cell? ⟨b, o, none⟩ = some (.int .i32 l) ∧ w.cell? ⟨b, o + 1, none⟩ = some (.int .i32 h) ∧ RangesAt w rs b (o + 2)

/-- A slice of ranges. -/
def RangesV (w : World) (B : Nat) (rs : List (Int × Int)) (a : Option Addr) (n c : Nat) : Prop :=
  n = rs.length ∧ (n ≤ c ∧ n ≤ 140737488351232) ∧ (n = 0 ∨ ∃ b o, a = some ⟨b, o, none⟩ ∧ b < B ∧ RangesAt w rs b o)

theorem RangesAt.below {B : Nat} {w w' : World} (hb : Below B w w') {b : Nat} (hlt : b < B) : ∀ {rs : List (Int × Int)} {o : Nat}, RangesAt w rs b o → RangesAt w' rs b o
  | [], _, _ => trivial
  | (_, _) :: _, _, h => ⟨cell_lift hb hlt h.1, cell_lift hb hlt h.2.1, RangesAt.below hb hlt h.2.2⟩

theorem RangesV.below {B : Nat} {w w' : World} {rs : List (Int × Int)} {a : Option Addr} {n c : Nat} (h : RangesV w B rs a n c) (hb : Below B w w') : RangesV w' B rs a n c := by
  obtain ⟨h1, h2, h3⟩ := h
  refine ⟨h1, h2, ?_⟩
  rcases h3 with h3 | ⟨b, o, ha, hlt, hr⟩
  · exact .inl h3
  · exact .inr ⟨b, o, ha, hlt, hr.below hb hlt⟩

theorem RangesAt.get {w : World} {b : Nat} : ∀ {rs : List (Int × Int)} {o : Nat}, RangesAt w rs b o → ∀ k (hk : k < rs.length), w.cell? ⟨b, o + k * 2, none⟩ = some (.int .i32 rs[k].1) ∧ w.cell? ⟨b, o + k * 2 + 1, none⟩ = some (.int .i32 rs[k].2)
  | [], _, _, k, hk => absurd hk (Nat.not_lt_zero _)
  | (_, _) :: _, _, h, 0, _ => ⟨h.1, h.2.1⟩
  | (_, _) :: rs, o, h, k + 1, hk => by
    have := RangesAt.get h.2.2 k (by simpa using hk)
    have e1 : o + 2 + k * 2 = o + (k + 1) * 2 := by omega
    rw [e1] at this
    simpa using this

mutual
/-- The ten cells of a tree. -/
def TreeV (w : World) (B : Nat) : T → List Value → Prop
  | .mk op kids rune set pl cap name mn mx lz, cs => ∃ (ka : Option Addr) (kn kc : Nat) (sa : Option Addr) (sn sc : Nat),
      cs = [.int .i64 op, .slice ka kn kc, .int .i32 rune, .slice sa sn sc, .int .i64 pl, .int .i64 cap, .string name, .int .i64 mn, .int .i64 mx, .bool lz] ∧
      kn = kids.length ∧ (kn ≤ kc ∧ kn ≤ 140737488351232) ∧ (kn = 0 ∨ ∃ b o, ka = some ⟨b, o, none⟩ ∧ b < B ∧ KidsAt w B kids b o) ∧ RangesV w B set sa sn sc
def KidsAt (w : World) (B : Nat) : List T → Nat → Nat → Prop
  | [], _, _ => True
  | t :: ts, b, o => (∃ cs, TreeV w B t cs ∧ RowAt w b o cs) ∧ KidsAt w B ts b (o + 10)
end

def KidsV (w : World) (B : Nat) (kids : List T) (a : Option Addr) (n c : Nat) : Prop :=
  n = kids.length ∧ (n ≤ c ∧ n ≤ 140737488351232) ∧ (n = 0 ∨ ∃ b o, a = some ⟨b, o, none⟩ ∧ b < B ∧ KidsAt w B kids b o)

theorem TreeV.open {w : World} {B : Nat} {op : Int} {kids : List T} {rune : Int} {set : List (Int × Int)} {pl cap : Int} {name : ByteArray} {mn mx : Int} {lz : Bool} {cs : List Value}
    (h : TreeV w B (.mk op kids rune set pl cap name mn mx lz) cs) : ∃ (ka : Option Addr) (kn kc : Nat) (sa : Option Addr) (sn sc : Nat),
      cs = [.int .i64 op, .slice ka kn kc, .int .i32 rune, .slice sa sn sc, .int .i64 pl, .int .i64 cap, .string name, .int .i64 mn, .int .i64 mx, .bool lz] ∧
      KidsV w B kids ka kn kc ∧ RangesV w B set sa sn sc := by
  unfold TreeV at h
  obtain ⟨ka, kn, kc, sa, sn, sc, h1, h2, h3, h4, h5⟩ := h
  exact ⟨ka, kn, kc, sa, sn, sc, h1, ⟨h2, h3, h4⟩, h5⟩

theorem TreeV.mk {w : World} {B : Nat} {op : Int} {kids : List T} {rune : Int} {set : List (Int × Int)} {pl cap : Int} {name : ByteArray} {mn mx : Int} {lz : Bool}
    {ka : Option Addr} {kn kc : Nat} {sa : Option Addr} {sn sc : Nat} (h1 : KidsV w B kids ka kn kc) (h2 : RangesV w B set sa sn sc) :
    TreeV w B (.mk op kids rune set pl cap name mn mx lz) [.int .i64 op, .slice ka kn kc, .int .i32 rune, .slice sa sn sc, .int .i64 pl, .int .i64 cap, .string name, .int .i64 mn, .int .i64 mx, .bool lz] := by
  unfold TreeV
  exact ⟨ka, kn, kc, sa, sn, sc, rfl, h1.1, h1.2.1, h1.2.2, h2⟩

theorem TreeV.length {w : World} {B : Nat} {t : T} {cs : List Value} (h : TreeV w B t cs) : cs.length = 10 := by
  cases t
  obtain ⟨ka, kn, kc, sa, sn, sc, rfl, _⟩ := h.open
  rfl

theorem TreeV.form {w : World} {B : Nat} {t : T} {cs : List Value} (h : TreeV w B t cs) : ∃ (op : Int) (ka : Option Addr) (kn kc : Nat) (rune : Int) (sa : Option Addr) (sn sc : Nat) (pl cap : Int) (name : ByteArray) (mn mx : Int) (lz : Bool),
    cs = [.int .i64 op, .slice ka kn kc, .int .i32 rune, .slice sa sn sc, .int .i64 pl, .int .i64 cap, .string name, .int .i64 mn, .int .i64 mx, .bool lz] := by
  cases t
  obtain ⟨ka, kn, kc, sa, sn, sc, rfl, _⟩ := h.open
  exact ⟨_, _, _, _, _, _, _, _, _, _, _, _, _, _, rfl⟩

theorem KidsAt.nil {w : World} {B b o : Nat} : KidsAt w B [] b o := by unfold KidsAt; trivial
theorem KidsAt.cons {w : World} {B b o : Nat} {t : T} {ts : List T} : KidsAt w B (t :: ts) b o ↔ (∃ cs, TreeV w B t cs ∧ RowAt w b o cs) ∧ KidsAt w B ts b (o + 10) := by
  constructor
  · intro h; unfold KidsAt at h; exact h
  · intro h; unfold KidsAt; exact h

theorem KidsAt.get {w : World} {B b : Nat} : ∀ {ts : List T} {o : Nat}, KidsAt w B ts b o → ∀ k (hk : k < ts.length), ∃ cs, TreeV w B ts[k] cs ∧ RowAt w b (o + k * 10) cs
  | [], _, _, k, hk => absurd hk (Nat.not_lt_zero _)
  | t :: ts, o, h, 0, _ => by simpa using (KidsAt.cons.1 h).1
  | t :: ts, o, h, k + 1, hk => by
    obtain ⟨cs, h1, h2⟩ := KidsAt.get (KidsAt.cons.1 h).2 k (by simpa using hk)
    refine ⟨cs, by simpa using h1, ?_⟩
    have e1 : o + 10 + k * 10 = o + (k + 1) * 10 := by omega
    rw [e1] at h2; exact h2

theorem KidsAt.of {w : World} {B b : Nat} : ∀ {ts : List T} {o : Nat}, (∀ k (hk : k < ts.length), ∃ cs, TreeV w B ts[k] cs ∧ RowAt w b (o + k * 10) cs) → KidsAt w B ts b o
  | [], _, _ => KidsAt.nil
  | t :: ts, o, h => KidsAt.cons.2 ⟨(by have h0 := h 0 (by simp); simp only [List.getElem_cons_zero, Nat.zero_mul, Nat.add_zero] at h0; exact h0), KidsAt.of fun k hk => by
      obtain ⟨cs, h1, h2⟩ := h (k + 1) (by simpa using hk)
      refine ⟨cs, by simpa using h1, ?_⟩
      have e1 : o + (k + 1) * 10 = o + 10 + k * 10 := by omega
      rw [e1] at h2; exact h2⟩

theorem TreeV.below {B : Nat} {w w' : World} (hb : Below B w w') (t : T) : ∀ {cs : List Value}, TreeV w B t cs → TreeV w' B t cs := by
  induction t using T.ind with
  | h op kids rune set pl cap name mn mx lz ih =>
    intro cs h
    obtain ⟨ka, kn, kc, sa, sn, sc, rfl, ⟨h1, h2, h3⟩, h4⟩ := h.open
    refine TreeV.mk ⟨h1, h2, ?_⟩ (h4.below hb)
    rcases h3 with h3 | ⟨b, o, ha, hlt, hk⟩
    · exact .inl h3
    · refine .inr ⟨b, o, ha, hlt, KidsAt.of fun k hk' => ?_⟩
      obtain ⟨cs, hc, hr⟩ := hk.get k hk'
      exact ⟨cs, ih _ (List.getElem_mem hk') hc, hr.below hb hlt⟩

theorem KidsAt.below {B : Nat} {w w' : World} (hb : Below B w w') {ts : List T} {b o : Nat} (hlt : b < B) (h : KidsAt w B ts b o) : KidsAt w' B ts b o :=
  KidsAt.of fun k hk => by
    obtain ⟨cs, hc, hr⟩ := h.get k hk
    exact ⟨cs, hc.below hb, hr.below hb hlt⟩

theorem KidsV.below {B : Nat} {w w' : World} {kids : List T} {a : Option Addr} {n c : Nat} (h : KidsV w B kids a n c) (hb : Below B w w') : KidsV w' B kids a n c := by
  obtain ⟨h1, h2, h3⟩ := h
  refine ⟨h1, h2, ?_⟩
  rcases h3 with h3 | ⟨b, o, ha, hlt, hr⟩
  · exact .inl h3
  · exact .inr ⟨b, o, ha, hlt, hr.below hb hlt⟩

theorem RangesV.mono {B B' : Nat} {w : World} {rs : List (Int × Int)} {a : Option Addr} {n c : Nat} (h : RangesV w B rs a n c) (hB : B ≤ B') : RangesV w B' rs a n c := by
  obtain ⟨h1, h2, h3⟩ := h
  exact ⟨h1, h2, h3.imp_right fun ⟨b, o, ha, hlt, hr⟩ => ⟨b, o, ha, by omega, hr⟩⟩

theorem TreeV.mono {B B' : Nat} {w : World} (hB : B ≤ B') (t : T) : ∀ {cs : List Value}, TreeV w B t cs → TreeV w B' t cs := by
  induction t using T.ind with
  | h op kids rune set pl cap name mn mx lz ih =>
    intro cs h
    obtain ⟨ka, kn, kc, sa, sn, sc, rfl, ⟨h1, h2, h3⟩, h4⟩ := h.open
    refine TreeV.mk ⟨h1, h2, ?_⟩ (h4.mono hB)
    rcases h3 with h3 | ⟨b, o, ha, hlt, hk⟩
    · exact .inl h3
    · refine .inr ⟨b, o, ha, by omega, KidsAt.of fun k hk' => ?_⟩
      obtain ⟨cs, hc, hr⟩ := hk.get k hk'
      exact ⟨cs, ih _ (List.getElem_mem hk') hc, hr⟩
end Go.Proofs.YtnhnldmldnhaoaaGreatDoor

namespace Go.Proofs.YtnhnldmldnhaoaaGreatDoor
open Go Go.RowKit

def Blk (w : World) (b : Nat) (cs : List Value) (t : TypeId) : Prop := w.heap[b]? = some (.cells cs.toArray t (0, 0))

theorem Blk.lt {w : World} {b : Nat} {cs : List Value} {t : TypeId} (h : Blk w b cs t) : b < w.heap.size := by
  unfold Blk at h
  rcases Nat.lt_or_ge b w.heap.size with h' | h'
  · exact h'
  · rw [Array.getElem?_eq_none h'] at h; cases h

theorem Blk.cell {w : World} {b : Nat} {cs : List Value} {t : TypeId} (h : Blk w b cs t) {j : Nat} {v : Value} (hj : cs[j]? = some v) : w.cell? ⟨b, j, none⟩ = some v := by
  unfold Blk at h
  simp [World.cell?, h, hj]

theorem Blk.frozen {w : World} {b : Nat} {cs : List Value} {t : TypeId} (h : Blk w b cs t) (j : Nat) : w.frozen? ⟨b, j, none⟩ = false := by
  unfold Blk at h
  simp [World.frozen?, h]

theorem Blk.of_block {w w' : World} {b : Nat} {cs : List Value} {t : TypeId} (h : Blk w b cs t) (he : w'.heap[b]? = w.heap[b]?) : Blk w' b cs t := by
  unfold Blk at h ⊢; rw [he]; exact h

theorem Blk.below {B : Nat} {w w' : World} {b : Nat} {cs : List Value} {t : TypeId} (h : Blk w b cs t) (hb : Below B w w') (hlt : b < B) : Blk w' b cs t :=
  h.of_block (hb.block b hlt)

theorem Blk.grown {w w' : World} {b : Nat} {cs : List Value} {t : TypeId} {row : Option Nat} (h : Blk w b cs t) (hg : w.grownBy w' row) (hne : some b ≠ row) : Blk w' b cs t :=
  h.of_block (hg.block b h.lt hne)

theorem Blk.new (w : World) (cs : List Value) (t : TypeId) : Blk (w.alloc (.cells cs.toArray t)) w.heap.size cs t := by
  unfold Blk
  show (w.heap.push _)[w.heap.size]? = _
  simp

theorem Blk.alloc {w : World} {b : Nat} {cs : List Value} {t : TypeId} (h : Blk w b cs t) (o : Obj) : Blk (w.alloc o) b cs t :=
  h.of_block (Below.heap_alloc w o b h.lt)

theorem Blk.drew {w : World} {b : Nat} {cs : List Value} {t : TypeId} (h : Blk w b cs t) : Blk w.drew b cs t := h

theorem Blk.set {w : World} {b : Nat} {cs : List Value} {t : TypeId} (h : Blk w b cs t) (j : Nat) (v : Value) : Blk (w.setCell ⟨b, j, none⟩ v) b (cs.set j v) t := by
  unfold Blk at h ⊢
  simp [World.setCell, Array.getElem?_modify, h]

theorem Blk.setCell_other {w : World} {b : Nat} {cs : List Value} {t : TypeId} (h : Blk w b cs t) {a : Addr} (hne : b ≠ a.block) (v : Value) : Blk (w.setCell a v) b cs t :=
  h.of_block (Below.heap_setCell w a v b hne)

/-- The world has grown, and nothing that was there has turned but one block. -/
theorem grownBy_refl (w : World) (row : Option Nat) : w.grownBy w row := ⟨rfl, rfl, rfl, Nat.le_refl _, fun _ _ _ => rfl⟩
theorem grownBy_trans {a b c : World} {row : Option Nat} (h : a.grownBy b row) (k : b.grownBy c row) : a.grownBy c row :=
  ⟨k.os.trans h.os, k.tape.trans h.tape, k.output.trans h.output, Nat.le_trans h.size k.size, fun i hi hne => (k.block i (Nat.lt_of_lt_of_le hi h.size) hne).trans (h.block i hi hne)⟩
theorem grownBy_below {a b : World} (h : Below a.heap.size a b) (row : Option Nat) : a.grownBy b row := ⟨h.os, h.tape, h.output, h.size, fun k hk _ => h.block k hk⟩
theorem below_grownBy {a b : World} (h : a.grownBy b none) : Below a.heap.size a b := ⟨h.os, h.tape, h.output, h.size, fun k hk => h.block k hk (by simp)⟩
theorem grownBy_alloc (w : World) (o : Obj) (row : Option Nat) : w.grownBy (w.alloc o) row := grownBy_below ((Below.refl _ _).alloc (Nat.le_refl _) _) row
theorem grownBy_drew (w : World) (row : Option Nat) : w.grownBy w.drew row := ⟨rfl, rfl, rfl, Nat.le_refl _, fun _ _ _ => rfl⟩
theorem grownBy_setCell (w : World) (b j : Nat) (v : Value) : w.grownBy (w.setCell ⟨b, j, none⟩ v) (some b) :=
  ⟨rfl, rfl, rfl, by simp [World.setCell], fun k _ hne => Below.heap_setCell w ⟨b, j, none⟩ v k (fun e => hne (by rw [e]))⟩
/-- What has grown from a world of which only blocks from B on may be written. -/
theorem below_of_grownBy {B : Nat} {a b : World} {row : Option Nat} (h : a.grownBy b row) (hB : B ≤ a.heap.size) (hr : ∀ k, row = some k → B ≤ k) : Below B a b :=
  (Below.refl B a).grown h hB hr
theorem below_drewN {B : Nat} {a w : World} (h : Below B a w) (n : Nat) : Below B a (w.drewN n) := ⟨h.os, h.tape, h.output, h.size, h.block⟩
theorem Blk.drewN {w : World} {b : Nat} {cs : List Value} {t : TypeId} (h : Blk w b cs t) (n : Nat) : Blk (w.drewN n) b cs t := h
theorem grownBy_drewN (w : World) (n : Nat) (row : Option Nat) : w.grownBy (w.drewN n) row := ⟨rfl, rfl, rfl, Nat.le_refl _, fun _ _ _ => rfl⟩
/-- '[]byte(s)'. -/
theorem conv_bytes {P : Program} (w : World) (src dst e : TypeId) (s : ByteArray) {u : TypeDesc} (hs : P.underlying src = some u) (hd : P.underlying dst = some (.slice e)) (he : P.underlying e = some (.int .u8)) :
    ∃ (cap : Nat) (w2 : World), (convert src dst (.string s)).run P w = .ok (.slice (some ⟨w.heap.size, 0, none⟩) s.size cap) w2 ∧
      (∀ j, j < s.size → w2.cell? ⟨w.heap.size, j, none⟩ = some (.int .u8 ((s.data.toList.getD j 0).toNat : Int))) ∧ Below w.heap.size w w2 ∧ w2.heap.size = w.heap.size + 1 :=
  ⟨_, _, Lib.run_convert_string_bytes w src dst e s hs hd he, fun j hj => Lib.bytesWorld_cell w e s j hj,
    ⟨by simp [Lib.bytesWorld, World.freeze, World.alloc, World.drew, -World.alloc_eq, -World.drew_eq], by simp [Lib.bytesWorld, World.freeze, World.alloc, World.drew, -World.alloc_eq, -World.drew_eq], by simp [Lib.bytesWorld, World.freeze, World.alloc, World.drew, -World.alloc_eq, -World.drew_eq], by rw [Lib.bytesWorld_size]; omega, fun k hk => Lib.bytesWorld_at_old w e s k hk⟩, Lib.bytesWorld_size w e s⟩

theorem ne_some {a b : Nat} (h : a ≠ b) : some a ≠ some b := fun e => h (Option.some.inj e)
/-- Two calls, one behind the other. -/
theorem below_then {a b c : World} (h : Below a.heap.size a b) (k : Below b.heap.size b c) : Below a.heap.size a c := h.trans (k.mono h.size)
/-- A call that has laid a block of its own, and written to that alone. -/
theorem below_local {w w' : World} {o : Obj} (h : (w.alloc o).grownBy w' (some w.heap.size)) : Below w.heap.size w w' :=
  ((Below.refl _ w).alloc (Nat.le_refl _) o).trans (below_of_grownBy h (by simp) (fun k e => by cases e; exact Nat.le_refl _))
/-- Blocks from B on may be written, nothing else. -/
theorem below_next {B : Nat} {w a b : World} {row : Option Nat} (h : Below B w a) (hB : B ≤ w.heap.size) (g : a.grownBy b row) (hr : ∀ k, row = some k → B ≤ k) : Below B w b :=
  h.trans (below_of_grownBy g (Nat.le_trans hB h.size) hr)
end Go.Proofs.YtnhnldmldnhaoaaGreatDoor
