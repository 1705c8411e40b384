/- The reader comes to an end, within the text. The reader of patterns: what a call of its takes, what it hands back. -/
import Derived.Test.YtnhnldmldnhaoaaGreatDoorDSynPure
import Derived.Test.YtnhnldmldnhaoaaGreatDoorDSynRunes
namespace Go.Proofs.YtnhnldmldnhaoaaGreatDoor
open Go Go.RowKit Go.Proofs Go.Shelf

/-- What a part of the reader tells: where it stands then. -/
def Fit (s : ByteArray) (p : Nat) {α : Type} : PR α → Prop
  | .out => False
  | .wrong e f t => Within s e f t
  | .ok _ st => p ≤ st.p ∧ st.p ≤ s.size ∧ Bd s st.p
/-- The same, of what takes something. -/
def FitS (s : ByteArray) (p : Nat) {α : Type} : PR α → Prop
  | .out => False
  | .wrong e f t => Within s e f t
  | .ok _ st => p < st.p ∧ st.p ≤ s.size ∧ Bd s st.p
theorem FitS.le {s : ByteArray} {p : Nat} {α : Type} {r : PR α} (h : FitS s p r) : Fit s p r := by
  cases r with
  | out => exact h
  | wrong e f t => exact h
  | ok a st => exact ⟨Nat.le_of_lt h.1, h.2⟩
theorem Fit.lower {s : ByteArray} {p p' : Nat} {α : Type} {r : PR α} (h : Fit s p r) (hp : p' ≤ p) : Fit s p' r := by
  cases r with
  | out => exact h
  | wrong e f t => exact h
  | ok a st => exact ⟨Nat.le_trans hp h.1, h.2⟩
theorem escapeP_fit (s : ByteArray) (st : St) (hb : Bd s st.p) (hs : stands s st.p [92] = true) : FitS s st.p (escapeP s st) := by
  have h := escP_fit s st.p (onB st.f 32) hb hs
  unfold escapeP
  cases hx : escP s st.p (onB st.f 32) with
  | wrong e f t => rw [hx] at h; exact h
  | set g q =>
    rw [hx] at h
    obtain ⟨Q, rfl, h⟩ := h
    exact h
  | lit k r a q =>
    rw [hx] at h
    obtain ⟨_, Q, rfl, h⟩ := h
    simp only [Int.toNat_natCast]
    split
    · exact h
    split
    · exact h
    · have hq := quoteP_fit s Q h.2.1 h.2.2
      exact ⟨by have := h.1; have := hq.1; show st.p < (quoteP s Q).2; omega, hq.2⟩

/-- The whole reader. -/
structure SynFit (s : ByteArray) (n : Nat) : Prop where
  parts : ∀ st : St, st.p ≤ s.size → Bd s st.p → 8 * (s.size - st.p) + 4 ≤ n → Fit s st.p (partsP s n st)
  alt : ∀ (st : St) (l : List T), st.p ≤ s.size → Bd s st.p → 8 * (s.size - st.p) + 1 ≤ n → Fit s st.p (altP s n st l)
  part : ∀ (st : St) (l : List T), st.p ≤ s.size → Bd s st.p → 8 * (s.size - st.p) + 3 ≤ n → Fit s st.p (partP s n st l)
  atoms : ∀ st : St, st.p < s.size → Bd s st.p → 8 * (s.size - st.p) + 2 ≤ n → FitS s st.p (atomsP s n st)
  open_ : ∀ st : St, st.p < s.size → Bd s st.p → nextC s st.p = 40 → 8 * (s.size - st.p) + 1 ≤ n → FitS s st.p (openP s n st)
  group : ∀ (st : St) (nm : ByteArray), st.p ≤ s.size → Bd s st.p → 8 * (s.size - st.p) + 6 ≤ n → Fit s st.p (groupP s n st nm)
  close : ∀ st : St, st.p ≤ s.size → Bd s st.p → 8 * (s.size - st.p) + 5 ≤ n → Fit s st.p (closeP s n st)

theorem stands_of_nextC {s : ByteArray} {p : Nat} {c : UInt8} (h : nextC s p = (c.toNat : Int)) (h128 : c.toNat < 128) : stands s p [c] = true := by
  obtain ⟨hl, h2, h3, h4⟩ := nextC_small s p (by omega) (by omega)
  refine (stands_one s p c).2 ⟨hl, ?_⟩
  exact UInt8.toNat_inj.1 (by omega)
theorem syn_fit (s : ByteArray) : ∀ n, SynFit s n
  | 0 => ⟨fun _ _ _ h => by omega, fun _ _ _ _ h => by omega, fun _ _ _ _ h => by omega, fun _ _ _ h => by omega, fun _ _ _ _ h => by omega, fun _ _ _ _ h => by omega, fun _ _ _ h => by omega⟩
  | n + 1 => by
    have ih := syn_fit s n
    refine ⟨?_, ?_, ?_, ?_, ?_, ?_, ?_⟩
    · intro st hp hb hn
      unfold partsP
      have h := ih.part st [] hp hb (by omega)
      cases hx : partP s n st [] with
      | out => rw [hx] at h; exact h
      | wrong e f t => rw [hx] at h; exact h
      | ok t st' =>
        rw [hx] at h
        exact (ih.alt st' [t] h.2.1 h.2.2 (by have := h.1; omega)).lower h.1
    · intro st l hp hb hn
      unfold altP
      split
      · rename_i hs
        have h1 := hb.at (Nat.le_refl _) hs 0 124 rfl (by decide)
        have h := ih.part { st with p := st.p + 1 } [] (by have := h1.2; show st.p + 1 ≤ s.size; omega) h1.1 (by have := h1.2; show 8 * (s.size - (st.p + 1)) + 3 ≤ n; omega)
        cases hx : partP s n { st with p := st.p + 1 } [] with
        | out => rw [hx] at h; exact h
        | wrong e f t => rw [hx] at h; exact h
        | ok t st' =>
          rw [hx] at h
          have h3 : st.p + 1 ≤ st'.p := h.1
          exact (ih.alt st' (l ++ [t]) h.2.1 h.2.2 (by omega)).lower (by omega)
      · match l with
        | [] => exact ⟨Nat.le_refl _, hp, hb⟩
        | [t] => exact ⟨Nat.le_refl _, hp, hb⟩
        | a :: b :: r => exact ⟨Nat.le_refl _, hp, hb⟩
    · intro st l hp hb hn
      unfold partP
      split
      · exact ⟨Nat.le_refl _, hp, hb⟩
      rename_i hc
      have hlt : st.p < s.size := by
        by_cases hlt : st.p < s.size
        · exact hlt
        · exact absurd (.inl (nextC_end s st.p (by omega)).1) hc
      cases hs : signP s st.p with
      | mk o q =>
        cases o with
        | none =>
          simp only
          have h := ih.atoms st hlt hb (by omega)
          cases hx : atomsP s n st with
          | out => rw [hx] at h; exact h
          | wrong e f t => rw [hx] at h; exact h
          | ok ts st' =>
            rw [hx] at h
            have h3 : st.p < st'.p := h.1
            exact (ih.part st' (l ++ ts) h.2.1 h.2.2 (by omega)).lower (by omega)
        | some x =>
          obtain ⟨op, mn, mx⟩ := x
          have h1 := signP_some hp hb hs
          simp only
          cases hl : l.getLast? with
          | none => exact within_mk 82 (by decide) (Nat.le_of_lt h1.1) h1.2.1
          | some k =>
            simp only
            have h2 := repeatP_fit s st.p q st.f op mn mx (Nat.le_of_lt h1.1) h1.2.1 h1.2.2
            cases hr : repeatP s st.p q st.f op mn mx with
            | error x => obtain ⟨e, f, t⟩ := x; rw [hr] at h2; exact h2
            | ok x =>
              obtain ⟨lz, q'⟩ := x
              rw [hr] at h2
              have h3 : q ≤ q' := h2.1
              have h4 := h1.1
              exact (ih.part { st with p := q' } (l.dropLast ++ [repT op k mn mx lz]) h2.2.1 h2.2.2 (by show 8 * (s.size - q') + 3 ≤ n; omega)).lower (by show st.p ≤ q'; omega)
    · intro st hp hb hn
      have next : FitS s st.p (PR.ok ([] : List T) { st with p := nextW s st.p }) := ⟨nextW_gt s st.p hp, nextW_le s st.p (by omega), hb.next⟩
      unfold atomsP
      split
      · rename_i hc; exact ih.open_ st hp hb hc (by omega)
      split
      · rename_i hc; exact escapeP_fit s st hb (stands_of_nextC (c := 92) hc (by decide))
      split
      · have h := clsQ_fit s st.p (onB st.f 32) (if onB st.f 1 then some foldF else none) (by omega) hb
        cases hx : clsQ s st.p (onB st.f 32) (if onB st.f 1 then some foldF else none) with
        | wrong e f t => rw [hx] at h; exact h
        | ok g q => rw [hx] at h; exact h
      split
      · exact next
      split
      · exact next
      split
      · exact next
      · exact next
    · intro st hp hb hc hn
      have hy := small_byte hc (by decide) (by decide)
      unfold openP
      split
      · split
        · have h := nameP_fit s st.p (by omega) hb
          cases hx : nameP s st.p with
          | error q => rw [hx] at h; exact within_mk 64 (by decide) h.1 h.2
          | ok x =>
            obtain ⟨nm, q⟩ := x
            rw [hx] at h
            simp only
            split
            · exact within_mk 64 (by decide) (Nat.le_of_lt h.1) h.2.1
            · have h1 := h.1
              have h2 := ih.group { st with p := q } nm h.2.1 h.2.2 (by show 8 * (s.size - q) + 6 ≤ n; omega)
              cases hg : groupP s n { st with p := q } nm with
              | out => rw [hg] at h2; exact h2
              | wrong e f t => rw [hg] at h2; exact h2
              | ok t st' => rw [hg] at h2; exact ⟨Nat.lt_of_lt_of_le h1 h2.1, h2.2⟩
        · have h := flagsP_fit s st.p st.f (by omega) hb
          cases hx : flagsP s st.p st.f with
          | error q => rw [hx] at h; exact within_mk 65 (by decide) h.1 h.2
          | ok x =>
            obtain ⟨g, grp, q⟩ := x
            rw [hx] at h
            simp only
            split
            · have h1 := h.1
              have h2 := ih.close { st with p := q, f := g } h.2.1 h.2.2 (by show 8 * (s.size - q) + 5 ≤ n; omega)
              cases hg : closeP s n { st with p := q, f := g } with
              | out => rw [hg] at h2; exact h2
              | wrong e f t => rw [hg] at h2; exact h2
              | ok t st' => rw [hg] at h2; exact ⟨Nat.lt_of_lt_of_le h1 h2.1, h2.2⟩
            · exact h
      · have h2 := ih.group { st with p := st.p + 1 } ⟨#[]⟩ (by show st.p + 1 ≤ s.size; omega) (hy.2.2 hb) (by show 8 * (s.size - (st.p + 1)) + 6 ≤ n; omega)
        cases hg : groupP s n { st with p := st.p + 1 } ⟨#[]⟩ with
        | out => rw [hg] at h2; exact h2
        | wrong e f t => rw [hg] at h2; exact h2
        | ok t st' =>
          rw [hg] at h2
          have h3 : st.p + 1 ≤ st'.p := h2.1
          exact ⟨by omega, h2.2⟩
    · intro st nm hp hb hn
      unfold groupP
      have h := ih.close { st with ns := st.ns ++ [nm] } hp hb (by show 8 * (s.size - st.p) + 5 ≤ n; omega)
      cases hx : closeP s n { st with ns := st.ns ++ [nm] } with
      | out => rw [hx] at h; exact h
      | wrong e f t => rw [hx] at h; exact h
      | ok t st' => rw [hx] at h; exact h
    · intro st hp hb hn
      unfold closeP
      have h := ih.parts st hp hb (by omega)
      cases hx : partsP s n st with
      | out => rw [hx] at h; exact h
      | wrong e f t => rw [hx] at h; exact h
      | ok t st' =>
        rw [hx] at h
        simp only
        split
        · rename_i hs
          have h1 := Bd.at h.2.2 (Nat.le_refl _) hs 0 41 rfl (by decide)
          exact ⟨by have := h.1; show st.p ≤ st'.p + 1; omega, by show st'.p + 1 ≤ s.size; omega, h1.1⟩
        · exact ⟨by decide, by decide, by omega, Int.le_refl _⟩
end Go.Proofs.YtnhnldmldnhaoaaGreatDoor

namespace Go.Proofs.YtnhnldmldnhaoaaGreatDoor
open Go Go.RowKit Go.Proofs Go.Shelf

/-- A variable of the library's holds some number. -/
def Mx (w : World) : Prop := ∃ m, w.cell? ⟨2, 0, none⟩ = some (.int .i64 m)
theorem Mx.lt {w : World} (h : Mx w) : 2 < w.heap.size := by obtain ⟨m, h⟩ := h; exact cell_lt h
theorem Mx.of_block {w w' : World} (h : Mx w) (hb : w'.heap[2]? = w.heap[2]?) : Mx w' := by obtain ⟨m, h⟩ := h; exact ⟨m, (World.cell?_of_block (w := w) hb).trans h⟩
theorem Mx.below {w w' : World} (h : Mx w) (hB : Below w.heap.size w w') : Mx w' := h.of_block (hB.block _ h.lt)
/-- The library's tables and that variable. -/
def TabsM (w : World) : Prop := Tabs w ∧ Mx w
theorem TabsM.below {w w' : World} (h : TabsM w) (hB : Below w.heap.size w w') : TabsM w' := ⟨h.1.below hB, h.2.below hB⟩
/-- The library's tables lie below the reader's blocks. -/
structure Env (lo : Nat) (w : World) : Prop where
  t : Tabs w
  a : 0 < lo
  c : 1 < lo
  le : lo ≤ w.heap.size
  m : Mx w
  d : 2 < lo
/-- The reader at a state of its. -/
structure SynIn (w : World) (b lo : Nat) (s : ByteArray) (st : St) (nv : Value) : Prop where
  r : SyR w b s st.f st.p nv
  o : w.ownsRow lo 9 1 nv st.ns.length (st.ns.map Value.string)
  n : nv.ownBlock ≠ some b
  l : lo ≤ b
  e : Env lo w
  p : st.p ≤ s.size
  d : Bd s st.p
  m : st.ns.length ≤ st.p
/-- The blocks that a call of the reader's may write. -/
def Mine (b : Nat) (nv : Value) (k : Nat) : Prop := k = b ∨ nv.ownBlock = some k
theorem SynIn.lt {w : World} {b lo : Nat} {s : ByteArray} {st : St} {nv : Value} (h : SynIn w b lo s st nv) : ∀ k, Mine b nv k → lo ≤ k ∧ k < w.heap.size := by
  rintro k (rfl | hk)
  · exact ⟨h.l, h.r.lt⟩
  · exact h.o.lt k hk
theorem Env.grown {lo : Nat} {w w' : World} {F : Nat → Prop} (h : Env lo w) (hg : GrownF F w w') (hF : ∀ k, F k → lo ≤ k) : Env lo w' :=
  ⟨h.t.of_blocks (hg.block _ h.t.lt.1 fun hf => by have := hF _ hf; have := h.a; omega) (hg.block _ h.t.lt.2 fun hf => by have := hF _ hf; have := h.c; omega), h.a, h.c, Nat.le_trans h.le hg.size, h.m.of_block (hg.block _ h.m.lt fun hf => by have := hF _ hf; have := h.d; omega), h.d⟩
/-- What a call leaves of the reader. -/
structure Left (w w' : World) (b lo : Nat) (s : ByteArray) (nv : Value) (st : St) (nv' : Value) : Prop where
  i : SynIn w' b lo s st nv'
  g : GrownF (Mine b nv) w w'
  v : ∀ k, nv'.ownBlock = some k → nv.ownBlock = some k ∨ w.heap.size ≤ k
theorem Left.mine {w w' : World} {b lo : Nat} {s : ByteArray} {nv nv' : Value} {st : St} (h : Left w w' b lo s nv st nv') : ∀ k, k < w.heap.size → Mine b nv' k → Mine b nv k := by
  rintro k hk (rfl | h2)
  · exact .inl rfl
  · rcases h.v k h2 with h3 | h3
    · exact .inr h3
    · omega
theorem Left.trans {w w' w'' : World} {b lo : Nat} {s : ByteArray} {nv nv' nv'' : Value} {st st' : St} (h : Left w w' b lo s nv st nv') (h' : Left w' w'' b lo s nv' st' nv'') : Left w w'' b lo s nv st' nv'' :=
  ⟨h'.i, h.g.trans h'.g h.mine, fun k hk => by
    rcases h'.v k hk with h3 | h3
    · exact h.v k h3
    · exact .inr (Nat.le_trans h.g.size h3)⟩
/-- A step that writes nothing old. -/
theorem SynIn.below {w w' : World} {b lo : Nat} {s : ByteArray} {st : St} {nv : Value} (h : SynIn w b lo s st nv) (hB : Below w.heap.size w w') : Left w w' b lo s nv st nv :=
  ⟨⟨Blk.below h.r hB h.r.lt, ownsRow_kept h.o fun g hg => hB.block g (h.o.lt g hg).2, h.n, h.l, h.e.grown (GrownF.of_below (F := fun _ => False) hB) (fun _ hf => hf.elim), h.p, h.d, h.m⟩, GrownF.of_below hB, fun _ hk => .inl hk⟩
/-- A step that writes the reader's own block. -/
theorem SynIn.grown {w w' : World} {b lo : Nat} {s : ByteArray} {st st' : St} {nv : Value} (h : SynIn w b lo s st nv) (hr : SyR w' b s st'.f st'.p nv) (hG : w.grownBy w' (some b)) (hns : st'.ns = st.ns) (hp : st'.p ≤ s.size) (hd : Bd s st'.p) (hm : st'.ns.length ≤ st'.p) : Left w w' b lo s nv st' nv := by
  have hg : GrownF (Mine b nv) w w' := GrownF.of_grown hG (fun k e _ => by cases e; exact .inl rfl)
  refine ⟨⟨hr, ?_, h.n, h.l, h.e.grown hg (fun k hk => (h.lt k hk).1), hp, hd, hm⟩, hg, fun _ hk => .inl hk⟩
  rw [hns]
  exact ownsRow_kept h.o fun g hg => hG.block g (h.o.lt g hg).2 (fun e => h.n (by rw [hg]; exact e))
/-- Fresh blocks that are not the names'. -/
abbrev FreshN (w w' : World) (nv : Value) (k : Nat) : Prop := Fresh w w' k ∧ nv.ownBlock ≠ some k
/-- What a call that reads a tree hands back. -/
def TreeOut (w : World) (b lo : Nat) (s : ByteArray) (nv : Value) (r : PR T) (e : Ending) (w' : World) : Prop := match r with
  | .out => False
  | .wrong x a d => e = synE x a d ∧ GrownF (Mine b nv) w w'
  | .ok t st => ∃ cs nv', e = .returned (.agg cs.toArray) ∧ TreeF w' (FreshN w w' nv') t cs ∧ Left w w' b lo s nv st nv'
/-- What a call that reads trees hands back. -/
def ListsOut (w : World) (b lo : Nat) (s : ByteArray) (nv : Value) (r : PR (List T)) (e : Ending) (w' : World) : Prop := match r with
  | .out => False
  | .wrong x a d => e = synE x a d ∧ GrownF (Mine b nv) w w'
  | .ok ts st => ∃ v xs nv', e = .returned v ∧ RowF w' w.heap.size (fun k => nv'.ownBlock = some k) ts v xs ∧ Left w w' b lo s nv st nv'
theorem ListOut.lists {w w' : World} {b lo : Nat} {s : ByteArray} {nv nv' : Value} {st : St} {ts : List T} {v : Value} {e : Ending} (he : e = .returned v) (h : ListOut w w' ts v) (hl : Left w w' b lo s nv st nv') (hn : nv' = nv) (hi : ∀ k, nv.ownBlock = some k → k < w.heap.size) : ListsOut w b lo s nv (.ok ts st) e w' := by
  subst hn
  obtain ⟨xs, h1, h2⟩ := h
  exact ⟨v, xs, nv', he, ⟨h1, h2.turned (fun _ _ => rfl) (fun k hk => ⟨⟨hk.1.1, hk.1.2, fun e => by have := hi k e; have := hk.1.1; omega⟩, hk.2⟩), fun k hk e => by have := hi k e; have := (h1.lt k hk).1; omega⟩, hl⟩
/-- New blocks may be written. -/
theorem Left.new10 {w W : World} {b lo : Nat} {s : ByteArray} {nv nv' : Value} {st : St} (h : Left w W b lo s nv st nv') {k : Nat} (hk : w.heap.size ≤ k) (hb : b < w.heap.size) (hl : lo ≤ w.heap.size) (hn : nv'.ownBlock ≠ some k) (v0 v1 v2 v3 v4 v5 v6 v7 v8 v9 : Value) : Left w (World.set10 W k v0 v1 v2 v3 v4 v5 v6 v7 v8 v9) b lo s nv st nv' := by
  have hg := grownBy_set10 W k v0 v1 v2 v3 v4 v5 v6 v7 v8 v9
  have g : GrownF (fun x => x = k) W (World.set10 W k v0 v1 v2 v3 v4 v5 v6 v7 v8 v9) := GrownF.of_grown hg (fun x e _ => by cases e; rfl)
  refine ⟨⟨Blk.set10_other h.i.r (by omega) _ _ _ _ _ _ _ _ _ _, ownsRow_kept h.i.o fun x hx => hg.block x (h.i.o.lt x hx).2 (fun e => hn (by rw [hx]; exact e)), h.i.n, h.i.l, h.i.e.grown g (fun x e => by subst e; omega), h.i.p, h.i.d, h.i.m⟩, h.g.trans g (fun x hx e => by subst e; omega), h.v⟩
theorem Left.newrow {w W W' : World} {b lo : Nat} {s : ByteArray} {nv nv' : Value} {st : St} (h : Left w W b lo s nv st nv') {row : Option Nat} (hg : W.grownBy W' row) (hb : b < w.heap.size) (hl : lo ≤ w.heap.size) (hr : ∀ k, row = some k → w.heap.size ≤ k ∧ nv'.ownBlock ≠ some k) : Left w W' b lo s nv st nv' := by
  have g : GrownF (fun x => row = some x) W W' := GrownF.of_grown hg (fun x e _ => e)
  refine ⟨⟨h.i.r.grown hg (fun e => by have := (hr b e.symm).1; omega), ownsRow_kept h.i.o fun x hx => hg.block x (h.i.o.lt x hx).2 (fun e => (hr x e.symm).2 hx), h.i.n, h.i.l, h.i.e.grown g (fun x e => by have := (hr x e).1; omega), h.i.p, h.i.d, h.i.m⟩, h.g.trans g (fun x hx e => by have := (hr x e).1; omega), h.v⟩
theorem Left.below {w W W' : World} {b lo : Nat} {s : ByteArray} {nv nv' : Value} {st : St} (h : Left w W b lo s nv st nv') (hB : Below W.heap.size W W') : Left w W' b lo s nv st nv' := h.trans (h.i.below hB)
theorem Left.grown {w W W' : World} {b lo : Nat} {s : ByteArray} {nv nv' : Value} {st st' : St} (h : Left w W b lo s nv st nv') (hr : SyR W' b s st'.f st'.p nv') (hG : W.grownBy W' (some b)) (hns : st'.ns = st.ns) (hp : st'.p ≤ s.size) (hd : Bd s st'.p) (hm : st'.ns.length ≤ st'.p) : Left w W' b lo s nv st' nv' := h.trans (h.i.grown hr hG hns hp hd hm)
theorem Left.start {w : World} {b lo : Nat} {s : ByteArray} {nv : Value} {st : St} (h : SynIn w b lo s st nv) : Left w w b lo s nv st nv := ⟨h, GrownF.refl _ _, fun _ hk => .inl hk⟩
/-- A tree that was read stays, while the reader reads on. -/
theorem tree_on {w W W' : World} {nv nv' : Value} {F : Nat → Prop} {t : T} {cs : List Value} (h : TreeF W (FreshN w W nv) t cs) (hg : GrownF F W W') (hF : ∀ k, FreshN w W nv k → ¬ F k ∧ nv'.ownBlock ≠ some k) : TreeF W' (FreshN w W' nv') t cs :=
  h.turned (fun k hk => hg.block k hk.1.2 (hF k hk).1) (fun k hk => ⟨⟨hk.1.1, Nat.lt_of_lt_of_le hk.1.2 hg.size⟩, (hF k hk).2⟩)
theorem tree_down {w w0 W : World} {nv : Value} {t : T} {cs : List Value} (h : TreeF W (FreshN w0 W nv) t cs) (hz : w.heap.size ≤ w0.heap.size) : TreeF W (FreshN w W nv) t cs :=
  h.turned (fun _ _ => rfl) (fun _ hk => ⟨⟨Nat.le_trans hz hk.1.1, hk.1.2⟩, hk.2⟩)
end Go.Proofs.YtnhnldmldnhaoaaGreatDoor
