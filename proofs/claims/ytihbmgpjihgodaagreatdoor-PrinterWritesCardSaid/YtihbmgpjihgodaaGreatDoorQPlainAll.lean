/- trees.plain as one contract: has a tree just the fields of its Op, and may they be? A set of strings kept in a map[string]bool of the call's own: made, asked, told. -/
import Derived.Test.YtihbmgpjihgodaaGreatDoorQAtIn
import Derived.Test.YtihbmgpjihgodaaGreatDoorPlainYes
import Derived.Test.YtihbmgpjihgodaaGreatDoorBase
import Derived.Test.YtihbmgpjihgodaaGreatDoorSetsPure
import Derived.Test.YtihbmgpjihgodaaGreatDoorProg
import Derived.Maps.OwnIn
import Derived.Maps.Views
import Derived.RangeFuncWrites
import Derived.StringKeys
namespace Go.Proofs.YtihbmgpjihgodaaGreatDoor
open Go Go.RowKit Go.Proofs

def plainT (p : T) : Bool :=
  bareOk p.op p.rune p.set.length p.pl p.cap p.name p.mn p.mx p.lz && kindOk p.op p.kids.length p.rune p.set.length (setRight p.set) p.pl p.name p.mn p.mx

/-- The contract of sets.Right, at some lists. -/
def SetsRight (P : List (Int × Int) → Prop) : Prop :=
  ∀ rs, P rs → ∀ (B : Nat) (W : World) (sa : Option Addr) (sn sc : Nat), RangesV W B rs sa sn sc → B ≤ W.heap.size → 0 < sn →
    Calls Tryz.prog 36 #[.slice sa sn sc] W fun e W' => e = .returned (.bool (setRight rs)) ∧ Below W.heap.size W W'

theorem plain_any {P : List (Int × Int) → Prop} (hS : SetsRight P) (t : T) (cs : List Value) (B : Nat) (w : World) (h : TreeV w B t cs) (hB : B ≤ w.heap.size) (hP : t.op = 4 → P t.set) :
    Calls Tryz.prog 15 #[.agg cs.toArray] w fun e w' => e = .returned (.bool (plainT t)) ∧ Below w.heap.size w w' := by
  obtain ⟨op, kids, rune, set, pl, cap, name, mn, mx, lz⟩ := t
  obtain ⟨ka, kn, kc, sa, sn, sc, rfl, ⟨rfl, h2, h3⟩, hR⟩ := h.open
  have hsn : sn = set.length := hR.1
  have hset : op = 4 → kids.length = 0 → 0 < sn → ∀ W, Below w.heap.size w W → Calls Tryz.prog 36 #[.slice sa sn sc] W fun e W' => e = .returned (.bool (setRight set)) ∧ Below W.heap.size W W' :=
    fun h4 _ h0 W hW => hS set (hP h4) B W sa sn sc (hR.below (hW.mono hB)) (Nat.le_trans hB hW.size) h0
  unfold plainT
  simp only [T.op, T.rune, T.set, T.pl, T.cap, T.name, T.mn, T.mx, T.lz, T.kids]
  rw [← hsn]
  cases hb : bareOk op rune sn pl cap name mn mx lz with
  | false => exact (plain_no op ka kids.length kc rune sa sn sc pl cap name mn mx lz w hb).mono fun e w' h => by simpa using h
  | true =>
    by_cases h5 : op = 5
    · subst h5
      exact (plain_at ka kids.length kc rune sa sn sc pl cap name mn mx lz w (setRight set) hb hset).mono fun e w' h => by simpa using h
    · exact (plain_yes op ka kids.length kc rune sa sn sc pl cap name mn mx lz w (setRight set) h5 hb hset).mono fun e w' h => by simpa using h
end Go.Proofs.YtihbmgpjihgodaaGreatDoor

namespace Go.Proofs.YtihbmgpjihgodaaGreatDoor
open Go Go.RowKit Go.Proofs Go.Maps

def SeenAt (W : World) (b n : Nat) (S : List (List UInt8)) : Prop :=
  ∃ D : DataW Nat, W.ownsMap Tryz.prog 9 (plainElem Tryz.prog 4) b n D ∧ IsMap D ∧ ∀ s : List UInt8, D.atKey (.string s) (.lit (.bool false)) = .lit (.bool (decide (s ∈ S)))

theorem seenLaw : Keyed Tryz.prog 9 := string_keyed Tryz.underlying9
theorem seenZero (w : World) : (zeroValue 4).run Tryz.prog w = .ok (.bool false) w := by kernel_rfl

theorem plainElem_bool_inv {H : Type} {P : Program} {e : TypeId} (he : P.underlying e = some .bool) {v : Value} {z : DataW H × List MemPlace} (h : plainElem P e v = some z) : ∃ x, v = .bool x ∧ z = (.lit (.bool x), []) := by
  unfold plainElem at h
  rw [he] at h
  cases v <;> simp at h
  exact ⟨_, rfl, h.symm⟩

theorem SeenAt.made (w : World) : SeenAt (w.alloc (.map #[] 0)) w.heap.size 0 [] :=
  ⟨.map [], World.ownsMap_made w _ _ _, isMap_empty, fun s => by simp [atKey_of_not_has (D := (.map [] : DataW Nat)) (k := .string s) rfl]⟩
theorem SeenAt.kept {W W' : World} {b n : Nat} {S : List (List UInt8)} {row : Option Nat} (h : SeenAt W b n S) (hg : W.grownBy W' row) (hne : some b ≠ row) : SeenAt W' b n S := by
  obtain ⟨D, h1, h2⟩ := h
  exact ⟨D, h1.kept hg hne, h2⟩
theorem SeenAt.alloc {W : World} {b n : Nat} {S : List (List UInt8)} (h : SeenAt W b n S) (o : Obj) : SeenAt (W.alloc o) b n S := h.kept (World.grownBy_alloc W o none) (by simp)
theorem SeenAt.lt {W : World} {b n : Nat} {S : List (List UInt8)} (h : SeenAt W b n S) : b < W.heap.size := by
  obtain ⟨D, h1, _⟩ := h
  exact h1.lt
theorem SeenAt.block {W : World} {b n : Nat} {S : List (List UInt8)} (h : SeenAt W b n S) : ∃ o, W.heap[b]? = some o ∧ o.isCells = false := by
  obtain ⟨D, ⟨es, ck, hh, _⟩, _⟩ := h
  exact ⟨_, hh, rfl⟩
theorem SeenAt.look {W : World} {b n : Nat} {S : List (List UInt8)} (h : SeenAt W b n S) (s : ByteArray) (hs : s.size ≤ maxLen) :
    (Instr.lookup 36 (.map (some b)) (.string s) false).run Tryz.prog W = .ok (.bool (decide (s.data.toList ∈ S))) W := by
  obtain ⟨D, h1, _, h3⟩ := h
  obtain ⟨v, ps, hrun, hv⟩ := h1.lookup seenLaw Tryz.underlying36 (seenZero W) (plainElem_bool Tryz.underlying4 false) (WideMaps.keyOf_string_mk Tryz.underlying9 hs)
  obtain ⟨x, rfl, hz⟩ := plainElem_bool_inv Tryz.underlying4 hv
  rw [h3] at hz
  simp only [Prod.mk.injEq, DataW.lit.injEq, Lit.bool.injEq] at hz
  rw [hrun, hz.1]

theorem SeenAt.put {W' : World} {b n : Nat} {S : List (List UInt8)} {D : DataW Nat} {s : List UInt8} (hm : IsMap D) (h3 : ∀ s : List UInt8, D.atKey (.string s) (.lit (.bool false)) = .lit (.bool (decide (s ∈ S))))
    (h : W'.ownsMap Tryz.prog 9 (plainElem Tryz.prog 4) b n (D.put (.string s) (.lit (.bool true)))) : SeenAt W' b n (s :: S) := by
  refine ⟨_, h, hm.put _ _, fun s' => ?_⟩
  by_cases e : s' = s
  · subst e
    rw [atKey_put_same hm (by unfold WideAt.IsKeyLit; trivial)]; simp
  · rw [atKey_put_other (fun h => e (by cases h; rfl)), h3]; simp [e]

/-- 'seen[s] = true' at the operation. -/
theorem wpListIn_seen_put {F : Fence} {nF : Nat} (w : World) {ops : Array Oper} {rest : List Oper} {o : Oper} {a : Act} {Q : Exit → Act → World → Prop}
    (hg : o.guard = none) (m x v : Operand) (hop : o.op = Op.mapUpdate 36 m x v) (b n : Nat) (S : List (List UInt8))
    (hm : a.eval m = .map (some b)) (hown : SeenAt w b n S) (hn : n < maxLen) (s : ByteArray) (hs : s.size ≤ maxLen) (hx : a.eval x = .string s) (hv : a.eval v = .bool true)
    (hK : ∀ w', SeenAt w' b (n + 1) (s.data.toList :: S) → w.grownBy w' (some b) → wpListIn F nF Tryz.prog ops Q rest (a.put o.dst undef) w') :
    wpListIn F nF Tryz.prog ops Q (o :: rest) a w := by
  obtain ⟨D, h1, h2, h3⟩ := hown
  exact wpListIn_mapUpdate_own w hg m x v 36 hop 9 4 seenLaw Tryz.underlying36 _ b n D hm h1 hn _ _ _ hx hv (WideMaps.keyOf_string_mk Tryz.underlying9 hs) _ [] (plainElem_bool Tryz.underlying4 true)
    fun w' hw hg' => hK w' (SeenAt.put h2 h3 hw) hg'
end Go.Proofs.YtihbmgpjihgodaaGreatDoor
