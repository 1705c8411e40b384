/- A set of strings kept in a map[string]bool of the call's own: made, asked, told. -/
import Derived.Test.YtjmgboegipeijaaGreatDoorProg
import Derived.Maps.OwnIn
import Derived.Maps.Views
import Derived.RangeFuncWrites
import Derived.StringKeys
namespace Go.Proofs.YtjmgboegipeijaaGreatDoor
open Go Go.RowKit Go.Proofs Go.Maps

def SeenAt (W : World) (b n : Nat) (S : List (List UInt8)) : Prop :=
  ∃ D : DataW Nat, W.ownsMap Tryz.prog 9 (plainElem Tryz.prog 4) b n D ∧ IsMap D ∧ ∀ s : List UInt8, D.atKey (.string s) (.lit (.bool false)) = .lit (.bool (decide (s ∈ S)))

theorem seenLaw : Keyed Tryz.prog 9 := string_keyed Tryz.underlying9
theorem seenZero (w : World) : (zeroValue 4).run Tryz.prog w = .ok (.bool false) w := by kernel_rfl

theorem plainElem_bool_inv {H : Type} {P : Program} {e : TypeId} (he : P.underlying e = some .bool) {v : Value} {z : DataW H × List MemPlace} (h : plainElem P e v = some z) : ∃ x, v = .bool x ∧ z = (.lit (.bool x), []) := by
  unfold plainElem at h
  rw [he] at h
  cases v <;> simp at h
  exact ⟨_, rfl, h.symm⟩

theorem SeenAt.made (w : World) : SeenAt (w.alloc (.map #[] 0)) w.heap.size 0 [] :=
  ⟨.map [], World.ownsMap_made w _ _ _, isMap_empty, fun s => by simp [atKey_of_not_has (D := (.map [] : DataW Nat)) (k := .string s) rfl]⟩
theorem SeenAt.kept {W W' : World} {b n : Nat} {S : List (List UInt8)} {row : Option Nat} (h : SeenAt W b n S) (hg : W.grownBy W' row) (hne : some b ≠ row) : SeenAt W' b n S := by
  obtain ⟨D, h1, h2⟩ := h
  exact ⟨D, h1.kept hg hne, h2⟩
theorem SeenAt.alloc {W : World} {b n : Nat} {S : List (List UInt8)} (h : SeenAt W b n S) (o : Obj) : SeenAt (W.alloc o) b n S := h.kept (World.grownBy_alloc W o none) (by simp)
theorem SeenAt.lt {W : World} {b n : Nat} {S : List (List UInt8)} (h : SeenAt W b n S) : b < W.heap.size := by
  obtain ⟨D, h1, _⟩ := h
  exact h1.lt
theorem SeenAt.block {W : World} {b n : Nat} {S : List (List UInt8)} (h : SeenAt W b n S) : ∃ o, W.heap[b]? = some o ∧ o.isCells = false := by
  obtain ⟨D, ⟨es, ck, hh, _⟩, _⟩ := h
  exact ⟨_, hh, rfl⟩
theorem SeenAt.look {W : World} {b n : Nat} {S : List (List UInt8)} (h : SeenAt W b n S) (s : ByteArray) (hs : s.size ≤ maxLen) :
    (Instr.lookup 139 (.map (some b)) (.string s) false).run Tryz.prog W = .ok (.bool (decide (s.data.toList ∈ S))) W := by
  obtain ⟨D, h1, _, h3⟩ := h
  obtain ⟨v, ps, hrun, hv⟩ := h1.lookup seenLaw Tryz.underlying139 (seenZero W) (plainElem_bool Tryz.underlying4 false) (WideMaps.keyOf_string_mk Tryz.underlying9 hs)
  obtain ⟨x, rfl, hz⟩ := plainElem_bool_inv Tryz.underlying4 hv
  rw [h3] at hz
  simp only [Prod.mk.injEq, DataW.lit.injEq, Lit.bool.injEq] at hz
  rw [hrun, hz.1]

theorem SeenAt.put {W' : World} {b n : Nat} {S : List (List UInt8)} {D : DataW Nat} {s : List UInt8} (hm : IsMap D) (h3 : ∀ s : List UInt8, D.atKey (.string s) (.lit (.bool false)) = .lit (.bool (decide (s ∈ S))))
    (h : W'.ownsMap Tryz.prog 9 (plainElem Tryz.prog 4) b n (D.put (.string s) (.lit (.bool true)))) : SeenAt W' b n (s :: S) := by
  refine ⟨_, h, hm.put _ _, fun s' => ?_⟩
  by_cases e : s' = s
  · subst e
    rw [atKey_put_same hm (by unfold WideAt.IsKeyLit; trivial)]; simp
  · rw [atKey_put_other (fun h => e (by cases h; rfl)), h3]; simp [e]

/-- 'seen[s] = true' at the operation. -/
theorem wpListIn_seen_put {F : Fence} {nF : Nat} (w : World) {ops : Array Oper} {rest : List Oper} {o : Oper} {a : Act} {Q : Exit → Act → World → Prop}
    (hg : o.guard = none) (m x v : Operand) (hop : o.op = Op.mapUpdate 139 m x v) (b n : Nat) (S : List (List UInt8))
    (hm : a.eval m = .map (some b)) (hown : SeenAt w b n S) (hn : n < maxLen) (s : ByteArray) (hs : s.size ≤ maxLen) (hx : a.eval x = .string s) (hv : a.eval v = .bool true)
    (hK : ∀ w', SeenAt w' b (n + 1) (s.data.toList :: S) → w.grownBy w' (some b) → wpListIn F nF Tryz.prog ops Q rest (a.put o.dst undef) w') :
    wpListIn F nF Tryz.prog ops Q (o :: rest) a w := by
  obtain ⟨D, h1, h2, h3⟩ := hown
  exact wpListIn_mapUpdate_own w hg m x v 139 hop 9 4 seenLaw Tryz.underlying139 _ b n D hm h1 hn _ _ _ hx hv (WideMaps.keyOf_string_mk Tryz.underlying9 hs) _ [] (plainElem_bool Tryz.underlying4 true)
    fun w' hw hg' => hK w' (SeenAt.put h2 h3 hw) hg'
end Go.Proofs.YtjmgboegipeijaaGreatDoor
