/- trees.plain as one contract: has a tree just the fields of its Op, and may they be? -/
import Derived.Test.YtjmgboegipeijaaGreatDoorPlainAt
import Derived.Test.YtjmgboegipeijaaGreatDoorPlainYes
import Derived.Test.YtjmgboegipeijaaGreatDoorBase
namespace Go.Proofs.YtjmgboegipeijaaGreatDoor
open Go Go.RowKit Go.Proofs

/-- Is a list of ranges a set? -/
def setFrom (last : Int) : List (Int × Int) → Bool
  | [] => true
  | (l, h) :: r => decide (last + 2 ≤ l) && decide (l ≤ h) && decide (h ≤ 1114111) && setFrom h r
def setRight (l : List (Int × Int)) : Bool := setFrom (-2) l

def plainT (p : T) : Bool :=
  bareOk p.op p.rune p.set.length p.pl p.cap p.name p.mn p.mx p.lz && kindOk p.op p.kids.length p.rune p.set.length (setRight p.set) p.pl p.name p.mn p.mx

/-- The contract of sets.Right, at some lists. -/
def SetsRight (P : List (Int × Int) → Prop) : Prop :=
  ∀ rs, P rs → ∀ (B : Nat) (W : World) (sa : Option Addr) (sn sc : Nat), RangesV W B rs sa sn sc → B ≤ W.heap.size → 0 < sn →
    Calls Tryz.prog 112 #[.slice sa sn sc] W fun e W' => e = .returned (.bool (setRight rs)) ∧ Below W.heap.size W W'

theorem plain_any {P : List (Int × Int) → Prop} (hS : SetsRight P) (t : T) (cs : List Value) (B : Nat) (w : World) (h : TreeV w B t cs) (hB : B ≤ w.heap.size) (hP : t.op = 4 → P t.set) :
    Calls Tryz.prog 91 #[.agg cs.toArray] w fun e w' => e = .returned (.bool (plainT t)) ∧ Below w.heap.size w w' := by
  obtain ⟨op, kids, rune, set, pl, cap, name, mn, mx, lz⟩ := t
  obtain ⟨ka, kn, kc, sa, sn, sc, rfl, ⟨rfl, h2, h3⟩, hR⟩ := h.open
  have hsn : sn = set.length := hR.1
  have hset : op = 4 → kids.length = 0 → 0 < sn → ∀ W, Below w.heap.size w W → Calls Tryz.prog 112 #[.slice sa sn sc] W fun e W' => e = .returned (.bool (setRight set)) ∧ Below W.heap.size W W' :=
    fun h4 _ h0 W hW => hS set (hP h4) B W sa sn sc (hR.below (hW.mono hB)) (Nat.le_trans hB hW.size) h0
  unfold plainT
  simp only [T.op, T.rune, T.set, T.pl, T.cap, T.name, T.mn, T.mx, T.lz, T.kids]
  rw [← hsn]
  cases hb : bareOk op rune sn pl cap name mn mx lz with
  | false => exact (plain_no op ka kids.length kc rune sa sn sc pl cap name mn mx lz w hb).mono fun e w' h => by simpa using h
  | true =>
    by_cases h5 : op = 5
    · subst h5
      exact (plain_at ka kids.length kc rune sa sn sc pl cap name mn mx lz w (setRight set) hb hset).mono fun e w' h => by simpa using h
    · exact (plain_yes op ka kids.length kc rune sa sn sc pl cap name mn mx lz w (setRight set) h5 hb hset).mono fun e w' h => by simpa using h
end Go.Proofs.YtjmgboegipeijaaGreatDoor
