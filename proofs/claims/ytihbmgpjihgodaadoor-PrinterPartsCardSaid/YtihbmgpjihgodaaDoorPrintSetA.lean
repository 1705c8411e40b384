/- A set's text, in plain words. -/
import Derived.Test.YtihbmgpjihgodaaDoorPrintAid
namespace Go.Proofs.YtihbmgpjihgodaaDoor
open Go Go.RowKit Go.Proofs Go.Shelf

def rangeTx (x : Int × Int) : List UInt8 := codeTx x.1 ++ if x.1 < x.2 then [45] ++ codeTx x.2 else []
theorem setTx_eq (l : List (Int × Int)) : setTx l = [91] ++ l.flatMap rangeTx ++ [93] := rfl
def SetFine (rs : List (Int × Int)) : Prop := ∀ r ∈ rs, 0 ≤ r.1 ∧ r.1 ≤ r.2 ∧ r.2 ≤ 1114111
theorem rangeTx_len {x : Int × Int} (h : 0 ≤ x.1 ∧ x.1 ≤ x.2 ∧ x.2 ≤ 1114111) : (rangeTx x).length ≤ 25 := by
  have h1 := codeTx_len x.1 (by omega)
  have h2 := codeTx_len x.2 (by omega)
  unfold rangeTx
  split <;> simp <;> omega
theorem rangesTx_take {rs : List (Int × Int)} (k : Nat) (hk : k < rs.length) : (rs.take (k + 1)).flatMap rangeTx = (rs.take k).flatMap rangeTx ++ rangeTx rs[k] := by
  rw [List.take_succ_eq_append_getElem hk, List.flatMap_append]; simp only [List.flatMap_cons, List.flatMap_nil, List.append_nil]
end Go.Proofs.YtihbmgpjihgodaaDoor
