/- SyntaxQuotes: the pattern of any text is the document's: the law's walk. -/
import Derived.Test.YtnhnldmldnhaoaaGreatDoorDSyParse
import Derived.Test.YtnhnldmldnhaoaaGreatDoorFQuote
namespace Go.Proofs.YtnhnldmldnhaoaaGreatDoor
open Go Go.RowKit Go.Proofs Go.Shelf

set_option maxRecDepth 100000 in
set_option maxHeartbeats 4000000 in
theorem law_syntaxQuotes (s : ByteArray) (w : World) (hs : s.size ≤ 1048576) (hT : TabsM w) : Calls Tryz.prog 6 #[.string s] w fun e w' => e = .returned (.bool true) ∧ Below w.heap.size w w' := by
  have HT := Lib.hid hT
  clear hT
  go_enter Tryz.func6, Tryz.ntmps6
  go_wp2_with fail
  refine (head08 w HT.out).mono ?_
  rintro e w1 ⟨rfl, hB⟩
  have B1 := Lib.hid hB
  clear hB
  go_wp2_with fail
  refine (syntax_quote s w1 (by omega)).mono ?_
  rintro e w2 ⟨rfl, hB⟩
  have B2 := Lib.hid (below_then B1.out hB)
  clear hB
  go_wp2_with fail
  refine (ref08_quote s w2 (by omega)).mono ?_
  rintro e w3 ⟨rfl, hB⟩
  have B3 := Lib.hid (below_then B2.out hB)
  clear hB
  go_wp2_with fail
  go_ret
  exact ⟨rfl, B3.out⟩
end Go.Proofs.YtnhnldmldnhaoaaGreatDoor
