/- What is said of a place: printer.place and the document's. -/
import Derived.Test.YtihbmgpjihgodaaDoorPrintSpec
import Derived.Test.YtihbmgpjihgodaaDoorProg
import Derived.WalkKit
import Derived.Lib.Hide
import Derived.WalkSpells
import Derived.WalkLawsBesides
import Derived.LoopTactic
namespace Go.Proofs.YtihbmgpjihgodaaDoor
open Go Go.RowKit Go.Proofs

set_option maxHeartbeats 2000000 in
theorem printer_place (a : Int) (w : World) : Calls Tryd.prog 18 #[.int .i64 a] w fun e w' => e = .returned (.string ⟨(placeTx a).toArray⟩) ∧ w' = w := by
  by_cases h1 : a = 1
  · subst h1; go_enter Tryd.func18, Tryd.ntmps18; go_wp2_with fail; go_ret; exact ⟨rfl, rfl⟩
  by_cases h2 : a = 2
  · subst h2; go_enter Tryd.func18, Tryd.ntmps18; go_wp2_with fail; go_ret; exact ⟨rfl, rfl⟩
  by_cases h3 : a = 4
  · subst h3; go_enter Tryd.func18, Tryd.ntmps18; go_wp2_with fail; go_ret; exact ⟨rfl, rfl⟩
  by_cases h4 : a = 8
  · subst h4; go_enter Tryd.func18, Tryd.ntmps18; go_wp2_with fail; go_ret; exact ⟨rfl, rfl⟩
  by_cases h5 : a = 16
  · subst h5; go_enter Tryd.func18, Tryd.ntmps18; go_wp2_with fail; go_ret; exact ⟨rfl, rfl⟩
  have HP := Lib.hid (show placeTx a = [92, 66] by unfold placeTx; rw [if_neg h1, if_neg h2, if_neg h3, if_neg h4, if_neg h5])
  have e1 : (a == 1) = false := by simpa using h1
  have e2 : (a == 2) = false := by simpa using h2
  have e3 : (a == 4) = false := by simpa using h3
  have e4 : (a == 8) = false := by simpa using h4
  have e5 : (a == 16) = false := by simpa using h5
  clear h1 h2 h3 h4 h5
  go_enter Tryd.func18, Tryd.ntmps18
  go_wp2_with fail
  go_ret
  exact ⟨by rw [HP.out]; rfl, rfl⟩
end Go.Proofs.YtihbmgpjihgodaaDoor
