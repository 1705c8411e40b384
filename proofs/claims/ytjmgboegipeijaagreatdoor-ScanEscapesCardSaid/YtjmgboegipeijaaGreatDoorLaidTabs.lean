/- The library's two tables for UTF-8, off what a row lists. -/
import Derived.Test.YtjmgboegipeijaaGreatDoorNext
import Derived.Lib.LaidU8
import Derived.KernelRfl
import GoSem.PinnedTables
namespace Go.Proofs.YtjmgboegipeijaaGreatDoor
open Go Go.RowKit Go.Proofs

theorem first_pinned : Go.Pinned.utf8First = Lib.firstData := by kernel_rfl

theorem tabs_of_laid {w : World} (h : Lib.VarReads Tryz.prog w "unicode/utf8.first" Go.Pinned.utf8First) (h4 : Lib.VarReads Tryz.prog w "unicode/utf8.acceptRanges" Lib.acceptData) : Tabs w :=
  utf8Tabs_of_reads { Tryz.lays197 with } ⟨by kernel_rfl, by kernel_rfl, by kernel_rfl, by kernel_rfl, by kernel_rfl, by kernel_rfl, by kernel_rfl⟩ (first_pinned ▸ h) h4
end Go.Proofs.YtjmgboegipeijaaGreatDoor
