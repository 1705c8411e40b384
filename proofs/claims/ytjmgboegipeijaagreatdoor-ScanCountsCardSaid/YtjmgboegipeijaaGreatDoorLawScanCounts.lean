/- ScanCounts: what any text has at any place as a counted repeat is the document's: the law's walk. -/
import Derived.Test.YtjmgboegipeijaaGreatDoorHead06
namespace Go.Proofs.YtjmgboegipeijaaGreatDoor
open Go Go.RowKit Go.Proofs

set_option maxHeartbeats 1000000 in
theorem law_scanCounts (s : ByteArray) (p : Int) (w : World) (hs : s.size ≤ 140737488355328) :
    Calls Tryz.prog 4 #[.string s, .int .i64 p] w fun e w' => e = .returned (.bool true) ∧ Below w.heap.size w w' := by
  by_cases h1 : p < 0
  · go_enter Tryz.func4, Tryz.ntmps4
    go_wp2_with fail
    refine (head06 w).mono ?_
    rintro e w1 ⟨rfl, hB⟩
    have B1 := Lib.hid hB; clear hB
    go_wp2_with fail
    go_ret
    exact ⟨rfl, B1.out⟩
  · by_cases h2 : (s.size : Int) < p
    · go_enter Tryz.func4, Tryz.ntmps4
      go_wp2_with fail
      refine (head06 w).mono ?_
      rintro e w1 ⟨rfl, hB⟩
      have B1 := Lib.hid hB; clear hB
      go_wp2_with fail
      go_ret
      exact ⟨rfl, B1.out⟩
    · obtain ⟨q, rfl⟩ : ∃ q : Nat, p = q := ⟨p.toNat, by omega⟩
      have hq : q ≤ s.size := by omega
      go_enter Tryz.func4, Tryz.ntmps4
      go_wp2_with fail
      refine (head06 w).mono ?_
      rintro e w1 ⟨rfl, hB⟩
      have B1 := Lib.hid hB; clear hB
      go_wp2_with fail
      obtain ⟨c, hc⟩ : ∃ c, countP s q = c := ⟨_, rfl⟩
      have k1 := scan_Count s q w1 hq hs
      have k2 := fun W => ref06_Count s q W hq hs
      rw [hc] at k1
      simp only [hc] at k2
      clear hc
      have K2 := Lib.hid k2; clear k2
      rcases c with _ | ⟨a, b, n⟩
      · refine (show Calls _ _ _ _ _ from k1).mono ?_
        clear k1
        rintro e w2 ⟨rfl, hB⟩
        have B2 := Lib.hid (below_then B1.out hB); clear hB
        simp only [countV]
        go_wp2_with fail
        refine (K2.out _).mono ?_
        rintro e w3 ⟨rfl, rfl⟩
        simp only [countV]
        go_wp2_with fail
        go_ret
        exact ⟨rfl, B2.out⟩
      · refine (show Calls _ _ _ _ _ from k1).mono ?_
        clear k1
        rintro e w2 ⟨rfl, hB⟩
        have B2 := Lib.hid (below_then B1.out hB); clear hB
        simp only [countV]
        go_wp2_with fail
        refine (K2.out _).mono ?_
        rintro e w3 ⟨rfl, rfl⟩
        simp only [countV]
        go_wp2_with fail
        go_ret
        exact ⟨rfl, B2.out⟩
end Go.Proofs.YtjmgboegipeijaaGreatDoor
