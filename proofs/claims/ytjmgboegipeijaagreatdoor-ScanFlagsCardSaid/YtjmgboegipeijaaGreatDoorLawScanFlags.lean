/- ScanFlags: what any text has at any place as a group's flags, on any flags, is the document's: the law's walk. -/
import Derived.Test.YtjmgboegipeijaaGreatDoorRefFlags
import Derived.Test.YtjmgboegipeijaaGreatDoorHead06
namespace Go.Proofs.YtjmgboegipeijaaGreatDoor
open Go Go.RowKit Go.Proofs

/-- A local struct, known through a call. -/
theorem agg_kept {w2 w3 : World} {cs : List Value} {t : TypeId} (hB : Below (w2.alloc (.cells cs.toArray t)).heap.size (w2.alloc (.cells cs.toArray t)) w3) (o : Obj) :
    Blk (w3.alloc o) w2.heap.size cs t ∧ w2.heap.size < w3.heap.size := by
  have hz := hB.size
  rw [World.size_alloc] at hz
  have hk := Blk.below (Blk.new w2 cs t) hB (by rw [World.size_alloc]; omega)
  exact ⟨hk.alloc o, by omega⟩

set_option maxHeartbeats 1000000 in
theorem law_scanFlags (s : ByteArray) (p : Int) (f : Int) (w : World) (hT : Tabs w) (hs : s.size ≤ 140737488355328) :
    Calls Tryz.prog 6 #[.string s, .int .i64 p, .int .i64 f] w fun e w' => e = .returned (.bool true) ∧ Below w.heap.size w w' := by
  have HT := Lib.hid hT; clear hT
  by_cases h1 : p < 0
  · go_enter Tryz.func6, Tryz.ntmps6
    go_wp2_with fail
    refine (head06 w).mono ?_
    rintro e w1 ⟨rfl, hB⟩
    have B1 := Lib.hid hB; clear hB
    go_wp2_with fail
    go_ret
    exact ⟨rfl, B1.out⟩
  · by_cases h2 : (s.size : Int) < p
    · go_enter Tryz.func6, Tryz.ntmps6
      go_wp2_with fail
      refine (head06 w).mono ?_
      rintro e w1 ⟨rfl, hB⟩
      have B1 := Lib.hid hB; clear hB
      go_wp2_with fail
      go_ret
      exact ⟨rfl, B1.out⟩
    · obtain ⟨q, rfl⟩ : ∃ q : Nat, p = q := ⟨p.toNat, by omega⟩
      have hq : q ≤ s.size := by omega
      go_enter Tryz.func6, Tryz.ntmps6
      go_wp2_with fail
      refine (head06 w).mono ?_
      rintro e w1 ⟨rfl, hB⟩
      have T1 := Lib.hid (HT.out.below hB)
      have B1 := Lib.hid hB; clear hB
      go_wp2_with fail
      obtain ⟨c, hc⟩ : ∃ c, flagsP s q f = c := ⟨_, rfl⟩
      have k1 := scan_Flags s q f w1 T1.out hq hs
      have k2 := fun W hW => ref06_Flags s q f W hW hq hs
      rw [hc] at k1
      simp only [hc] at k2
      clear hc
      have K2 := Lib.hid k2; clear k2
      rcases c with n | ⟨a, b, n⟩
      · refine (show Calls _ _ _ _ _ from k1).mono ?_
        clear k1
        rintro e w2 ⟨rfl, hB⟩
        have T2 := Lib.hid (T1.out.below hB)
        have B2 := Lib.hid (below_then B1.out hB); clear hB
        simp only [flagsV]
        go_wp2_with fail
        refine (K2.out _ (T2.out.alloc _)).mono ?_
        rintro e w3 ⟨rfl, hB⟩
        have B3 := Lib.hid ((B2.out.alloc B2.out.size _).trans (hB.mono (by have := B2.out.size; simp only [World.size_alloc]; omega)))
        obtain ⟨y, hlt⟩ := agg_kept (cs := [.int .i64 65, .int .i64 q, .int .i64 n]) hB (.cells #[.int .i64 65, .int .i64 q, .int .i64 n] 30)
        have z := Blk.new w3 [.int .i64 65, .int .i64 q, .int .i64 n] 30
        have y0 := Blk.cell y (j := 0) rfl; have y1 := Blk.cell y (j := 1) rfl; have y2 := Blk.cell y (j := 2) rfl
        have z0 := Blk.cell z (j := 0) rfl; have z1 := Blk.cell z (j := 1) rfl; have z2 := Blk.cell z (j := 2) rfl
        clear hB y z
        simp only [flagsV]
        go_wp2_with fail
        go_ret
        exact ⟨rfl, B3.out.alloc (by have := B3.out.size; omega) _⟩
      · refine (show Calls _ _ _ _ _ from k1).mono ?_
        clear k1
        rintro e w2 ⟨rfl, hB⟩
        have T2 := Lib.hid (T1.out.below hB)
        have B2 := Lib.hid (below_then B1.out hB); clear hB
        simp only [flagsV]
        go_wp2_with fail
        refine (K2.out _ (T2.out.alloc _)).mono ?_
        rintro e w3 ⟨rfl, hB⟩
        have B3 := Lib.hid ((B2.out.alloc B2.out.size _).trans (hB.mono (by have := B2.out.size; simp only [World.size_alloc]; omega)))
        obtain ⟨y, hlt⟩ := agg_kept (cs := [.int .i64 0, .int .i64 0, .int .i64 0]) hB (.cells #[.int .i64 0, .int .i64 0, .int .i64 0] 30)
        have z := Blk.new w3 [.int .i64 0, .int .i64 0, .int .i64 0] 30
        have y0 := Blk.cell y (j := 0) rfl; have y1 := Blk.cell y (j := 1) rfl; have y2 := Blk.cell y (j := 2) rfl
        have z0 := Blk.cell z (j := 0) rfl; have z1 := Blk.cell z (j := 1) rfl; have z2 := Blk.cell z (j := 2) rfl
        clear hB y z
        simp only [flagsV]
        go_wp2_with fail
        go_ret
        exact ⟨rfl, B3.out.alloc (by have := B3.out.size; omega) _⟩
end Go.Proofs.YtjmgboegipeijaaGreatDoor
