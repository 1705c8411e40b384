/- ScanNames: what any text has at any place as a named group's beginning is the document's: the law's walk. -/
import Derived.Test.YtjmgboegipeijaaGreatDoorRefName3
import Derived.Test.YtjmgboegipeijaaGreatDoorHead06
namespace Go.Proofs.YtjmgboegipeijaaGreatDoor
open Go Go.RowKit Go.Proofs

theorem agg_kept2 {w2 w3 : World} {cs : List Value} {t : TypeId} (hB : Below (w2.alloc (.cells cs.toArray t)).heap.size (w2.alloc (.cells cs.toArray t)) w3) (o : Obj) :
    Blk (w3.alloc o) w2.heap.size cs t ∧ w2.heap.size < w3.heap.size := by
  have hz := hB.size
  rw [World.size_alloc] at hz
  have hk := Blk.below (Blk.new w2 cs t) hB (by rw [World.size_alloc]; omega)
  exact ⟨hk.alloc o, by omega⟩

theorem scan_Name (s : ByteArray) (p : Nat) (w : World) (hp : p ≤ s.size) (hs : s.size ≤ 1000000000000000) :
    Calls Tryz.prog 20 #[.string s, .int .i64 (p : Int)] w fun e w' => e = .returned (nameV p (nameP s p)) ∧ Below w.heap.size w w' := by
  cases h4 : stands s p [40, 63, 80, 60] with
  | true =>
    rw [nameP_4 h4]
    by_cases hk : 0 ≤ Lib.indexByte (s.data.toList.drop (p + 4)) 62
    · obtain ⟨k, hk2⟩ : ∃ k : Nat, Lib.indexByte (s.data.toList.drop (p + 4)) 62 = k := ⟨(Lib.indexByte (s.data.toList.drop (p + 4)) 62).toNat, by omega⟩
      rw [hk2]
      simp only [Int.toNat_natCast]
      cases hb : nameB (s.extract (p + 4) (p + 4 + k)) with
      | true => rw [if_pos ⟨by omega, rfl⟩]; exact scan_name_four_good s p k w hp hs h4 hk2 hb
      | false => rw [if_neg (fun h => by cases h.2)]; exact scan_name_four_bad s p k w hp hs h4 hk2 hb
    · rw [if_neg (fun h => hk h.1)]
      exact scan_name_four_none s p w hp hs h4 (by have := Lib.indexByte_ge (s.data.toList.drop (p + 4)) 62; omega)
  | false =>
    cases h3 : stands s p [40, 63, 60] with
    | true =>
      rw [nameP_3 h4 h3]
      by_cases hk : 0 ≤ Lib.indexByte (s.data.toList.drop (p + 3)) 62
      · obtain ⟨k, hk2⟩ : ∃ k : Nat, Lib.indexByte (s.data.toList.drop (p + 3)) 62 = k := ⟨(Lib.indexByte (s.data.toList.drop (p + 3)) 62).toNat, by omega⟩
        rw [hk2]
        simp only [Int.toNat_natCast]
        cases hb : nameB (s.extract (p + 3) (p + 3 + k)) with
        | true => rw [if_pos ⟨by omega, rfl⟩]; exact scan_name_three_good s p k w hp hs h4 h3 hk2 hb
        | false => rw [if_neg (fun h => by cases h.2)]; exact scan_name_three_bad s p k w hp hs h4 h3 hk2 hb
      · rw [if_neg (fun h => hk h.1)]
        exact scan_name_three_none s p w hp hs h4 h3 (by have := Lib.indexByte_ge (s.data.toList.drop (p + 3)) 62; omega)
    | false => rw [nameP_0 h4 h3]; exact scan_name_none s p w hp hs h4 h3

set_option maxHeartbeats 1000000 in
theorem law_scanNames (s : ByteArray) (p : Int) (w : World) (hs : s.size ≤ 140737488355328) :
    Calls Tryz.prog 8 #[.string s, .int .i64 p] w fun e w' => e = .returned (.bool true) ∧ Below w.heap.size w w' := by
  by_cases h1 : p < 0
  · go_enter Tryz.func8, Tryz.ntmps8
    go_wp2_with fail
    refine (head06 w).mono ?_
    rintro e w1 ⟨rfl, hB⟩
    have B1 := Lib.hid hB; clear hB
    go_wp2_with fail
    go_ret
    exact ⟨rfl, B1.out⟩
  · by_cases h2 : (s.size : Int) < p
    · go_enter Tryz.func8, Tryz.ntmps8
      go_wp2_with fail
      refine (head06 w).mono ?_
      rintro e w1 ⟨rfl, hB⟩
      have B1 := Lib.hid hB; clear hB
      go_wp2_with fail
      go_ret
      exact ⟨rfl, B1.out⟩
    · obtain ⟨q, rfl⟩ : ∃ q : Nat, p = q := ⟨p.toNat, by omega⟩
      have hq : q ≤ s.size := by omega
      go_enter Tryz.func8, Tryz.ntmps8
      go_wp2_with fail
      refine (head06 w).mono ?_
      rintro e w1 ⟨rfl, hB⟩
      have B1 := Lib.hid hB; clear hB
      go_wp2_with fail
      obtain ⟨c, hc⟩ : ∃ c, nameP s q = c := ⟨_, rfl⟩
      have k1 := scan_Name s q w1 hq (by omega)
      have k2 := fun W => ref06_Name s q W hq hs
      rw [hc] at k1
      simp only [hc] at k2
      clear hc
      have K2 := Lib.hid k2; clear k2
      rcases c with n | ⟨a, n⟩
      · refine (show Calls _ _ _ _ _ from k1).mono ?_
        clear k1
        rintro e w2 ⟨rfl, hB⟩
        have B2 := Lib.hid (below_then B1.out hB); clear hB
        simp only [nameV]
        go_wp2_with fail
        refine (K2.out _).mono ?_
        rintro e w3 ⟨rfl, hB⟩
        have B3 := Lib.hid ((B2.out.alloc B2.out.size _).trans (hB.mono (by have := B2.out.size; simp only [World.size_alloc]; omega)))
        obtain ⟨y, hlt⟩ := agg_kept2 (cs := [.int .i64 64, .int .i64 q, .int .i64 n]) hB (.cells #[.int .i64 64, .int .i64 q, .int .i64 n] 30)
        have z := Blk.new w3 [.int .i64 64, .int .i64 q, .int .i64 n] 30
        have y0 := Blk.cell y (j := 0) rfl; have y1 := Blk.cell y (j := 1) rfl; have y2 := Blk.cell y (j := 2) rfl
        have z0 := Blk.cell z (j := 0) rfl; have z1 := Blk.cell z (j := 1) rfl; have z2 := Blk.cell z (j := 2) rfl
        clear hB y z
        simp only [nameV]
        go_wp2_with fail
        go_ret
        exact ⟨rfl, B3.out.alloc (by have := B3.out.size; omega) _⟩
      · refine (show Calls _ _ _ _ _ from k1).mono ?_
        clear k1
        rintro e w2 ⟨rfl, hB⟩
        have B2 := Lib.hid (below_then B1.out hB); clear hB
        simp only [nameV]
        go_wp2_with fail
        refine (K2.out _).mono ?_
        rintro e w3 ⟨rfl, hB⟩
        have B3 := Lib.hid ((B2.out.alloc B2.out.size _).trans (hB.mono (by have := B2.out.size; simp only [World.size_alloc]; omega)))
        obtain ⟨y, hlt⟩ := agg_kept2 (cs := [.int .i64 0, .int .i64 0, .int .i64 0]) hB (.cells #[.int .i64 0, .int .i64 0, .int .i64 0] 30)
        have z := Blk.new w3 [.int .i64 0, .int .i64 0, .int .i64 0] 30
        have y0 := Blk.cell y (j := 0) rfl; have y1 := Blk.cell y (j := 1) rfl; have y2 := Blk.cell y (j := 2) rfl
        have z0 := Blk.cell z (j := 0) rfl; have z1 := Blk.cell z (j := 1) rfl; have z2 := Blk.cell z (j := 2) rfl
        clear hB y z
        simp only [nameV]
        go_wp2_with fail
        go_ret
        exact ⟨rfl, B3.out.alloc (by have := B3.out.size; omega) _⟩
end Go.Proofs.YtjmgboegipeijaaGreatDoor
