/- A tree with the fields alone that its Op has: trees.bare. -/
import Derived.Test.YtihbmgpjihgodaaDoorBlk
import Derived.Test.YtihbmgpjihgodaaDoorProg
import Derived.WalkKit
import Derived.Lib.Hide
import Derived.WalkSpells
import Derived.WalkLawsBesides
import Derived.BigRegion
namespace Go.Proofs.YtihbmgpjihgodaaDoor
open Go Go.RowKit Go.Proofs

/-- The ten cells of a bare tree. -/
def bareC (op rune : Int) (sa : Option Addr) (sn sc : Nat) (pl cap : Int) (name : ByteArray) (mn mx : Int) (lz : Bool) : List Value :=
  [.int .i64 op, .slice none 0 0, .int .i32 (if op = 3 then rune else 0), (if op = 4 then .slice sa sn sc else .slice none 0 0), .int .i64 (if op = 5 then pl else 0), .int .i64 (if op = 6 then cap else 0),
    .string (if op = 6 then name else ⟨#[]⟩), .int .i64 (if op = 10 then mn else 0), .int .i64 (if op = 10 then mx else 0), .bool (if op = 7 ∨ op = 8 ∨ op = 9 ∨ op = 10 then lz else false)]

set_option maxHeartbeats 1000000 in
theorem trees_bare (op : Int) (ka : Option Addr) (kn kc : Nat) (rune : Int) (sa : Option Addr) (sn sc : Nat) (pl cap : Int) (name : ByteArray) (mn mx : Int) (lz : Bool) (w : World) :
    Calls Tryd.prog 24 #[.agg #[.int .i64 op, .slice ka kn kc, .int .i32 rune, .slice sa sn sc, .int .i64 pl, .int .i64 cap, .string name, .int .i64 mn, .int .i64 mx, .bool lz]] w fun e w' =>
      e = .returned (.agg (bareC op rune sa sn sc pl cap name mn mx lz).toArray) ∧ Below w.heap.size w w' := by
  by_cases h3 : op = 3
  · subst h3
    go_enter Tryd.func24, Tryd.ntmps24
    go_wp2_with fail
    refine bodyPost_ret (v := .agg (bareC 3 rune sa sn sc pl cap name mn mx lz).toArray) (by simp [results, Tryd.results24, go_sem, bareC]) rfl ⟨rfl, ?_⟩
    exact (((Below.refl _ w).alloc (Nat.le_refl _) _).alloc (by simp) _).alloc (by simp; omega) _
  · by_cases h4 : op = 4
    · subst h4
      go_enter Tryd.func24, Tryd.ntmps24
      go_wp2_with fail
      refine bodyPost_ret (v := .agg (bareC 4 rune sa sn sc pl cap name mn mx lz).toArray) (by simp [results, Tryd.results24, go_sem, bareC]) rfl ⟨rfl, ?_⟩
      exact (((Below.refl _ w).alloc (Nat.le_refl _) _).alloc (by simp) _).alloc (by simp; omega) _
    · by_cases h5 : op = 5
      · subst h5
        go_enter Tryd.func24, Tryd.ntmps24
        go_wp2_with fail
        refine bodyPost_ret (v := .agg (bareC 5 rune sa sn sc pl cap name mn mx lz).toArray) (by simp [results, Tryd.results24, go_sem, bareC]) rfl ⟨rfl, ?_⟩
        exact (((Below.refl _ w).alloc (Nat.le_refl _) _).alloc (by simp) _).alloc (by simp; omega) _
      · by_cases h6 : op = 6
        · subst h6
          go_enter Tryd.func24, Tryd.ntmps24
          go_wp2_with fail
          go_region
          go_wp2_with fail
          refine bodyPost_ret (v := .agg (bareC 6 rune sa sn sc pl cap name mn mx lz).toArray) (by simp [results, Tryd.results24, go_sem, bareC]) rfl ⟨rfl, ?_⟩
          exact ((((Below.refl _ w).alloc (Nat.le_refl _) _).alloc (by simp) _).alloc (by simp; omega) _).drew
        · by_cases h10 : op = 10
          · subst h10
            go_enter Tryd.func24, Tryd.ntmps24
            go_wp2_with fail
            go_region
            go_wp2_with fail
            refine bodyPost_ret (v := .agg (bareC 10 rune sa sn sc pl cap name mn mx lz).toArray) (by simp [results, Tryd.results24, go_sem, bareC]) rfl ⟨rfl, ?_⟩
            exact ((((Below.refl _ w).alloc (Nat.le_refl _) _).alloc (by simp) _).alloc (by simp; omega) _).drew
          · by_cases h7 : op = 7
            · subst h7
              go_enter Tryd.func24, Tryd.ntmps24
              go_wp2_with fail
              refine bodyPost_ret (v := .agg (bareC 7 rune sa sn sc pl cap name mn mx lz).toArray) (by simp [results, Tryd.results24, go_sem, bareC]) rfl ⟨rfl, ?_⟩
              exact (((Below.refl _ w).alloc (Nat.le_refl _) _).alloc (by simp) _).alloc (by simp; omega) _
            · by_cases h8 : op = 8
              · subst h8
                go_enter Tryd.func24, Tryd.ntmps24
                go_wp2_with fail
                refine bodyPost_ret (v := .agg (bareC 8 rune sa sn sc pl cap name mn mx lz).toArray) (by simp [results, Tryd.results24, go_sem, bareC]) rfl ⟨rfl, ?_⟩
                exact (((Below.refl _ w).alloc (Nat.le_refl _) _).alloc (by simp) _).alloc (by simp; omega) _
              · by_cases h9 : op = 9
                · subst h9
                  go_enter Tryd.func24, Tryd.ntmps24
                  go_wp2_with fail
                  refine bodyPost_ret (v := .agg (bareC 9 rune sa sn sc pl cap name mn mx lz).toArray) (by simp [results, Tryd.results24, go_sem, bareC]) rfl ⟨rfl, ?_⟩
                  exact (((Below.refl _ w).alloc (Nat.le_refl _) _).alloc (by simp) _).alloc (by simp; omega) _
                · have hb : bareC op rune sa sn sc pl cap name mn mx lz = [.int .i64 op, .slice none 0 0, .int .i32 0, .slice none 0 0, .int .i64 0, .int .i64 0, .string ⟨#[]⟩, .int .i64 0, .int .i64 0, .bool false] := by
                    unfold bareC; simp [h3, h4, h5, h6, h10, h7, h8, h9]
                  rw [hb]
                  have e3 : (op == 3) = false := by simpa using h3
                  have e4 : (op == 4) = false := by simpa using h4
                  have e5 : (op == 5) = false := by simpa using h5
                  have e6 : (op == 6) = false := by simpa using h6
                  have e10 : (op == 10) = false := by simpa using h10
                  have e7 : (op == 7) = false := by simpa using h7
                  have e8 : (op == 8) = false := by simpa using h8
                  have e9 : (op == 9) = false := by simpa using h9
                  clear h3 h4 h5 h6 h10 h7 h8 h9 hb
                  go_enter Tryd.func24, Tryd.ntmps24
                  go_wp2_with fail
                  refine bodyPost_ret (v := .agg #[.int .i64 op, .slice none 0 0, .int .i32 0, .slice none 0 0, .int .i64 0, .int .i64 0, .string ⟨#[]⟩, .int .i64 0, .int .i64 0, .bool false]) (by simp [results, Tryd.results24, go_sem]) rfl ⟨rfl, ?_⟩
                  exact (((Below.refl _ w).alloc (Nat.le_refl _) _).alloc (by simp) _).alloc (by simp; omega) _
end Go.Proofs.YtihbmgpjihgodaaDoor
