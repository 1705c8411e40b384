/- Has a tree just the fields of its Op, and may they be? trees.plain. -/
import Derived.Test.YtihbmgpjihgodaaGreatDoorQBlk
import Derived.Test.YtihbmgpjihgodaaGreatDoorTName
import Derived.Test.YtihbmgpjihgodaaGreatDoorBase
namespace Go.Proofs.YtihbmgpjihgodaaGreatDoor
open Go Go.RowKit Go.Proofs

theorem bareC_form (op rune : Int) (sa : Option Addr) (sn sc : Nat) (pl cap : Int) (name : ByteArray) (mn mx : Int) (lz : Bool) : ∃ (sa' : Option Addr) (sn' sc' : Nat),
    bareC op rune sa sn sc pl cap name mn mx lz = [.int .i64 op, .slice none 0 0, .int .i32 (if op = 3 then rune else 0), .slice sa' sn' sc', .int .i64 (if op = 5 then pl else 0), .int .i64 (if op = 6 then cap else 0),
      .string (if op = 6 then name else ⟨#[]⟩), .int .i64 (if op = 10 then mn else 0), .int .i64 (if op = 10 then mx else 0), .bool (if op = 7 ∨ op = 8 ∨ op = 9 ∨ op = 10 then lz else false)] ∧ sn' = (if op = 4 then sn else 0) := by
  by_cases h : op = 4
  · exact ⟨sa, sn, sc, by unfold bareC; rw [if_pos h], by rw [if_pos h]⟩
  · exact ⟨none, 0, 0, by unfold bareC; rw [if_neg h], by rw [if_neg h]⟩

/-- Are a tree's fields those of its Op alone? -/
def bareOk (op rune : Int) (sn : Nat) (pl cap : Int) (name : ByteArray) (mn mx : Int) (lz : Bool) : Bool :=
  decide ((if op = 3 then rune else 0) = rune) && decide ((if op = 4 then sn else 0) = sn) && decide ((if op = 5 then pl else 0) = pl) && decide ((if op = 6 then cap else 0) = cap) &&
    decide ((if op = 6 then name else (⟨#[]⟩ : ByteArray)) = name) && decide ((if op = 10 then mn else 0) = mn) && decide ((if op = 10 then mx else 0) = mx) &&
    decide ((if op = 7 ∨ op = 8 ∨ op = 9 ∨ op = 10 then lz else false) = lz)
/-- What a tree's Op asks of it. -/
def kindOk (op : Int) (kn : Nat) (rune : Int) (sn : Nat) (so : Bool) (pl : Int) (name : ByteArray) (mn mx : Int) : Bool :=
  if op = 1 ∨ op = 2 then decide (kn = 0)
  else if op = 3 then decide (kn = 0) && decide (0 ≤ rune) && decide (rune ≤ 1114111)
  else if op = 4 then decide (kn = 0) && decide (0 < sn) && so
  else if op = 5 then decide (kn = 0) && decide (pl = 1 ∨ pl = 2 ∨ pl = 4 ∨ pl = 8 ∨ pl = 16 ∨ pl = 32)
  else if op = 6 then decide (kn = 1) && (decide (name.size = 0) || nameB name)
  else if op = 7 ∨ op = 8 ∨ op = 9 then decide (kn = 1)
  else if op = 10 then decide (kn = 1) && decide (0 ≤ mn) && decide (mn ≤ 1000) && (decide (mx = -1) || (decide (mn ≤ mx) && decide (mx ≤ 1000)))
  else if op = 11 then true
  else if op = 12 then decide (0 < kn)
  else false

theorem toList_ne {a b : ByteArray} (h : ¬ a = b) : ¬ a.toList = b.toList := fun e => h (by
  rw [ByteArray.toList_eq, ByteArray.toList_eq] at e
  cases a; cases b; rw [ByteArray.mk.injEq]; exact Array.toList_inj.1 e)

set_option maxRecDepth 100000 in
set_option maxHeartbeats 1000000 in
theorem plain_no (op : Int) (ka : Option Addr) (kn kc : Nat) (rune : Int) (sa : Option Addr) (sn sc : Nat) (pl cap : Int) (name : ByteArray) (mn mx : Int) (lz : Bool) (w : World) (hno : bareOk op rune sn pl cap name mn mx lz = false) :
    Calls Tryz.prog 15 #[.agg #[.int .i64 op, .slice ka kn kc, .int .i32 rune, .slice sa sn sc, .int .i64 pl, .int .i64 cap, .string name, .int .i64 mn, .int .i64 mx, .bool lz]] w fun e w' =>
      e = .returned (.bool false) ∧ Below w.heap.size w w' := by
  go_enter Tryz.func15, Tryz.ntmps15
  go_wp2_with fail
  refine (trees_bare op ka kn kc rune sa sn sc pl cap name mn mx lz _).mono ?_
  rintro e w1 ⟨rfl, hB⟩
  obtain ⟨sa', sn', sc', hb, hsn⟩ := bareC_form op rune sa sn sc pl cap name mn mx lz
  rw [hb]
  have HB := Lib.hid hB; clear hB hb
  unfold bareOk at hno
  rw [← hsn] at hno
  have HSN := Lib.hid hsn; clear hsn
  generalize (if op = 3 then rune else 0) = r' at hno ⊢
  generalize (if op = 5 then pl else 0) = p' at hno ⊢
  generalize (if op = 6 then cap else 0) = c' at hno ⊢
  generalize (if op = 6 then name else (⟨#[]⟩ : ByteArray)) = n' at hno ⊢
  generalize (if op = 10 then mn else 0) = mn' at hno ⊢
  generalize (if op = 10 then mx else 0) = mx' at hno ⊢
  generalize (if op = 7 ∨ op = 8 ∨ op = 9 ∨ op = 10 then lz else false) = l' at hno ⊢
  have hsz : w.heap.size < w1.heap.size := by have := HB.out.size; simp only [World.size_alloc] at this; omega
  have ht := (Blk.below (Blk.new w [.int .i64 op, .slice ka kn kc, .int .i32 rune, .slice sa sn sc, .int .i64 pl, .int .i64 cap, .string name, .int .i64 mn, .int .i64 mx, .bool lz] 27) HB.out (by simp))
  have t0 := Blk.cell ht (j := 0) rfl; have t1 := Blk.cell ht (j := 1) rfl; have t2 := Blk.cell ht (j := 2) rfl; have t3 := Blk.cell ht (j := 3) rfl; have t4 := Blk.cell ht (j := 4) rfl
  have t5 := Blk.cell ht (j := 5) rfl; have t6 := Blk.cell ht (j := 6) rfl; have t7 := Blk.cell ht (j := 7) rfl; have t8 := Blk.cell ht (j := 8) rfl; have t9 := Blk.cell ht (j := 9) rfl
  clear ht
  by_cases k : r' = rune
  rotate_left
  · have k2 : (r' != rune) = true := by simpa using k
    clear k hno
    go_wp2_with fail
    go_ret
    exact ⟨rfl, ((Below.refl _ w).alloc (Nat.le_refl _) _).trans ((HB.out.mono (by simp)).alloc (by omega) _)⟩
  · subst k
    by_cases k : sn' = sn
    rotate_left
    · have k2 : ((sn' : Int) != (sn : Int)) = true := by simp; omega
      clear k hno
      go_wp2_with fail
      go_ret
      exact ⟨rfl, ((Below.refl _ w).alloc (Nat.le_refl _) _).trans ((HB.out.mono (by simp)).alloc (by omega) _)⟩
    · subst k
      by_cases k : p' = pl
      rotate_left
      · have k2 : (p' != pl) = true := by simpa using k
        clear k hno
        go_wp2_with fail
        go_ret
        exact ⟨rfl, ((Below.refl _ w).alloc (Nat.le_refl _) _).trans ((HB.out.mono (by simp)).alloc (by omega) _)⟩
      · subst k
        by_cases k : c' = cap
        rotate_left
        · have k2 : (c' != cap) = true := by simpa using k
          clear k hno
          go_wp2_with fail
          go_ret
          exact ⟨rfl, ((Below.refl _ w).alloc (Nat.le_refl _) _).trans ((HB.out.mono (by simp)).alloc (by omega) _)⟩
        · subst k
          by_cases k : n' = name
          rotate_left
          · have k2 : ¬ n'.toList = name.toList := toList_ne k
            clear k hno
            go_wp2_with fail
            go_ret
            exact ⟨rfl, ((Below.refl _ w).alloc (Nat.le_refl _) _).trans ((HB.out.mono (by simp)).alloc (by omega) _)⟩
          · subst k
            by_cases k : mn' = mn
            rotate_left
            · have k2 : (mn' != mn) = true := by simpa using k
              clear k hno
              go_wp2_with fail
              go_ret
              exact ⟨rfl, ((Below.refl _ w).alloc (Nat.le_refl _) _).trans ((HB.out.mono (by simp)).alloc (by omega) _)⟩
            · subst k
              by_cases k : mx' = mx
              rotate_left
              · have k2 : (mx' != mx) = true := by simpa using k
                clear k hno
                go_wp2_with fail
                go_ret
                exact ⟨rfl, ((Below.refl _ w).alloc (Nat.le_refl _) _).trans ((HB.out.mono (by simp)).alloc (by omega) _)⟩
              · subst k
                by_cases k : l' = lz
                rotate_left
                · have k2 : (!l' == lz) = true := by cases l' <;> cases lz <;> simp_all
                  clear k hno
                  go_wp2_with fail
                  go_ret
                  exact ⟨rfl, ((Below.refl _ w).alloc (Nat.le_refl _) _).trans ((HB.out.mono (by simp)).alloc (by omega) _)⟩
                · subst k
                  exact absurd hno (by simp)
end Go.Proofs.YtihbmgpjihgodaaGreatDoor
