/- sets.Has: is a rune in a set? slices.Contains and slices.Sort at runes: a short slice is sorted in place: its runes stay. slices.insertionSortOrdered at runes. Orbits: what tables.Orbit computes, and the document's orbits. tables.Orbit: its parts. tables.Orbit: the runes that are alike. (Printed by gen_orb.py.) -/
import Derived.Test.YtnafemcholkmlaaGreatDoorQBrClass
import Derived.LoopTactic
import Derived.Test.YtnafemcholkmlaaGreatDoorQBlk
import Derived.Test.YtnafemcholkmlaaGreatDoorQSetsOps
import Derived.Test.YtnafemcholkmlaaGreatDoorShelf
import Derived.Deep.QuietTactic
import Derived.BigQuiet
import Derived.BigRegion
import Derived.ChangeAlike
import Derived.IntWalk
import Derived.KernelRfl
import Derived.Maps.AppendAt
import Derived.Deep.AppendLies
import Derived.Deep.LoopGhost
namespace Go.Proofs.YtnafemcholkmlaaGreatDoor
open Go Go.RowKit Go.Proofs

set_option maxHeartbeats 1000000 in
theorem has_is (lo hi c : Int) (bc : Nat) (w : World) (hc : w.cell? ⟨bc, 0, none⟩ = some (.int .i32 c)) (hlt : bc < w.heap.size) (b : Bool) (hb : (decide (lo ≤ c) && decide (c ≤ hi)) = b) :
    Calls Tryz.prog 55 #[.agg #[.int .i32 lo, .int .i32 hi], .pointer (some ⟨bc, 0, none⟩)] w fun e w' => e = .returned (.bool b) ∧ Below w.heap.size w w' := by
  have hc2 : (w.alloc (.cells #[.int .i32 lo, .int .i32 hi] 43)).cell? ⟨bc, 0, none⟩ = some (.int .i32 c) := by
    rw [World.cell?_of_block (Below.heap_alloc w _ bc hlt)]; exact hc
  by_cases h1 : lo ≤ c
  · by_cases h2 : c ≤ hi
    · obtain rfl : b = true := by rw [← hb]; simp [h1, h2]
      clear hb
      go_enter Tryz.func55, Tryz.ntmps55
      go_wp2_with fail
      go_ret
      exact ⟨rfl, (Below.refl _ _).alloc (Nat.le_refl _) _⟩
    · obtain rfl : b = false := by rw [← hb]; simp; omega
      clear hb
      go_enter Tryz.func55, Tryz.ntmps55
      go_wp2_with fail
      go_ret
      exact ⟨rfl, (Below.refl _ _).alloc (Nat.le_refl _) _⟩
  · obtain rfl : b = false := by rw [← hb]; simp; omega
    clear hb
    go_enter Tryz.func55, Tryz.ntmps55
    go_wp2_with fail
    go_ret
    exact ⟨rfl, (Below.refl _ _).alloc (Nat.le_refl _) _⟩
/-- What IndexFunc hands back. -/
def IdxF (rs : List (Int × Int)) (c : Int) (w : World) (e : Ending) (w' : World) : Prop := (∃ n : Int, e = .returned (.int .i64 n) ∧ decide (0 ≤ n) = memR rs c) ∧ Below w.heap.size w w'
theorem idxF_mk {rs : List (Int × Int)} {c n : Int} {w w' : World} (h : decide (0 ≤ n) = memR rs c) (hb : Below w.heap.size w w') : IdxF rs c w (.returned (.int .i64 n)) w' := ⟨⟨n, rfl, h⟩, hb⟩
set_option maxHeartbeats 1000000 in
theorem has_index (rs : List (Int × Int)) (b o sc bc : Nat) (c : Int) (w : World) (hat : RangesAt w rs b o) (hb : b < w.heap.size) (hn : rs.length ≤ 140737488351232) (hc : w.cell? ⟨bc, 0, none⟩ = some (.int .i32 c)) (hlt : bc < w.heap.size) :
    Calls Tryz.prog 83 #[.slice (some ⟨b, o, none⟩) rs.length sc, .func (.func 55) #[] #[.pointer (some ⟨bc, 0, none⟩)]] w (IdxF rs c w) := by
  have HA := Lib.hid hat; have HB := Lib.hid hb; have HC := Lib.hid hc; have HL := Lib.hid hlt
  clear hat hb hc hlt
  go_enter Tryz.func83, Tryz.ntmps83
  go_wp2_with fail
  go_loopw [8] (fun iv W => ∃ k : Nat, k ≤ rs.length ∧ iv = .int .i64 k ∧ memR (rs.take k) c = false ∧ Below w.heap.size w W) (fun iv _ => rs.length - (intOf iv).toNat)
  case atStart => exact ⟨0, Nat.zero_le _, rfl, rfl, Below.refl _ _⟩
  case round =>
    obtain ⟨k, hk, rfl, hm, hbw⟩ := hrel
    have HM := Lib.hid hm; have HW := Lib.hid hbw; clear hm hbw
    by_cases hlt : k < rs.length
    · obtain ⟨g1, g2⟩ := (HA.out.below HW.out HB.out).get k hlt
      obtain ⟨l, hl⟩ : ∃ l, rs[k].1 = l := ⟨_, rfl⟩
      obtain ⟨u, hu⟩ : ∃ u, rs[k].2 = u := ⟨_, rfl⟩
      rw [hl] at g1; rw [hu] at g2
      have HLo := Lib.hid hl; have HU := Lib.hid hu; clear hl hu
      have HCW := Lib.hid (show wr.cell? ⟨bc, 0, none⟩ = some (.int .i32 c) by rw [World.cell?_of_block (HW.out.block bc HL.out)]; exact HC.out)
      have HLW := Lib.hid (show bc < wr.heap.size by have := HL.out; have := HW.out.size; omega)
      cases hb : (decide (l ≤ c) && decide (c ≤ u)) with
      | true =>
        have HBB := Lib.hid hb; clear hb
        go_wp2_with fail
        refine (has_is l u c bc wr HCW.out HLW.out true HBB.out).mono ?_
        rintro e w2 ⟨rfl, hB2⟩
        have B2 := Lib.hid (below_next HW.out (Nat.le_refl _) (grownBy_below hB2 none) (by simp)); clear hB2
        go_wp2_with fail
        go_ret
        have h2 := HBB.out
        simp only [Bool.and_eq_true, decide_eq_true_eq] at h2
        exact idxF_mk (by rw [memR_at hlt (by rw [HLo.out]; exact h2.1) (by rw [HU.out]; exact h2.2)]; simp) B2.out
      | false =>
        have HBB := Lib.hid hb; clear hb
        go_wp2_with fail
        refine (has_is l u c bc wr HCW.out HLW.out false HBB.out).mono ?_
        rintro e w2 ⟨rfl, hB2⟩
        have B2 := Lib.hid (below_next HW.out (Nat.le_refl _) (grownBy_below hB2 none) (by simp)); clear hB2
        go_wp2_with fail
        go_roundw
        case rel => exact ⟨k + 1, hlt, by go_num, by rw [memR_take rs c k hlt, HM.out, HLo.out, HU.out, HBB.out]; rfl, B2.out⟩
        case measure => simp [intOf]; omega
    · obtain rfl : k = rs.length := by omega
      rw [List.take_length] at HM
      go_wp2_with fail
      go_ret
      exact idxF_mk (by rw [HM.out]; rfl) HW.out
/-- What Has hands back, of a set and a rune. -/
def HasOut (rs : List (Int × Int)) (c : Int) (w : World) (e : Ending) (w' : World) : Prop := e = .returned (.bool (hasB rs c)) ∧ Below w.heap.size w w'
set_option maxHeartbeats 1000000 in
theorem has_contains (rs : List (Int × Int)) (sa : Option Addr) (sc bc : Nat) (c : Int) (w : World) (h : RangesV w w.heap.size rs sa rs.length sc) (hc : w.cell? ⟨bc, 0, none⟩ = some (.int .i32 c)) (hlt : bc < w.heap.size) :
    Calls Tryz.prog 54 #[.slice sa rs.length sc, .func (.func 55) #[] #[.pointer (some ⟨bc, 0, none⟩)]] w fun e w' => e = .returned (.bool (memR rs c)) ∧ Below w.heap.size w w' := by
  obtain ⟨_, ⟨_, hn⟩, hr⟩ := h
  by_cases hz : rs.length = 0
  · have e0 : rs = [] := List.eq_nil_of_length_eq_zero hz
    subst e0
    have HI := Lib.hid (show Calls Tryz.prog 83 #[.slice sa 0 sc, .func (.func 55) #[] #[.pointer (some ⟨bc, 0, none⟩)]] w fun e w' => e = .returned (.int .i64 (-1)) ∧ w' = w by
      clear hc hlt hr hn hz
      go_enter Tryz.func83, Tryz.ntmps83
      go_wp2_with fail
      go_loop [8] (fun i => i = .int .i64 0) (fun _ => 0)
      case atStart => rfl
      case round =>
        subst hrel
        go_wp2_with fail
        go_ret
        exact ⟨rfl, rfl⟩)
    clear hc hlt hr hn hz
    go_enter Tryz.func54, Tryz.ntmps54
    go_wp2_with fail
    refine (HI.out).mono ?_
    rintro e w1 ⟨rfl, rfl⟩
    go_wp2_with fail
    go_ret
    exact ⟨rfl, Below.refl _ _⟩
  · obtain ⟨b, o, rfl, hb, hat⟩ := hr.resolve_left hz
    have HI := Lib.hid (has_index rs b o sc bc c w hat hb hn hc hlt)
    clear hc hlt hr hn hz hat hb
    go_enter Tryz.func54, Tryz.ntmps54
    go_wp2_with fail
    refine (HI.out).mono ?_
    rintro e w1 ⟨⟨n, rfl, hd⟩, hB⟩
    have HD := Lib.hid hd; have HB := Lib.hid hB; clear hd hB
    go_wp2_with fail
    go_ret
    exact ⟨by rw [← HD.out]; rfl, HB.out⟩
set_option maxHeartbeats 1000000 in
theorem sets_Has (rs : List (Int × Int)) (sa : Option Addr) (sc B : Nat) (c : Int) (w : World) (h : RangesV w B rs sa rs.length sc) (hB : B ≤ w.heap.size) :
    Calls Tryz.prog 37 #[.slice sa rs.length sc, .int .i32 c] w (HasOut rs c w) := by
  have k1 := Lib.hid (Blk.new w [.int .i32 c] 21)
  have r1 := Lib.hid (show RangesV (w.alloc (.cells #[.int .i32 c] 21)) B rs sa rs.length sc from h.below ((Below.refl _ w).alloc hB _ |>.mono (Nat.le_refl _)))
  clear h
  by_cases h0 : c < 0
  · have hh : hasB rs c = false := by unfold hasB; rw [decide_eq_false (by omega : ¬ 0 ≤ c)]; rfl
    have HH := Lib.hid hh; clear hh
    have n0 : ¬ 0 ≤ c := by omega
    go_enter Tryz.func37, Tryz.ntmps37
    go_wp2_with fail
    go_ret
    exact ⟨by rw [HH.out]; rfl, (Below.refl _ _).alloc (Nat.le_refl _) _⟩
  · have n0 : 0 ≤ c := by omega
    by_cases h1 : c ≤ 1114111
    · have hh : hasB rs c = memR rs c := by unfold hasB; rw [decide_eq_true n0, decide_eq_true h1]; rfl
      have HH := Lib.hid hh; clear hh
      have HC := Lib.hid (has_contains rs sa sc w.heap.size c _ ⟨r1.out.1, r1.out.2.1, r1.out.2.2.imp id (fun ⟨b, o, e, hlt, hat⟩ => ⟨b, o, e, by simp; omega, hat⟩)⟩ (Blk.cell k1.out (j := 0) rfl) k1.out.lt)
      have c0 := Blk.cell k1.out (j := 0) rfl
      go_enter Tryz.func37, Tryz.ntmps37
      go_wp2_with fail
      refine (HC.out).mono ?_
      rintro e w1 ⟨rfl, hB1⟩
      have B1 := Lib.hid hB1; clear hB1
      go_wp2_with fail
      go_ret
      refine ⟨by rw [HH.out]; rfl, ?_⟩
      have := (Below.refl w.heap.size w).alloc (Nat.le_refl _) (.cells #[.int .i32 c] 21)
      exact this.trans (B1.out.mono (by simp))
    · have hh : hasB rs c = false := by unfold hasB; rw [decide_eq_false h1]; simp
      have HH := Lib.hid hh; clear hh
      go_enter Tryz.func37, Tryz.ntmps37
      go_wp2_with fail
      go_ret
      exact ⟨by rw [HH.out]; rfl, (Below.refl _ _).alloc (Nat.le_refl _) _⟩
end Go.Proofs.YtnafemcholkmlaaGreatDoor

namespace Go.Proofs.YtnafemcholkmlaaGreatDoor
open Go Go.RowKit Go.Proofs

/-- Runes, as values. -/
def vR (xs : List Int) : List Value := xs.map (Value.int .i32)
theorem vR_len (xs : List Int) : (vR xs).length = xs.length := by simp [vR]
theorem vR_get (xs : List Int) (j : Nat) (h : j < xs.length) : (vR xs)[j]? = some (.int .i32 xs[j]) := by simp [vR, h]
/-- A slice of runes in a row of its own. -/
abbrev OwnR (w : World) (B : Nat) (v : Value) (xs : List Int) : Prop := w.ownsRow B 21 1 v xs.length (vR xs)

theorem cmp_isNaN (x : Int) (w : World) : Calls Tryz.prog 89 #[.int .i32 x] w fun e w' => e = .returned (.bool false) ∧ w = w' := by
  go_enter Tryz.func89, Tryz.ntmps89
  go_wp2
  go_ret
  exact ⟨rfl, rfl⟩
theorem cmp_Less (x y : Int) (w : World) : Calls Tryz.prog 120 #[.int .i32 x, .int .i32 y] w fun e w' => e = .returned (.bool (decide (x < y))) ∧ w = w' := by
  go_enter Tryz.func120, Tryz.ntmps120
  go_wp2_with (go_at_call 89; refine (cmp_isNaN _ _).mono ?_; rintro e w' ⟨rfl, rfl⟩)
  go_ret
  exact ⟨rfl, rfl⟩

theorem take_has {xs : List Int} {x : Int} {k : Nat} (h : k < xs.length) (hm : (xs.take k).contains x = false) (hx : xs[k] ≠ x) : (xs.take (k + 1)).contains x = false := by
  rw [List.take_succ_eq_append_getElem h]
  simp only [List.contains_eq_mem, List.mem_append, List.mem_singleton, decide_eq_false_iff_not, not_or] at hm ⊢
  exact ⟨hm, fun e => hx e.symm⟩
/-- What Index hands back. -/
def IdxOut (xs : List Int) (x : Int) (w : World) (e : Ending) (w' : World) : Prop := (∃ n : Int, e = .returned (.int .i64 n) ∧ decide (0 ≤ n) = xs.contains x) ∧ w' = w
theorem idx_mk {xs : List Int} {x n : Int} {w : World} (h : decide (0 ≤ n) = xs.contains x) : IdxOut xs x w (.returned (.int .i64 n)) w := ⟨⟨n, rfl, h⟩, rfl⟩
set_option maxHeartbeats 1000000 in
theorem runes_Index (xs : List Int) (b o c : Nat) (x : Int) (w : World) (hc : ∀ k (h : k < xs.length), w.cell? ⟨b, o + k, none⟩ = some (.int .i32 xs[k])) (hn : xs.length ≤ 1000000) :
    Calls Tryz.prog 84 #[.slice (some ⟨b, o, none⟩) xs.length c, .int .i32 x] w (IdxOut xs x w) := by
  have HC := Lib.hid hc; clear hc
  go_enter Tryz.func84, Tryz.ntmps84
  go_wp2_with fail
  go_loop [8] (fun i => ∃ k : Nat, k ≤ xs.length ∧ i = .int .i64 k ∧ (xs.take k).contains x = false) (fun i => xs.length - (intOf i).toNat)
  case atStart => exact ⟨0, Nat.zero_le _, rfl, rfl⟩
  case round =>
    obtain ⟨k, hk, rfl, hm⟩ := hrel
    have HM := Lib.hid hm; clear hm
    by_cases hlt : k < xs.length
    · have g := HC.out k hlt
      obtain ⟨y, hy⟩ : ∃ y, xs[k] = y := ⟨_, rfl⟩
      rw [hy] at g
      have HY := Lib.hid hy; clear hy
      by_cases hxy : x = y
      · subst hxy
        have e : (x == x) = true := by simp
        go_wp2_with fail
        go_ret
        refine idx_mk ?_
        have : xs.contains x = true := by
          simp only [List.contains_eq_mem, decide_eq_true_eq]
          have := List.getElem_mem hlt; rw [HY.out] at this; exact this
        rw [this]; simp
      · have e : (x == y) = false := by simpa using hxy
        go_wp2_with fail
        go_round
        case rel => exact ⟨k + 1, hlt, by go_num, take_has hlt HM.out (by rw [HY.out]; exact fun h => hxy h.symm)⟩
        case measure => simp [intOf]; omega
    · obtain rfl : k = xs.length := by omega
      rw [List.take_length] at HM
      go_wp2_with fail
      go_ret
      exact idx_mk (by rw [HM.out]; rfl)
/-- What Contains hands back. -/
theorem runes_Contains (xs : List Int) (b o c : Nat) (x : Int) (w : World) (hc : ∀ k (h : k < xs.length), w.cell? ⟨b, o + k, none⟩ = some (.int .i32 xs[k])) (hn : xs.length ≤ 1000000) :
    Calls Tryz.prog 57 #[.slice (some ⟨b, o, none⟩) xs.length c, .int .i32 x] w fun e w' => e = .returned (.bool (xs.contains x)) ∧ w' = w := by
  have HI := Lib.hid (runes_Index xs b o c x w hc hn); clear hc
  go_enter Tryz.func57, Tryz.ntmps57
  go_wp2_with fail
  refine (HI.out).mono ?_
  rintro e w' ⟨⟨n, rfl, hd⟩, rfl⟩
  have HD := Lib.hid hd; clear hd
  go_wp2_with fail
  go_ret
  exact ⟨by rw [← HD.out]; rfl, rfl⟩

/-- A row of runes that was sorted: the same runes; nothing else was written. -/
def SortedR (w : World) (B g cap : Nat) (xs : List Int) (w' : World) : Prop := ∃ ys : List Int, ys.Perm xs ∧ w'.ownsRow B 21 1 (.slice (some ⟨g, 0, none⟩) xs.length cap) xs.length (vR ys) ∧ w.grownBy w' (some g)
theorem swap_perm (ys : List Int) (j : Nat) (h0 : 0 < j) (h : j < ys.length) : ((ys.set (j - 1) (ys[j])).set j (ys[j - 1]'(by omega))).Perm ys := by
  obtain ⟨i, rfl⟩ : ∃ i, j = i + 1 := ⟨j - 1, by omega⟩
  simp only [Nat.add_sub_cancel]
  have e : ys = ys.take i ++ (ys[i]'(by omega)) :: ys[i + 1] :: ys.drop (i + 2) := by
    rw [List.getElem_cons_drop, List.getElem_cons_drop, List.take_append_drop]
  have e2 : (ys.set i ys[i + 1]).set (i + 1) (ys[i]'(by omega)) = ys.take i ++ ys[i + 1] :: (ys[i]'(by omega)) :: ys.drop (i + 2) := by
    apply List.ext_getElem?
    intro k
    rw [List.getElem?_set, List.getElem?_set]
    by_cases k1 : i + 1 = k
    · subst k1
      rw [List.getElem?_append_right (by simp; omega)]
      simp [List.length_take, Nat.min_eq_left (show i ≤ ys.length by omega), h]
    · by_cases k2 : i = k
      · subst k2
        rw [List.getElem?_append_right (by rw [List.length_take]; omega)]
        simp [List.length_take, Nat.min_eq_left (show i ≤ ys.length by omega), show i < ys.length by omega]
      · rw [if_neg k1, if_neg k2]
        by_cases k3 : k < i
        · rw [List.getElem?_append_left (by simp; omega), List.getElem?_take_of_lt k3]
        · rw [List.getElem?_append_right (by simp; omega)]
          obtain ⟨m, rfl⟩ : ∃ m, k = i + 2 + m := ⟨k - (i + 2), by omega⟩
          simp [List.length_take, Nat.min_eq_left (show i ≤ ys.length by omega), show i + 2 + m - i = m + 1 + 1 by omega]
  rw [e2]
  conv => rhs; rw [e]
  exact List.Perm.append_left _ (List.Perm.swap _ _ _)
end Go.Proofs.YtnafemcholkmlaaGreatDoor

namespace Go.Proofs.YtnafemcholkmlaaGreatDoor
open Go Go.RowKit Go.Proofs

theorem cmp_LessQ (x y : Int) (b : Bool) (h : decide (x < y) = b) (w : World) : Calls Tryz.prog 120 #[.int .i32 x, .int .i32 y] w fun e w' => e = .returned (.bool b) ∧ w' = w :=
  (cmp_Less x y w).mono fun _ _ ⟨he, hw⟩ => ⟨by rw [he, h], hw.symm⟩
/-- The row within the sort. -/
structure InsAt (w : World) (B g cap : Nat) (xs : List Int) (W : World) (ys : List Int) : Prop where
  p : ys.Perm xs
  r : W.ownsRow B 21 1 (.slice (some ⟨g, 0, none⟩) xs.length cap) xs.length (vR ys)
  g : w.grownBy W (some g)
theorem InsAt.cell {w W : World} {B g cap : Nat} {xs ys : List Int} (h : InsAt w B g cap xs W ys) (j : Nat) (hj : j < xs.length) : W.cell? ⟨g, j, none⟩ = some (.int .i32 (ys[j]'(by rw [h.p.length_eq]; exact hj))) := by
  rw [h.r.cellAt j (by omega), vR_get ys j (by rw [h.p.length_eq]; exact hj)]
theorem InsAt.look {w W : World} {B g cap : Nat} {xs ys : List Int} (h : InsAt w B g cap xs W ys) (j : Nat) (hj : j < xs.length) : ∃ x, ys[j]? = some x ∧ W.cell? ⟨g, j, none⟩ = some (.int .i32 x) :=
  ⟨_, List.getElem?_eq_getElem (by rw [h.p.length_eq]; exact hj), h.cell j hj⟩
theorem swap_at {ys : List Int} {k : Nat} {x y : Int} (h1 : ys[k + 1]? = some x) (h0 : ys[k]? = some y) : ((ys.set k x).set (k + 1) y).Perm ys := by
  obtain ⟨l1, e1⟩ := List.getElem?_eq_some_iff.1 h1
  obtain ⟨l0, e0⟩ := List.getElem?_eq_some_iff.1 h0
  have := swap_perm ys (k + 1) (by omega) l1
  simp only [Nat.add_sub_cancel] at this
  rw [e1, e0] at this
  exact this
theorem InsAt.swap {w W : World} {B g cap : Nat} {xs ys : List Int} (h : InsAt w B g cap xs W ys) {k : Nat} {x y : Int} (h1 : ys[k + 1]? = some x) (h0 : ys[k]? = some y) :
    InsAt w B g cap xs ((W.setCell ⟨g, k + 1, none⟩ (.int .i32 y)).setCell ⟨g, k, none⟩ (.int .i32 x)) ((ys.set k x).set (k + 1) y) := by
  have s1 := h.r.stored (k + 1) (.int .i32 y)
  have s2 := s1.1.stored k (.int .i32 x)
  refine ⟨(swap_at h1 h0).trans h.p, ?_, grownBy_trans h.g (grownBy_trans s1.2 s2.2)⟩
  have e : vR ((ys.set k x).set (k + 1) y) = ((vR ys).set (k + 1) (.int .i32 y)).set k (.int .i32 x) := by
    unfold vR
    rw [List.set_comm _ _ (by omega), List.map_set, List.map_set]
  rw [e]
  exact s2.1
theorem InsAt.drew1 {w W : World} {B g cap : Nat} {xs ys : List Int} (h : InsAt w B g cap xs W ys) : InsAt w B g cap xs W.drew ys := ⟨h.p, h.r, grownBy_trans h.g (grownBy_drew _ _)⟩
theorem InsAt.drew {w W : World} {B g cap : Nat} {xs ys : List Int} (h : InsAt w B g cap xs W ys) (n : Nat) : InsAt w B g cap xs (W.drewN n) ys := ⟨h.p, h.r, grownBy_trans h.g (grownBy_drewN _ _ _)⟩

set_option maxRecDepth 100000 in
set_option maxHeartbeats 2000000 in
theorem insertion_runes (xs : List Int) (B g cap : Nat) (w : World) (h : w.ownsRow B 21 1 (.slice (some ⟨g, 0, none⟩) xs.length cap) xs.length (vR xs)) (h0 : 0 < xs.length) (hcap : xs.length ≤ cap) (hcm : cap ≤ 9223372036854775807) :
    Calls Tryz.prog 114 #[.slice (some ⟨g, 0, none⟩) xs.length cap, .int .i64 0, .int .i64 xs.length] w fun e w' => e = .returned (.tuple #[]) ∧ SortedR w B g cap xs w' := by
  have HA := Lib.hid (show InsAt w B g cap xs w xs from ⟨List.Perm.refl _, h, grownBy_refl _ _⟩); clear h
  go_enter Tryz.func114, Tryz.ntmps114
  go_wp2_with fail
  go_loopw [6] (fun iv W => ∃ (i : Nat) (ys : List Int), 1 ≤ i ∧ i ≤ xs.length ∧ iv = .int .i64 i ∧ InsAt w B g cap xs W ys) (fun iv _ => xs.length - (intOf iv).toNat)
  case atStart => exact ⟨1, xs, Nat.le_refl _, h0, rfl, HA.out⟩
  case round =>
    obtain ⟨i, ys, hi1, hi2, rfl, hA⟩ := hrel
    have A1 := Lib.hid hA; clear hA
    obtain ⟨wo, hwo⟩ : ∃ wo : World, wo = wr := ⟨_, rfl⟩
    by_cases hlt : i < xs.length
    · go_wp2_with fail
      go_loopw [7] (fun jv W => ∃ (j : Nat) (ys : List Int), j ≤ i ∧ jv = .int .i64 j ∧ InsAt w B g cap xs W ys) (fun jv _ => (intOf jv).toNat)
      case atStart => exact ⟨i, ys, Nat.le_refl _, rfl, A1.out⟩
      case round =>
        obtain ⟨j, zs, hj, rfl, hZ⟩ := hrel
        have Z1 := Lib.hid hZ; clear hZ
        by_cases hj0 : j = 0
        · subst hj0
          have d0 : decide ((0 : Int) < 0) = false := by decide
          go_wp2_with fail
          go_quiet (fail)
          go_wp2_with fail
          go_roundw
          case rel => exact ⟨i + 1, zs, by omega, hlt, by go_num, Z1.out.drew _⟩
          case measure => simp [intOf]; omega
        · obtain ⟨k, rfl⟩ : ∃ k, j = k + 1 := ⟨j - 1, by omega⟩
          obtain ⟨x, hx, g1⟩ := Z1.out.look (k + 1) (by omega)
          obtain ⟨y, hy, g0⟩ := Z1.out.look k (by omega)
          have f1 := Z1.out.r.frozenAt (k + 1)
          have f0 := Z1.out.r.frozenAt k
          have hk : k < xs.length := by omega
          have hk1 : k + 1 < xs.length := by omega
          have hk2 : (k : Int) + 1 < (xs.length : Int) := by omega
          have hk3 : (k : Int) < (xs.length : Int) := by omega
          have hk4 : (0 : Int) ≤ (k : Int) + 1 := by omega
          have hk5 : (0 : Int) ≤ (k : Int) := by omega
          have hk6 : ((k : Int) + 1).toNat = k + 1 := by omega
          have hk7 : IntKind.i64.wrap (k : Int) = (k : Int) := IntWalk.i64_in _ (by omega)
          have HX := Lib.hid hx; have HY := Lib.hid hy
          clear hx hy
          have d0 : decide ((0 : Int) < (k : Int) + 1) = true := decide_eq_true (by omega)
          by_cases hxy : x < y
          · have dx : decide (x < y) = true := decide_eq_true hxy
            go_wp2_with fail
            go_quiet ((go_at_call 120; exact Calls.quiet_of_same (cmp_LessQ _ _ _ dx _)))
            go_wp2_with fail
            generalize hW5 : wr.drewN _ = W5
            have Z5 := Lib.hid (show InsAt w B g cap xs W5 zs by rw [← hW5]; exact Z1.out.drew _)
            have e1 : W5.cell? ⟨g, k + 1, none⟩ = some (.int .i32 x) := by rw [← hW5]; exact g1
            have e0 : W5.cell? ⟨g, k, none⟩ = some (.int .i32 y) := by rw [← hW5]; exact g0
            have u1 : W5.frozen? ⟨g, k + 1, none⟩ = false := by rw [← hW5]; exact f1
            have u0 : W5.frozen? ⟨g, k, none⟩ = false := by rw [← hW5]; exact f0
            clear hW5 g1 g0 f1 f0
            go_region
            have Z7 := Lib.hid (InsAt.drew1 (Z5.out.swap HX.out HY.out))
            clear e1 e0 u1 u0
            go_wp2_with fail
            go_roundw
            case rel => exact ⟨k, _, by omega, by go_num, Z7.out⟩
            case measure => simp [intOf]; try omega
          · have dx : decide (x < y) = false := decide_eq_false hxy
            go_wp2_with fail
            go_quiet ((go_at_call 120; exact Calls.quiet_of_same (cmp_LessQ _ _ _ dx _)))
            go_wp2_with fail
            go_roundw
            case rel => exact ⟨i + 1, zs, by omega, hlt, by go_num, Z1.out.drew _⟩
            case measure => simp [intOf]; omega
    · obtain rfl : i = xs.length := by omega
      go_wp2_with fail
      go_end0
      exact ⟨rfl, ys, A1.out.p, A1.out.r, A1.out.g⟩

set_option maxRecDepth 100000 in
set_option maxHeartbeats 2000000 in
theorem pdq_runes (xs : List Int) (B g cap : Nat) (l : Int) (w : World) (h : w.ownsRow B 21 1 (.slice (some ⟨g, 0, none⟩) xs.length cap) xs.length (vR xs)) (h0 : 0 < xs.length) (hn : xs.length ≤ 12) (hcap : xs.length ≤ cap) (hcm : cap ≤ 9223372036854775807) :
    Calls Tryz.prog 85 #[.slice (some ⟨g, 0, none⟩) xs.length cap, .int .i64 0, .int .i64 xs.length, .int .i64 l] w fun e w' => e = .returned (.tuple #[]) ∧ SortedR w B g cap xs w' := by
  have HI := Lib.hid (insertion_runes xs B g cap w h h0 hcap hcm); clear h
  have hle : (xs.length : Int) ≤ 12 := by omega
  go_enter Tryz.func85, Tryz.ntmps85
  go_wp2_with fail
  go_loopg [1, 2] 1 (fun k a b W => a = .int .i64 0 ∧ b = .int .i64 xs.length ∧ W = w)
  case atStart => exact ⟨rfl, rfl, rfl⟩
  case round =>
    obtain ⟨rfl, rfl, rfl⟩ := hrel
    go_wp2_with fail
    refine (HI.out).mono ?_
    rintro e w1 ⟨rfl, hS⟩
    have HS := Lib.hid hS; clear hS
    go_wp2_with fail
    refine ⟨rfl, .tuple #[], by simp [results, Tryz.results85], rfl, HS.out⟩
theorem sort_runes (xs : List Int) (B g cap : Nat) (w : World) (h : w.ownsRow B 21 1 (.slice (some ⟨g, 0, none⟩) xs.length cap) xs.length (vR xs)) (h0 : 0 < xs.length) (hn : xs.length ≤ 12) (hcap : xs.length ≤ cap) (hcm : cap ≤ 9223372036854775807) :
    Calls Tryz.prog 58 #[.slice (some ⟨g, 0, none⟩) xs.length cap] w fun e w' => e = .returned (.tuple #[]) ∧ SortedR w B g cap xs w' := by
  have HP := Lib.hid (fun l => pdq_runes xs B g cap l w h h0 hn hcap hcm); clear h
  go_enter Tryz.func58, Tryz.ntmps58
  go_wp2_with fail
  refine (Tryz.bits_Len _ _ (by omega) (by omega)).mono ?_
  rintro e w1 ⟨rfl, rfl⟩
  go_wp2_with fail
  refine (HP.out _).mono ?_
  rintro e w1 ⟨rfl, hS⟩
  have HS := Lib.hid hS; clear hS
  go_wp2_with fail
  go_end0
  exact ⟨rfl, HS.out⟩
end Go.Proofs.YtnafemcholkmlaaGreatDoor

namespace Go.Proofs.YtnafemcholkmlaaGreatDoor
open Go

/-- The stretches of letters: the first, the last, how far the small ones are above. -/
def stretchL : List (Int × Int × Int) := [(65, 90, 32), (192, 214, 32), (216, 222, 32), (913, 929, 32), (931, 937, 32), (1040, 1071, 32), (376, 376, -121), (7838, 7838, -7615), (75, 75, 8415), (83, 83, 300), (197, 197, 8294), (924, 924, -743), (931, 931, 31)]
def addU (out : List Int) (x : Int) : List Int := if out.contains x then out else out ++ [x]
def stepU (x : Int) (out : List Int) (s : Int × Int × Int) : List Int :=
  let o1 := if s.1 ≤ x ∧ x ≤ s.2.1 then addU out (x + s.2.2) else out
  if s.1 ≤ x - s.2.2 ∧ x - s.2.2 ≤ s.2.1 then addU o1 (x - s.2.2) else o1
def roundU (x : Int) (out : List Int) : List Int := stretchL.foldl (stepU x) out
def orbU : Nat → Nat → List Int → List Int
  | 0, _, _ => []
  | n + 1, i, out => match out[i]? with
    | none => out
    | some x => orbU n (i + 1) (roundU x out)
def orbF (c : Int) : List Int := orbU 10 0 [c]

/-- The document's groups of three, and two. -/
def groupsL : List (List Int) := [[75, 107, 8490], [83, 115, 383], [197, 229, 8491], [181, 924, 956], [931, 962, 963], [223, 7838], [255, 376]]
def greatB (c : Int) : Bool := !(c == 75 || c == 83 || c == 197 || c == 924) && ((65 ≤ c && c ≤ 90) || (192 ≤ c && c ≤ 214) || (216 ≤ c && c ≤ 222) || (913 ≤ c && c ≤ 929) || (932 ≤ c && c ≤ 937) || (1040 ≤ c && c ≤ 1071))
def orbL (c : Int) : List Int := match groupsL.find? (·.contains c) with
  | some l => l
  | none => if greatB c then [c, c + 32] else if 32 ≤ c && greatB (c - 32) then [c - 32, c] else [c]

/-- All letters. -/
def lettersL : List Int := stretchL.flatMap fun s => (List.range (s.2.1 - s.1 + 1).toNat).flatMap fun (k : Nat) => [s.1 + (k : Int), s.1 + (k : Int) + s.2.2]
def goodB (c : Int) : Bool := !(orbF c).isEmpty && decide ((orbF c).length ≤ 3) && (orbF c).all (fun x => decide (0 ≤ x) && decide (x ≤ 1114111)) && (orbF c).isPerm (orbL c)
set_option maxRecDepth 100000 in
theorem letters_good : lettersL.all goodB = true := by kernel_rfl
def letterB (c : Int) : Bool := stretchL.any fun s => (decide (s.1 ≤ c) && decide (c ≤ s.2.1)) || (decide (s.1 ≤ c - s.2.2) && decide (c - s.2.2 ≤ s.2.1))
theorem letter_mem {c : Int} (h : letterB c = true) : c ∈ lettersL := by
  unfold letterB at h
  rw [List.any_eq_true] at h
  obtain ⟨s, hs, h⟩ := h
  unfold lettersL
  rw [List.mem_flatMap]
  refine ⟨s, hs, ?_⟩
  rw [List.mem_flatMap]
  simp only [Bool.or_eq_true, Bool.and_eq_true, decide_eq_true_eq] at h
  rcases h with h | h
  · refine ⟨(c - s.1).toNat, by rw [List.mem_range]; omega, ?_⟩
    have : s.1 + ((c - s.1).toNat : Int) = c := by omega
    rw [this]; simp
  · refine ⟨(c - s.2.2 - s.1).toNat, by rw [List.mem_range]; omega, ?_⟩
    have : s.1 + ((c - s.2.2 - s.1).toNat : Int) + s.2.2 = c := by omega
    rw [this]; simp
theorem fold_same {α β : Type} (f : β → α → β) (b : β) : ∀ l : List α, (∀ a ∈ l, f b a = b) → l.foldl f b = b
  | [], _ => rfl
  | a :: l, h => by
    rw [List.foldl_cons, h a List.mem_cons_self]
    exact fold_same f b l fun x hx => h x (List.mem_cons_of_mem _ hx)
theorem round_none {c : Int} (h : letterB c = false) (out : List Int) : roundU c out = out := by
  unfold roundU
  refine fold_same _ _ _ fun s hs => ?_
  unfold letterB at h
  rw [List.any_eq_false] at h
  have := h s hs
  simp only [Bool.or_eq_true, Bool.and_eq_true, decide_eq_true_eq, not_or] at this
  unfold stepU
  simp only [this, if_false]
theorem orbF_none {c : Int} (h : letterB c = false) : orbF c = [c] := by
  unfold orbF
  show orbU 9 1 (roundU c [c]) = [c]
  rw [round_none h]
  rfl
theorem groups_letters : (groupsL.all fun l => l.all letterB) = true := by kernel_rfl
theorem great_letter {c : Int} (h : greatB c = true) : letterB c = true ∧ letterB (c + 32) = true := by
  unfold greatB at h
  simp only [Bool.and_eq_true, Bool.or_eq_true, decide_eq_true_eq] at h
  unfold letterB stretchL
  simp only [List.any_cons, List.any_nil, Bool.or_false, Bool.or_eq_true, Bool.and_eq_true, decide_eq_true_eq]
  omega
theorem orbL_none {c : Int} (h : letterB c = false) : orbL c = [c] := by
  unfold orbL
  have hg : groupsL.find? (·.contains c) = none := by
    rw [List.find?_eq_none]
    intro l hl hc
    have h1 := List.all_eq_true.1 (List.all_eq_true.1 groups_letters l hl) c (by simpa using hc)
    rw [h] at h1; cases h1
  rw [hg]
  simp only
  have g1 : greatB c = false := by
    rw [Bool.eq_false_iff]; intro e
    have := (great_letter e).1; rw [h] at this; cases this
  have g2 : greatB (c - 32) = false := by
    rw [Bool.eq_false_iff]; intro e
    have := (great_letter e).2; rw [Int.sub_add_cancel, h] at this; cases this
  rw [g1, g2]
  simp
theorem orb_good {c : Int} (h0 : 0 ≤ c) (h1 : c ≤ 1114111) : orbF c ≠ [] ∧ (orbF c).length ≤ 3 ∧ (∀ x ∈ orbF c, 0 ≤ x ∧ x ≤ 1114111) ∧ (orbF c).Perm (orbL c) := by
  cases hl : letterB c with
  | false =>
    rw [orbF_none hl, orbL_none hl]
    exact ⟨by simp, by simp, by simp; omega, List.Perm.refl _⟩
  | true =>
    have hg := List.all_eq_true.1 letters_good c (letter_mem hl)
    unfold goodB at hg
    simp only [Bool.and_eq_true, Bool.not_eq_true', decide_eq_true_eq, List.all_eq_true] at hg
    refine ⟨?_, hg.1.1.2, hg.1.2, List.isPerm_iff.1 hg.2⟩
    intro e
    have := hg.1.1.1
    rw [e] at this; cases this
/-- What comes behind grows. -/
theorem addU_prefix (out : List Int) (x : Int) : out <+: addU out x := by
  unfold addU
  split
  · exact List.prefix_rfl
  · exact List.prefix_append _ _
theorem stepU_prefix (x : Int) (out : List Int) (s : Int × Int × Int) : out <+: stepU x out s := by
  unfold stepU
  have h1 : out <+: (if s.1 ≤ x ∧ x ≤ s.2.1 then addU out (x + s.2.2) else out) := by
    split
    · exact addU_prefix _ _
    · exact List.prefix_rfl
  simp only
  split
  · exact h1.trans (addU_prefix _ _)
  · exact h1
theorem foldU_prefix (x : Int) : ∀ (l : List (Int × Int × Int)) (out : List Int), out <+: l.foldl (stepU x) out
  | [], _ => List.prefix_rfl
  | s :: l, out => (stepU_prefix x out s).trans (foldU_prefix x l _)
theorem orbU_prefix : ∀ (n i : Nat) (out F : List Int), orbU n i out = F → F ≠ [] → out <+: F
  | 0, _, _, F, h, hF => absurd h.symm hF
  | n + 1, i, out, F, h, hF => by
    unfold orbU at h
    cases hx : out[i]? with
    | none => rw [hx] at h; rw [← h]; exact List.prefix_rfl
    | some x =>
      rw [hx] at h
      exact (foldU_prefix x stretchL out).trans (orbU_prefix n (i + 1) _ F h hF)
theorem prefix_get {a b : List Int} (h : a <+: b) {i : Nat} {x : Int} (hx : a[i]? = some x) : b[i]? = some x := by
  obtain ⟨t, rfl⟩ := h
  rw [List.getElem?_append_left (List.getElem?_eq_some_iff.1 hx).1, hx]
theorem stretch_bounds : ∀ s ∈ stretchL, 0 ≤ s.1 ∧ s.1 ≤ 10000 ∧ 0 ≤ s.2.1 ∧ s.2.1 ≤ 10000 ∧ -10000 ≤ s.2.2 ∧ s.2.2 ≤ 10000 := by decide
end Go.Proofs.YtnafemcholkmlaaGreatDoor

namespace Go.Proofs.YtnafemcholkmlaaGreatDoor
open Go Go.RowKit Go.Proofs

/-- All but some blocks kept. -/
structure Kept (w w' : World) (bad : Nat → Prop) : Prop where
  os : w'.os = w.os
  tape : w'.tape = w.tape
  output : w'.output = w.output
  size : w.heap.size ≤ w'.heap.size
  block : ∀ k, k < w.heap.size → ¬ bad k → w'.heap[k]? = w.heap[k]?
theorem Kept.refl (w : World) (bad : Nat → Prop) : Kept w w bad := ⟨rfl, rfl, rfl, Nat.le_refl _, fun _ _ _ => rfl⟩
theorem Kept.of_grown {w w' : World} {row : Option Nat} {bad : Nat → Prop} (h : w.grownBy w' row) (hb : ∀ k, row = some k → bad k) : Kept w w' bad :=
  ⟨h.os, h.tape, h.output, h.size, fun k hk hn => h.block k hk (fun e => hn (hb k e.symm))⟩
theorem Kept.trans {a b c : World} {bad : Nat → Prop} (h : Kept a b bad) (k : Kept b c bad) : Kept a c bad :=
  ⟨k.os.trans h.os, k.tape.trans h.tape, k.output.trans h.output, Nat.le_trans h.size k.size, fun i hi hn => (k.block i (Nat.lt_of_lt_of_le hi h.size) hn).trans (h.block i hi hn)⟩
theorem Kept.blk {w w' : World} {bad : Nat → Prop} {b : Nat} {cs : List Value} {t : TypeId} (h : Kept w w' bad) (hb : Blk w b cs t) (hn : ¬ bad b) : Blk w' b cs t := Blk.of_block hb (h.block b hb.lt hn)
theorem Kept.below {w w' : World} {B : Nat} {bad : Nat → Prop} (h : Kept w w' bad) (hb : B ≤ w.heap.size) (hn : ∀ k, bad k → B ≤ k) : Below B w w' :=
  ⟨h.os, h.tape, h.output, h.size, fun k hk => h.block k (Nat.lt_of_lt_of_le hk hb) (fun e => by have := hn k e; omega)⟩

/-- What the closure add leaves. -/
def AddOut (w : World) (bo B : Nat) (v : Value) (out : List Int) (e : Ending) (w' : World) : Prop :=
  e = .returned (.tuple #[]) ∧ ∃ v' : Value, Blk w' bo [v'] 33 ∧ OwnR w' B v' out ∧ v'.ownBlock ≠ some bo ∧ (v'.ownBlock = v.ownBlock ∨ ∃ k, v'.ownBlock = some k ∧ w.heap.size ≤ k) ∧ Kept w w' (fun k => k = bo ∨ v.ownBlock = some k)
theorem infoI32 : (Tryz.prog.info? 21).map (fun i => (i.zero, i.size, i.bytes)) = some (some (.int .i32 0), 1, 4) := by kernel_rfl
theorem vR_one (xs : List Int) : ∀ u ∈ vR xs, u.oneCell' = true := by
  intro u hu
  unfold vR at hu
  rw [List.mem_map] at hu
  obtain ⟨x, _, rfl⟩ := hu
  rfl
set_option maxRecDepth 100000 in
set_option maxHeartbeats 2000000 in
theorem orbit_add_old (x : Int) (bo g cap : Nat) (out : List Int) (w : World) (B : Nat) (hb : Blk w bo [.slice (some ⟨g, 0, none⟩) out.length cap] 33) (ho : OwnR w B (.slice (some ⟨g, 0, none⟩) out.length cap) out) (hne : g ≠ bo) (hl : out.length ≤ 1000) (hx : out.contains x = true) :
    Calls Tryz.prog 56 #[.int .i32 x, .pointer (some ⟨bo, 0, none⟩)] w (AddOut w bo B (.slice (some ⟨g, 0, none⟩) out.length cap) out) := by
  have HO := Lib.hid ho; have HB := Lib.hid hb
  have c0 := Blk.cell hb (j := 0) rfl
  have HC := Lib.hid (runes_Contains out g 0 cap x w (fun k hk => by rw [Nat.zero_add, ho.cellAt k (by omega), vR_get out k hk]) (by omega))
  clear hb ho
  go_enter Tryz.func56, Tryz.ntmps56
  go_wp2_with fail
  refine (HC.out).mono ?_
  rintro e w1 ⟨rfl, rfl⟩
  rw [hx]
  go_wp2_with fail
  go_end0
  exact ⟨rfl, _, HB.out, HO.out, by show (some g) ≠ some bo; exact ne_some hne, .inl rfl, Kept.refl _ _⟩
set_option maxRecDepth 100000 in
set_option maxHeartbeats 2000000 in
theorem orbit_add_new (x : Int) (bo g cap : Nat) (out : List Int) (w : World) (B : Nat) (hb : Blk w bo [.slice (some ⟨g, 0, none⟩) out.length cap] 33) (ho : OwnR w B (.slice (some ⟨g, 0, none⟩) out.length cap) out) (hne : g ≠ bo) (hl : out.length ≤ 1000) (hx : out.contains x = false) :
    Calls Tryz.prog 56 #[.int .i32 x, .pointer (some ⟨bo, 0, none⟩)] w (AddOut w bo B (.slice (some ⟨g, 0, none⟩) out.length cap) (out ++ [x])) := by
  obtain ⟨i0, hi, hz0, hz1, hz2⟩ := info_parts infoI32
  have HO := Lib.hid ho; have HB := Lib.hid hb
  have c0 := Blk.cell hb (j := 0) rfl
  have f0 := hb.frozen 0
  have hlt := hb.lt
  have HC := Lib.hid (runes_Contains out g 0 cap x w (fun k hk => by rw [Nat.zero_add, ho.cellAt k (by omega), vR_get out k hk]) (by omega))
  have hBg := ho.lt g rfl
  clear hb ho
  go_enter Tryz.func56, Tryz.ntmps56
  go_wp2_with fail
  refine (HC.out).mono ?_
  rintro e w1 ⟨rfl, rfl⟩
  rw [hx]
  go_wp2_with (at_builtin; refine wpList_append_own_at _ rfl _ _ 33 rfl B 21 i0 (.int .i32 0) 1 4 Tryz.underlying33 hi hz0 hz1 hz2 rfl (by decide) (.slice (some ⟨g, 0, none⟩) out.length cap) out.length (vR out) rfl (HO.out.alloc (.cells #[.int .i32 x] 21)) ⟨w1.heap.size, 0, none⟩ 1 1 [.int .i32 x] rfl rfl (cell_one_new _ _ _) (by intro u hu; rw [List.mem_singleton] at hu; subst hu; rfl) (by unfold maxLen; omega) (by omega) (by simp; omega) ?_; intro v' w2 hown hgrow hiff)
  intro hat
  clear hiff
  obtain ⟨g2, cap2, rfl, hgb, hgl⟩ := World.ownsRow.form hown (Nat.succ_pos out.length)
  have B2 := Lib.hid ((HB.out.alloc (.cells #[.int .i32 x] 21)).grown hgrow (fun e => hne (Option.some.inj e).symm))
  have c2 := Blk.cell B2.out (j := 0) rfl
  have f2 := B2.out.frozen 0
  have HW := Lib.hid hown
  have HG := Lib.hid hgrow
  have HA := Lib.hid hat
  clear hown hgrow hat c0 f0
  go_wp2_with fail
  go_end0
  have hz2 := HG.out.size
  have hg2 : g2 ≠ bo := by
    rcases HA.out with h | h
    · simp [Value.ownBlock] at h; omega
    · simp [Value.ownBlock] at h; omega
  refine ⟨rfl, .slice (some ⟨g2, 0, none⟩) (out.length + 1) cap2, B2.out.set 0 _, ?_, ?_, ?_, ?_⟩
  · unfold OwnR
    have := ownsRow_setCell_other (a := ⟨bo, 0, none⟩) HW.out (by simpa [Value.ownBlock] using hg2) (.slice (some ⟨g2, 0, none⟩) (out.length + 1) cap2)
    simpa [vR] using this
  · simpa [Value.ownBlock] using hg2
  · rcases HA.out with h | h
    · exact .inl h
    · exact .inr ⟨_, h, by omega⟩
  · have k1 : Kept w1 (w1.alloc (.cells #[.int .i32 x] 21)) (fun k => k = bo ∨ (Value.slice (some ⟨g, 0, none⟩) out.length cap).ownBlock = some k) := Kept.of_grown (grownBy_alloc w1 _ none) (by simp)
    exact (k1.trans (Kept.of_grown HG.out fun k h => .inr h)).trans (Kept.of_grown (grownBy_setCell w2 bo 0 _) fun k h => .inl (Option.some.inj h).symm)

theorem addU_pos {out : List Int} (x : Int) (h : 0 < out.length) : 0 < (addU out x).length := Nat.lt_of_lt_of_le h (addU_prefix out x).length_le
/-- The contract of the closure add. -/
theorem orbit_add (x : Int) (bo : Nat) (v : Value) (out : List Int) (w : World) (B : Nat) (hb : Blk w bo [v] 33) (ho : OwnR w B v out) (hne : v.ownBlock ≠ some bo) (h0 : 0 < out.length) (hl : out.length ≤ 1000) :
    Calls Tryz.prog 56 #[.int .i32 x, .pointer (some ⟨bo, 0, none⟩)] w (AddOut w bo B v (addU out x)) := by
  obtain ⟨g, cap, rfl, _, _⟩ := World.ownsRow.form ho h0
  have hg : g ≠ bo := fun e => hne (by rw [e]; rfl)
  unfold addU
  cases hx : out.contains x with
  | true => rw [if_pos rfl]; exact orbit_add_old x bo g cap out w B hb ho hg hl hx
  | false => rw [if_neg (by simp)]; exact orbit_add_new x bo g cap out w B hb ho hg hl hx
end Go.Proofs.YtnafemcholkmlaaGreatDoor

namespace Go.Proofs.YtnafemcholkmlaaGreatDoor
open Go Go.RowKit Go.Proofs

theorem addU_len (out : List Int) (x : Int) : (addU out x).length ≤ out.length + 1 := by
  unfold addU
  split
  · omega
  · simp
/-- The cells of the stretches. -/
def strC : List (Int × Int × Int) → List Value
  | [] => []
  | s :: l => .int .i32 s.1 :: .int .i32 s.2.1 :: .int .i32 s.2.2 :: strC l
theorem strC_get : ∀ (l : List (Int × Int × Int)) (j : Nat) (h : j < l.length), (strC l)[j * 3]? = some (.int .i32 l[j].1) ∧ (strC l)[j * 3 + 1]? = some (.int .i32 l[j].2.1) ∧ (strC l)[j * 3 + 2]? = some (.int .i32 l[j].2.2)
  | s :: l, 0, _ => by simp [strC]
  | s :: l, j + 1, h => by
    have := strC_get l j (by simpa using h)
    have e1 : (j + 1) * 3 = j * 3 + 1 + 1 + 1 := by omega
    rw [e1]
    simpa [strC] using this
set_option maxRecDepth 100000 in
theorem stretches_any (w : World) : Calls Tryz.prog 36 #[] w fun e w' => e = .returned (.slice (some ⟨w.heap.size, 0, none⟩) 13 13) ∧ w' = w.alloc (.cells (strC stretchL).toArray 70) := by
  go_enter Tryz.func36, Tryz.ntmps36
  go_wp2_with fail
  go_ret
  exact ⟨rfl, rfl⟩

/-- The frame of Orbit. -/
structure OrbAt (w W : World) (bo : Nat) (v : Value) (out : List Int) : Prop where
  b : Blk W bo [v] 33
  o : OwnR W w.heap.size v out
  ne : v.ownBlock ≠ some bo
  bl : Below w.heap.size w W
/-- The frame within a round over the stretches. -/
structure OrbIn (w W : World) (bo sh bs i : Nat) (x : Int) (s : Int × Int × Int) (v : Value) (out : List Int) : Prop where
  a : OrbAt w W bo v out
  st : Blk W sh (strC stretchL) 70
  b7 : Blk W bs [.int .i32 s.1, .int .i32 s.2.1, .int .i32 s.2.2] 70
  nsh : v.ownBlock ≠ some sh
  nb7 : v.ownBlock ≠ some bs
  x : out[i]? = some x
theorem OrbIn.add {w W W' : World} {bo sh bs i : Nat} {x y : Int} {s : Int × Int × Int} {v : Value} {out : List Int} {e : Ending} (h : OrbIn w W bo sh bs i x s v out) (hbo : w.heap.size ≤ bo) (d1 : sh ≠ bo) (d2 : bs ≠ bo) (ha : AddOut W bo w.heap.size v (addU out y) e W') :
    ∃ v', OrbIn w W' bo sh bs i x s v' (addU out y) := by
  obtain ⟨_, v', hb, ho, hne, hor, hk⟩ := ha
  have hz := h.a.bl.size
  refine ⟨v', ⟨⟨hb, ho, hne, h.a.bl.trans (hk.below hz ?_)⟩, hk.blk h.st ?_, hk.blk h.b7 ?_, ?_, ?_, prefix_get (addU_prefix out y) h.x⟩⟩
  · rintro k (rfl | hv)
    · exact hbo
    · exact (h.a.o.lt k hv).1
  · rintro (e | e)
    · exact d1 e
    · exact h.nsh e
  · rintro (e | e)
    · exact d2 e
    · exact h.nb7 e
  · intro e
    rcases hor with e2 | ⟨k, e2, hk2⟩
    · exact h.nsh (by rw [← e2]; exact e)
    · rw [e] at e2
      have := Option.some.inj e2
      have := h.st.lt
      omega
  · intro e
    rcases hor with e2 | ⟨k, e2, hk2⟩
    · exact h.nb7 (by rw [← e2]; exact e)
    · rw [e] at e2
      have := Option.some.inj e2
      have := h.b7.lt
      omega
theorem OrbIn.look {w W : World} {bo sh bs i : Nat} {x : Int} {s : Int × Int × Int} {v : Value} {out : List Int} (h : OrbIn w W bo sh bs i x s v out) :
    ∃ g cap, v = .slice (some ⟨g, 0, none⟩) out.length cap ∧ W.cell? ⟨g, i, none⟩ = some (.int .i32 x) ∧ i < out.length := by
  have hi := (List.getElem?_eq_some_iff.1 h.x).1
  obtain ⟨g, cap, rfl, _, _⟩ := World.ownsRow.form h.a.o (by omega)
  refine ⟨g, cap, rfl, ?_, hi⟩
  rw [h.a.o.cellAt i (by omega)]
  unfold vR
  rw [List.getElem?_map, h.x]; rfl
theorem OrbIn.drewN {w W : World} {bo sh bs i : Nat} {x : Int} {s : Int × Int × Int} {v : Value} {out : List Int} (h : OrbIn w W bo sh bs i x s v out) (n : Nat) : OrbIn w (W.drewN n) bo sh bs i x s v out :=
  ⟨⟨h.a.b, h.a.o, h.a.ne, below_drewN h.a.bl n⟩, h.st, h.b7, h.nsh, h.nb7, h.x⟩
/-- The result of Orbit. -/
def OrbOut (c : Int) (w : World) (e : Ending) (w' : World) : Prop := ∃ (v : Value) (out : List Int), e = .returned v ∧ out.Perm (orbL c) ∧ OwnR w' w.heap.size v out ∧ Below w.heap.size w w'

set_option maxHeartbeats 1000000 in
theorem orbit_out (c : Int) (w : World) (h : c < 0 ∨ 1114111 < c) : Calls Tryz.prog 38 #[.int .i32 c] w fun e w' => e = .returned (.slice none 0 0) ∧ w' = w := by
  by_cases h0 : c < 0
  · go_enter Tryz.func38, Tryz.ntmps38
    go_wp2_with fail
    go_ret
    exact ⟨rfl, rfl⟩
  · have h1 : 1114111 < c := by omega
    go_enter Tryz.func38, Tryz.ntmps38
    go_wp2_with fail
    go_ret
    exact ⟨rfl, rfl⟩

set_option maxRecDepth 100000 in
set_option maxHeartbeats 8000000 in
theorem tables_Orbit (c : Int) (w : World) (h0 : 0 ≤ c) (h1 : c ≤ 1114111) : Calls Tryz.prog 38 #[.int .i32 c] w (OrbOut c w) := by
  obtain ⟨F, hF⟩ : ∃ F, F = orbF c := ⟨_, rfl⟩
  have hG := orb_good h0 h1
  rw [← hF] at hG
  obtain ⟨hne, hlen, hin, hperm⟩ := hG
  have HNE := Lib.hid hne; have HL := Lib.hid hlen; have HIN := Lib.hid hin; have HP := Lib.hid hperm; have HF := Lib.hid hF
  have n0 : ¬ c < 0 := by omega
  have n1 : ¬ 1114111 < c := by omega
  obtain ⟨bo, hbo⟩ : ∃ bo, bo = w.heap.size + 1 := ⟨_, rfl⟩
  have HA := Lib.hid (show OrbAt w ((w.alloc (.cells #[.int .i32 c] 21)).alloc (.cells #[.slice (some ⟨w.heap.size, 0, none⟩) 1 1] 33)) bo (.slice (some ⟨w.heap.size, 0, none⟩) 1 1) [c] from by
    have z1 : (w.alloc (.cells #[.int .i32 c] 21)).heap.size = w.heap.size + 1 := World.size_alloc _ _
    refine ⟨?_, ?_, ?_, ?_⟩
    · rw [hbo, ← z1]; exact Blk.new _ [.slice (some ⟨w.heap.size, 0, none⟩) 1 1] 33
    · exact World.ownsRow.alloc (World.ownsRow_lit w #[.int .i32 c] 1 (Nat.le_refl _) (by decide) rfl) _
    · intro e; have e2 : w.heap.size = bo := Option.some.inj e; omega
    · exact ((Below.refl _ w).alloc (Nat.le_refl _) _).alloc (by simp) _)
  clear hne hlen hin hperm hF h0 h1
  go_enter Tryz.func38, Tryz.ntmps38
  go_wp2_with fail
  rw [← hbo]
  have HBO := Lib.hid hbo; clear hbo
  go_loopg [5] 10 (fun n iv W => ∃ (i : Nat) (v : Value) (out : List Int), iv = .int .i64 i ∧ OrbAt w W bo v out ∧ orbU n i out = F ∧ 0 < out.length)
  case atStart => exact ⟨0, _, [c], rfl, HA.out, HF.out.symm, by simp⟩
  case round =>
    obtain ⟨i, v, out, rfl, hA, hO, hpos⟩ := hrel
    have A1 := Lib.hid hA; have O1 := Lib.hid hO; clear hA hO
    obtain ⟨m, rfl⟩ : ∃ m, gk = m + 1 := by
      cases gk with
      | zero => exact absurd O1.out.symm HNE.out
      | succ m => exact ⟨m, rfl⟩
    have hol : out.length ≤ 3 := Nat.le_trans (orbU_prefix _ _ _ _ O1.out HNE.out).length_le HL.out
    obtain ⟨g, cap, rfl, _, _⟩ := World.ownsRow.form A1.out.o hpos
    have cb := Blk.cell A1.out.b (j := 0) rfl
    by_cases hlt : i < out.length
    · go_wp2_with fail
      refine (stretches_any _).mono ?_
      rintro e w2 ⟨rfl, rfl⟩
      obtain ⟨x, hx⟩ : ∃ x, out[i]? = some x := ⟨_, List.getElem?_eq_getElem hlt⟩
      have hxF : 0 ≤ x ∧ x ≤ 1114111 := HIN.out x (List.mem_of_getElem? (prefix_get (orbU_prefix _ _ _ _ O1.out HNE.out) hx))
      have hON : orbU m (i + 1) (roundU x out) = F := by
        have := O1.out
        unfold orbU at this
        rw [hx] at this
        exact this
      have hRL : (roundU x out).length ≤ 3 := Nat.le_trans (orbU_prefix _ _ _ _ hON HNE.out).length_le HL.out
      have hx0 := hxF.1
      have hx1 := hxF.2
      have HX := Lib.hid hx; have HON := Lib.hid hON; have HRL := Lib.hid hRL
      have hlg := A1.out.o.lt g rfl
      have S1 := Lib.hid (show Blk (wr.alloc (.cells (strC stretchL).toArray 70)) wr.heap.size (strC stretchL) 70 from Blk.new _ _ _)
      have A2 := Lib.hid (show OrbAt w (wr.alloc (.cells (strC stretchL).toArray 70)) bo (.slice (some ⟨g, 0, none⟩) out.length cap) out from ⟨A1.out.b.alloc _, World.ownsRow.alloc A1.out.o _, A1.out.ne, A1.out.bl.alloc A1.out.bl.size _⟩)
      have hsb : wr.heap.size ≠ bo := by have := A1.out.b.lt; omega
      have hsg : (Value.slice (some ⟨g, 0, none⟩) out.length cap).ownBlock ≠ some wr.heap.size := by intro e; have e2 : g = wr.heap.size := Option.some.inj e; omega
      have HSG := Lib.hid hsg
      generalize wr.alloc (.cells (strC stretchL).toArray 70) = W1 at S1 A2 ⊢
      generalize wr.heap.size = sh at S1 hsb HSG ⊢
      clear hx hON hRL hsg hxF cb
      go_wp2_with fail
      go_loopw [27] (fun jv W => ∃ (j : Nat) (v2 : Value) (out2 : List Int), j ≤ 13 ∧ jv = .int .i64 j ∧ OrbAt w W bo v2 out2 ∧ Blk W sh (strC stretchL) 70 ∧ v2.ownBlock ≠ some sh ∧ out2[i]? = some x ∧ (stretchL.drop j).foldl (stepU x) out2 = roundU x out) (fun jv _ => 13 - (intOf jv).toNat)
      case atStart => exact ⟨0, _, out, by omega, rfl, A2.out, S1.out, HSG.out, HX.out, rfl⟩
      case round =>
        obtain ⟨j, v2, out2, hj, rfl, hA2, hS2, hn2, hx2, hO2⟩ := hrel
        have hsl : stretchL.length = 13 := rfl
        by_cases hj13 : j < 13
        case neg =>
          obtain rfl : j = 13 := by omega
          have hO3 : out2 = roundU x out := hO2
          have hp2 : 0 < out2.length := Nat.lt_of_le_of_lt (Nat.zero_le i) (List.getElem?_eq_some_iff.1 hx2).1
          have HA2 := Lib.hid hA2; have HO3 := Lib.hid hO3
          clear hA2 hS2 hn2 hx2 hO2 hO3
          go_wp2_with fail
          go_roundg m
          case rel => exact ⟨i + 1, v2, out2, by go_num, HA2.out, by rw [HO3.out]; exact HON.out, hp2⟩
          case measure => omega
        case pos =>
          have hjl : j < stretchL.length := by rw [hsl]; exact hj13
          obtain ⟨s, hs, hq⟩ : ∃ s, stretchL[j]? = some s ∧ (strC stretchL)[j * 3]? = some (.int .i32 s.1) ∧ (strC stretchL)[j * 3 + 1]? = some (.int .i32 s.2.1) ∧ (strC stretchL)[j * 3 + 2]? = some (.int .i32 s.2.2) := ⟨_, List.getElem?_eq_getElem hjl, strC_get stretchL j hjl⟩
          have hbd := stretch_bounds s (List.mem_of_getElem? hs)
          have hdrop : stretchL.drop j = s :: stretchL.drop (j + 1) := by
            obtain ⟨hl, e⟩ := List.getElem?_eq_some_iff.1 hs
            rw [← e]; exact List.drop_eq_getElem_cons hl
          clear hjl
          rw [hdrop, List.foldl_cons] at hO2
          obtain ⟨lo, hi, up⟩ := s
          have b1 := hbd.2.2.2.2.1
          have b2 := hbd.2.2.2.2.2
          have q0 := Blk.cell hS2 (j := j * 3) hq.1
          have q1 := Blk.cell hS2 (j := j * 3 + 1) hq.2.1
          have q2 := Blk.cell hS2 (j := j * 3 + 2) hq.2.2
          have I3 := Lib.hid (show OrbIn w (wr.alloc (.cells #[.int .i32 lo, .int .i32 hi, .int .i32 up] 70)) bo sh wr.heap.size i x (lo, hi, up) v2 out2 from ⟨⟨hA2.b.alloc _, World.ownsRow.alloc hA2.o _, hA2.ne, hA2.bl.alloc hA2.bl.size _⟩, hS2.alloc _, Blk.new wr [.int .i32 lo, .int .i32 hi, .int .i32 up] 70, hn2, (fun e => by have := (hA2.o.lt _ e).2; omega), hx2⟩)
          have d2 : wr.heap.size ≠ bo := by have := hA2.b.lt; omega
          have hfr : addU out2 (x + up) <+: stepU x out2 (lo, hi, up) ∨ True := .inr trivial
          have HO2 := Lib.hid hO2
          have hst : stepU x out2 (lo, hi, up) <+: roundU x out := by rw [← hO2]; exact foldU_prefix x _ _
          have HST := Lib.hid hst
          have hbz := Lib.hid (show w.heap.size ≤ bo by have := HBO.out; omega)
          clear hs hq hbd hA2 hS2 hn2 hx2 hO2 hdrop hst hfr
          obtain ⟨g3, cap3, rfl, cx3, hi3⟩ := I3.out.look
          have cb3 := Blk.cell I3.out.a.b (j := 0) rfl
          have hj3 : (i : Int) < (out2.length : Int) := by omega
          have hl3 : out2.length ≤ 3 := by have := (stepU_prefix x out2 (lo, hi, up)).length_le; have := HST.out.length_le; have := HRL.out; omega
          have HLL3 := Lib.hid (show out2.length ≤ 1000 by omega)
          by_cases c1 : lo ≤ x
          · by_cases c2 : x ≤ hi
            · go_wp2_with fail
              rw [show wrap32 (x + up) = x + up from IntWalk.wrap32_in _ (by omega)]
              have hpo3 : 0 < out2.length := by omega
              refine (orbit_add (x + up) bo _ out2 _ w.heap.size I3.out.a.b I3.out.a.o I3.out.a.ne hpo3 HLL3.out).mono ?_
              rintro e w4 hAO
              obtain ⟨v4, hI4⟩ := OrbIn.add I3.out hbz.out hsb d2 hAO
              obtain ⟨rfl, _⟩ := hAO
              obtain ⟨g4, cap4, rfl, cx4, hi4⟩ := hI4.look
              have cb4 := Blk.cell hI4.a.b (j := 0) rfl
              have I4 := Lib.hid hI4; clear hI4 cb3 cx3
              have HLL4 := Lib.hid (show (addU out2 (x + up)).length ≤ 1000 by have := addU_len out2 (x + up); omega)
              obtain ⟨o4, ho4⟩ : ∃ o4, addU out2 (x + up) = o4 := ⟨_, rfl⟩
              rw [ho4] at I4 hi4 HLL4 cb4
              have HO4 := Lib.hid ho4; clear ho4
              go_wp2_with fail
              have hw4 : IntKind.i32.wrap (x - up) = x - up := IntWalk.i32_in _ (by omega)
              have hi04 : (0 : Int) ≤ (i : Int) := by omega
              have hol4 : (i : Int) < ((o4).length : Int) := by omega
              have p2 := Blk.cell I4.out.b7 (j := 2) rfl
              by_cases e1 : lo ≤ x - up
              · by_cases e2 : x - up ≤ hi
                · go_quiet (fail)
                  have p0 := Blk.cell I4.out.b7 (j := 0) rfl; have p1 := Blk.cell I4.out.b7 (j := 1) rfl
                  have IQ := Lib.hid (I4.out.drewN nq)
                  go_wp2_with fail
                  have hpo4 : 0 < (o4).length := by omega
                  refine (orbit_add (x - up) bo _ (o4) _ w.heap.size IQ.out.a.b IQ.out.a.o IQ.out.a.ne hpo4 (by have := HLL4.out; omega)).mono ?_
                  rintro e w5 hAO
                  obtain ⟨v5, hI5⟩ := OrbIn.add IQ.out hbz.out hsb d2 hAO
                  obtain ⟨rfl, _⟩ := hAO
                  have I5 := Lib.hid hI5; clear hI5
                  have HEQ := Lib.hid (show stepU x out2 (lo, hi, up) = addU (o4) (x - up) from (by unfold stepU; simp only; rw [← HO4.out, if_pos (show lo ≤ x ∧ x ≤ hi by omega), if_pos (show lo ≤ x - up ∧ x - up ≤ hi by omega)]))
                  go_wp2_with fail
                  go_roundw
                  case rel => exact ⟨j + 1, _, _, by omega, by go_num, I5.out.a, I5.out.st, I5.out.nsh, I5.out.x, by rw [← HEQ.out]; exact HO2.out⟩
                  case measure => simp [intOf]; omega
                · go_quiet (fail)
                  have p0 := Blk.cell I4.out.b7 (j := 0) rfl; have p1 := Blk.cell I4.out.b7 (j := 1) rfl
                  have IQ := Lib.hid (I4.out.drewN nq)
                  have HEQ := Lib.hid (show stepU x out2 (lo, hi, up) = o4 from (by unfold stepU; simp only; rw [← HO4.out, if_pos (show lo ≤ x ∧ x ≤ hi by omega), if_neg (show ¬ (lo ≤ x - up ∧ x - up ≤ hi) by omega)]))
                  go_wp2_with fail
                  go_roundw
                  case rel => exact ⟨j + 1, _, _, by omega, by go_num, IQ.out.a, IQ.out.st, IQ.out.nsh, IQ.out.x, by rw [← HEQ.out]; exact HO2.out⟩
                  case measure => simp [intOf]; omega
              · go_quiet (fail)
                have p0 := Blk.cell I4.out.b7 (j := 0) rfl
                have IQ := Lib.hid (I4.out.drewN nq)
                have HEQ := Lib.hid (show stepU x out2 (lo, hi, up) = o4 from (by unfold stepU; simp only; rw [← HO4.out, if_pos (show lo ≤ x ∧ x ≤ hi by omega), if_neg (show ¬ (lo ≤ x - up ∧ x - up ≤ hi) by omega)]))
                go_wp2_with fail
                go_roundw
                case rel => exact ⟨j + 1, _, _, by omega, by go_num, IQ.out.a, IQ.out.st, IQ.out.nsh, IQ.out.x, by rw [← HEQ.out]; exact HO2.out⟩
                case measure => simp [intOf]; omega
            · go_wp2_with fail
              have hw3 : IntKind.i32.wrap (x - up) = x - up := IntWalk.i32_in _ (by omega)
              have hi03 : (0 : Int) ≤ (i : Int) := by omega
              have hol3 : (i : Int) < ((out2).length : Int) := by omega
              have p2 := Blk.cell I3.out.b7 (j := 2) rfl
              by_cases e1 : lo ≤ x - up
              · by_cases e2 : x - up ≤ hi
                · go_quiet (fail)
                  have p0 := Blk.cell I3.out.b7 (j := 0) rfl; have p1 := Blk.cell I3.out.b7 (j := 1) rfl
                  have IQ := Lib.hid (I3.out.drewN nq)
                  go_wp2_with fail
                  have hpo3 : 0 < (out2).length := by omega
                  refine (orbit_add (x - up) bo _ (out2) _ w.heap.size IQ.out.a.b IQ.out.a.o IQ.out.a.ne hpo3 (by have := HLL3.out; omega)).mono ?_
                  rintro e w5 hAO
                  obtain ⟨v5, hI5⟩ := OrbIn.add IQ.out hbz.out hsb d2 hAO
                  obtain ⟨rfl, _⟩ := hAO
                  have I5 := Lib.hid hI5; clear hI5
                  have HEQ := Lib.hid (show stepU x out2 (lo, hi, up) = addU (out2) (x - up) from (by unfold stepU; simp only; rw [if_neg (show ¬ (lo ≤ x ∧ x ≤ hi) by omega), if_pos (show lo ≤ x - up ∧ x - up ≤ hi by omega)]))
                  go_wp2_with fail
                  go_roundw
                  case rel => exact ⟨j + 1, _, _, by omega, by go_num, I5.out.a, I5.out.st, I5.out.nsh, I5.out.x, by rw [← HEQ.out]; exact HO2.out⟩
                  case measure => simp [intOf]; omega
                · go_quiet (fail)
                  have p0 := Blk.cell I3.out.b7 (j := 0) rfl; have p1 := Blk.cell I3.out.b7 (j := 1) rfl
                  have IQ := Lib.hid (I3.out.drewN nq)
                  have HEQ := Lib.hid (show stepU x out2 (lo, hi, up) = out2 from (by unfold stepU; simp only; rw [if_neg (show ¬ (lo ≤ x ∧ x ≤ hi) by omega), if_neg (show ¬ (lo ≤ x - up ∧ x - up ≤ hi) by omega)]))
                  go_wp2_with fail
                  go_roundw
                  case rel => exact ⟨j + 1, _, _, by omega, by go_num, IQ.out.a, IQ.out.st, IQ.out.nsh, IQ.out.x, by rw [← HEQ.out]; exact HO2.out⟩
                  case measure => simp [intOf]; omega
              · go_quiet (fail)
                have p0 := Blk.cell I3.out.b7 (j := 0) rfl
                have IQ := Lib.hid (I3.out.drewN nq)
                have HEQ := Lib.hid (show stepU x out2 (lo, hi, up) = out2 from (by unfold stepU; simp only; rw [if_neg (show ¬ (lo ≤ x ∧ x ≤ hi) by omega), if_neg (show ¬ (lo ≤ x - up ∧ x - up ≤ hi) by omega)]))
                go_wp2_with fail
                go_roundw
                case rel => exact ⟨j + 1, _, _, by omega, by go_num, IQ.out.a, IQ.out.st, IQ.out.nsh, IQ.out.x, by rw [← HEQ.out]; exact HO2.out⟩
                case measure => simp [intOf]; omega
          · go_wp2_with fail
            have hw3 : IntKind.i32.wrap (x - up) = x - up := IntWalk.i32_in _ (by omega)
            have hi03 : (0 : Int) ≤ (i : Int) := by omega
            have hol3 : (i : Int) < ((out2).length : Int) := by omega
            have p2 := Blk.cell I3.out.b7 (j := 2) rfl
            by_cases e1 : lo ≤ x - up
            · by_cases e2 : x - up ≤ hi
              · go_quiet (fail)
                have p0 := Blk.cell I3.out.b7 (j := 0) rfl; have p1 := Blk.cell I3.out.b7 (j := 1) rfl
                have IQ := Lib.hid (I3.out.drewN nq)
                go_wp2_with fail
                have hpo3 : 0 < (out2).length := by omega
                refine (orbit_add (x - up) bo _ (out2) _ w.heap.size IQ.out.a.b IQ.out.a.o IQ.out.a.ne hpo3 (by have := HLL3.out; omega)).mono ?_
                rintro e w5 hAO
                obtain ⟨v5, hI5⟩ := OrbIn.add IQ.out hbz.out hsb d2 hAO
                obtain ⟨rfl, _⟩ := hAO
                have I5 := Lib.hid hI5; clear hI5
                have HEQ := Lib.hid (show stepU x out2 (lo, hi, up) = addU (out2) (x - up) from (by unfold stepU; simp only; rw [if_neg (show ¬ (lo ≤ x ∧ x ≤ hi) by omega), if_pos (show lo ≤ x - up ∧ x - up ≤ hi by omega)]))
                go_wp2_with fail
                go_roundw
                case rel => exact ⟨j + 1, _, _, by omega, by go_num, I5.out.a, I5.out.st, I5.out.nsh, I5.out.x, by rw [← HEQ.out]; exact HO2.out⟩
                case measure => simp [intOf]; omega
              · go_quiet (fail)
                have p0 := Blk.cell I3.out.b7 (j := 0) rfl; have p1 := Blk.cell I3.out.b7 (j := 1) rfl
                have IQ := Lib.hid (I3.out.drewN nq)
                have HEQ := Lib.hid (show stepU x out2 (lo, hi, up) = out2 from (by unfold stepU; simp only; rw [if_neg (show ¬ (lo ≤ x ∧ x ≤ hi) by omega), if_neg (show ¬ (lo ≤ x - up ∧ x - up ≤ hi) by omega)]))
                go_wp2_with fail
                go_roundw
                case rel => exact ⟨j + 1, _, _, by omega, by go_num, IQ.out.a, IQ.out.st, IQ.out.nsh, IQ.out.x, by rw [← HEQ.out]; exact HO2.out⟩
                case measure => simp [intOf]; omega
            · go_quiet (fail)
              have p0 := Blk.cell I3.out.b7 (j := 0) rfl
              have IQ := Lib.hid (I3.out.drewN nq)
              have HEQ := Lib.hid (show stepU x out2 (lo, hi, up) = out2 from (by unfold stepU; simp only; rw [if_neg (show ¬ (lo ≤ x ∧ x ≤ hi) by omega), if_neg (show ¬ (lo ≤ x - up ∧ x - up ≤ hi) by omega)]))
              go_wp2_with fail
              go_roundw
              case rel => exact ⟨j + 1, _, _, by omega, by go_num, IQ.out.a, IQ.out.st, IQ.out.nsh, IQ.out.x, by rw [← HEQ.out]; exact HO2.out⟩
              case measure => simp [intOf]; omega
    · have hlt' : ¬ (i : Int) < (out.length : Int) := by omega
      have e9 : out[i]? = none := List.getElem?_eq_none (by omega)
      have hF2 : out = F := by
        have := O1.out
        unfold orbU at this
        rw [e9] at this
        exact this
      obtain ⟨hcap, hcm⟩ : out.length ≤ cap ∧ cap ≤ 9223372036854775807 := by
        rcases A1.out.o.2 with ⟨e, h⟩ | ⟨g', cap', cur, e, _, _, h, h2, _⟩
        · omega
        · cases e; unfold maxLen at h2; exact ⟨h, h2⟩
      have HS := Lib.hid (sort_runes out w.heap.size g cap _ A1.out.o hpos (by omega) hcap hcm)
      have HF2 := Lib.hid hF2
      clear hF2 e9
      go_wp2_with fail
      refine (HS.out).mono ?_
      rintro e w3 ⟨rfl, ys, hp, ho, hg⟩
      have hlg := A1.out.o.lt g rfl
      have hgb : some bo ≠ some g := fun e => A1.out.ne (by rw [e]; rfl)
      have c3 := Blk.cell (A1.out.b.grown hg hgb) (j := 0) rfl
      have HO := Lib.hid ho; have HY := Lib.hid hp
      have B3 := Lib.hid (below_next A1.out.bl (Nat.le_refl _) hg (fun k e => by cases e; exact hlg.1))
      clear ho hp hg cb
      go_wp2_with fail
      go_ret
      refine ⟨_, ys, rfl, HY.out.trans (by rw [HF2.out]; exact HP.out), ?_, B3.out⟩
      have hl := HY.out.length_eq
      have := HO.out
      unfold OwnR
      rw [hl]
      exact this

end Go.Proofs.YtnafemcholkmlaaGreatDoor
