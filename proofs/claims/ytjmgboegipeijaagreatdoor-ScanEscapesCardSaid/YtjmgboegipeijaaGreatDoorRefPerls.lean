/- The document's escape: martelloref06.perls, Escape. (Printed by gen_refesc.py.) -/
import Derived.Test.YtjmgboegipeijaaGreatDoorEscSpec
import Derived.Test.YtjmgboegipeijaaGreatDoorRefPerl
import Derived.Test.YtjmgboegipeijaaGreatDoorRefNum2
namespace Go.Proofs.YtjmgboegipeijaaGreatDoor
open Go Go.RowKit Go.Proofs Go.Shelf

def esc0R : List Value := [.int .i64 0, .int .i32 0, .slice none 0 0, .int .i64 0]
def wrong0R : List Value := [.int .i64 0, .int .i64 0, .int .i64 0]
theorem own_neR {w : World} {base n : Nat} {e : TypeId} {v : Value} {xs : List Value} (h : w.ownsRow base e 2 v n xs) {b : Nat} (hb : b < base) : v.ownBlock = none ∨ v.ownBlock ≠ some b := by
  rcases h.2 with ⟨rfl, _⟩ | ⟨g, cap, _, rfl, hg, _⟩
  · exact .inl rfl
  · refine .inr fun h => ?_
    simp [Value.ownBlock] at h
    omega
theorem ownsRow_setCellR {w : World} {base n : Nat} {e : TypeId} {v : Value} {xs : List Value} (h : w.ownsRow base e 2 v n xs) {b : Nat} (hb : b < base) (j : Nat) (x : Value) : (w.setCell ⟨b, j, none⟩ x).ownsRow base e 2 v n xs :=
  h.kept (grownBy_setCell w b j x) (own_neR h hb)
def perlsT (k r : Int) (v : Value) (a q : Int) (is : Bool) : Value := .tuple #[.agg #[.int .i64 k, .int .i32 r, v, .int .i64 a], .int .i64 q, .bool is]

set_option maxRecDepth 100000 in
set_option maxHeartbeats 4000000 in
theorem perls_place (c q : Int) (w : World) (h : placeI c ≠ 0) :
    Calls Tryz.prog 36 #[.int .i32 c, .int .i64 q] w fun e w' => e = .returned (perlsT 3 0 (.slice none 0 0) (placeI c) q true) ∧ Below w.heap.size w w' := by
  have HP := Lib.hid (ref06_place c)
  obtain ⟨a, ha⟩ : ∃ a, placeI c = a := ⟨_, rfl⟩
  rw [ha] at h ⊢
  simp only [ha] at HP
  have hb : (a != 0) = true := by simpa using h
  clear ha h
  go_enter Tryz.func36, Tryz.ntmps36
  go_wp2_with fail
  refine (HP.out _).mono ?_
  rintro e w1 ⟨rfl, rfl⟩
  go_wp2_with fail
  refine (HP.out _).mono ?_
  rintro e w1 ⟨rfl, rfl⟩
  go_wp2_with fail
  have k := Blk.new w [.int .i64 3, .int .i32 0, .slice none 0 0, .int .i64 a] 27
  have k0 := Blk.cell k (j := 0) rfl; have k1 := Blk.cell k (j := 1) rfl; have k2 := Blk.cell k (j := 2) rfl; have k3 := Blk.cell k (j := 3) rfl
  refine bodyPost_ret (v := perlsT 3 0 (.slice none 0 0) a q true) ?_ rfl ⟨rfl, ?_⟩
  · simp [results, Tryz.results36, perlsT, go_sem, k0, k1, k2, k3]
  · exact (Below.refl _ w).alloc (Nat.le_refl _) _

set_option maxRecDepth 100000 in
set_option maxHeartbeats 4000000 in
theorem perls_quote (c q : Int) (w : World) (h : placeI c = 0) (h2 : c = 81) :
    Calls Tryz.prog 36 #[.int .i32 c, .int .i64 q] w fun e w' => e = .returned (perlsT 4 0 (.slice none 0 0) 0 q true) ∧ Below w.heap.size w w' := by
  have HP := Lib.hid (ref06_place c)
  have n1 : (c == 81) = true := by simp; omega
  clear h2
  simp only [h] at HP
  clear h
  go_enter Tryz.func36, Tryz.ntmps36
  go_wp2_with fail
  refine (HP.out _).mono ?_
  rintro e w1 ⟨rfl, rfl⟩
  go_wp2_with fail
  have k := Blk.new w [.int .i64 4, .int .i32 0, .slice none 0 0, .int .i64 0] 27
  have k0 := Blk.cell k (j := 0) rfl; have k1 := Blk.cell k (j := 1) rfl; have k2 := Blk.cell k (j := 2) rfl; have k3 := Blk.cell k (j := 3) rfl
  refine bodyPost_ret (v := perlsT 4 0 (.slice none 0 0) 0 q true) ?_ rfl ⟨rfl, ?_⟩
  · simp [results, Tryz.results36, perlsT, go_sem, k0, k1, k2, k3]
  · exact (Below.refl _ w).alloc (Nat.le_refl _) _

set_option maxRecDepth 100000 in
set_option maxHeartbeats 4000000 in
theorem perls_high (c q : Int) (w : World) (h : placeI c = 0) (h2 : c ≠ 81) (h3 : 127 < c) :
    Calls Tryz.prog 36 #[.int .i32 c, .int .i64 q] w fun e w' => e = .returned (perlsT 0 0 (.slice none 0 0) 0 0 false) ∧ Below w.heap.size w w' := by
  have HP := Lib.hid (ref06_place c)
  have n1 : (c == 81) = false := by simp; omega
  have n2 : c > 127 := h3
  clear h2 h3
  simp only [h] at HP
  clear h
  go_enter Tryz.func36, Tryz.ntmps36
  go_wp2_with fail
  refine (HP.out _).mono ?_
  rintro e w1 ⟨rfl, rfl⟩
  go_wp2_with fail
  have k := Blk.new w [.int .i64 0, .int .i32 0, .slice none 0 0, .int .i64 0] 27
  have k0 := Blk.cell k (j := 0) rfl; have k1 := Blk.cell k (j := 1) rfl; have k2 := Blk.cell k (j := 2) rfl; have k3 := Blk.cell k (j := 3) rfl
  refine bodyPost_ret (v := perlsT 0 0 (.slice none 0 0) 0 0 false) ?_ rfl ⟨rfl, ?_⟩
  · simp [results, Tryz.results36, perlsT, go_sem, k0, k1, k2, k3]
  · exact (Below.refl _ w).alloc (Nat.le_refl _) _

set_option maxRecDepth 100000 in
set_option maxHeartbeats 4000000 in
theorem perls_none (c q : Int) (w : World) (h : placeI c = 0) (h2 : c ≠ 81) (h0 : 0 ≤ c) (h3 : c ≤ 127) (hq : perlSpec c = none) :
    Calls Tryz.prog 36 #[.int .i32 c, .int .i64 q] w fun e w' => e = .returned (perlsT 0 0 (.slice none 0 0) 0 0 false) ∧ Below w.heap.size w w' := by
  have HP := Lib.hid (ref06_place c)
  have n1 : (c == 81) = false := by simp; omega
  have n2 : ¬ c > 127 := by omega
  have n3 : c ≤ 127 := by omega
  clear h2 h3
  have HQ := Lib.hid hq; clear hq
  simp only [h] at HP
  clear h
  go_enter Tryz.func36, Tryz.ntmps36
  go_wp2_with fail
  refine (HP.out _).mono ?_
  rintro e w1 ⟨rfl, rfl⟩
  go_wp2_with fail
  have A1 := Blk.new w esc0R 27
  refine (ref04_Perl c _).mono ?_
  rintro e w2 ⟨v, out, rfl, p1, p2, p3, p4⟩
  rw [HQ.out] at p2 ⊢
  obtain ⟨sa, sc, rfl, hr, _⟩ := p1.ranges (by omega)
  have HLD := Lib.hid p1; have HST := Lib.hid p2; have HLN := Lib.hid p3
  have A2 := Lib.hid (Blk.below A1 p4 (by simp))
  have B2 := Lib.hid (((Below.refl _ w).alloc (Nat.le_refl _) (.cells esc0R.toArray 27)).trans (p4.mono (by simp)))
  clear hr p1 p2 p3 p4 A1
  have a0 := Blk.cell A2.out (j := 0) rfl; have a1 := Blk.cell A2.out (j := 1) rfl; have a2 := Blk.cell A2.out (j := 2) rfl; have a3 := Blk.cell A2.out (j := 3) rfl
  have b0 := A2.out.frozen 0; have b1 := A2.out.frozen 1; have b2 := A2.out.frozen 2; have b3 := A2.out.frozen 3
  go_wp2_with fail
  refine bodyPost_ret (v := perlsT 0 0 (.slice none 0 0) 0 0 false) ?_ rfl ⟨rfl, ?_⟩
  · simp [results, Tryz.results36, perlsT, go_sem, a0, a1, a2, a3]
  · exact (((B2.out.setCell (Nat.le_refl _) _).setCell (Nat.le_refl _) _).setCell (Nat.le_refl _) _).setCell (Nat.le_refl _) _

set_option maxRecDepth 100000 in
set_option maxHeartbeats 4000000 in
theorem perls_set (c q : Int) (w : World) (h : placeI c = 0) (h2 : c ≠ 81) (h0 : 0 ≤ c) (h3 : c ≤ 127) (f : Int → Bool) (hq : perlSpec c = some f) :
    Calls Tryz.prog 36 #[.int .i32 c, .int .i64 q] w fun e w' => ∃ v out, e = .returned (perlsT 2 0 v 0 q true) ∧ Laid w w' out v ∧ IsSet out f ∧ out.length ≤ 1000 ∧ Below w.heap.size w w' := by
  have HP := Lib.hid (ref06_place c)
  have n1 : (c == 81) = false := by simp; omega
  have n2 : ¬ c > 127 := by omega
  have n3 : c ≤ 127 := by omega
  clear h2 h3
  have HQ := Lib.hid hq; clear hq
  simp only [h] at HP
  clear h
  go_enter Tryz.func36, Tryz.ntmps36
  go_wp2_with fail
  refine (HP.out _).mono ?_
  rintro e w1 ⟨rfl, rfl⟩
  go_wp2_with fail
  have A1 := Blk.new w esc0R 27
  refine (ref04_Perl c _).mono ?_
  rintro e w2 ⟨v, out, rfl, p1, p2, p3, p4⟩
  rw [HQ.out] at p2 ⊢
  obtain ⟨sa, sc, rfl, hr, _⟩ := p1.ranges (by omega)
  have HLD := Lib.hid p1; have HST := Lib.hid p2; have HLN := Lib.hid p3
  have A2 := Lib.hid (Blk.below A1 p4 (by simp))
  have B2 := Lib.hid (((Below.refl _ w).alloc (Nat.le_refl _) (.cells esc0R.toArray 27)).trans (p4.mono (by simp)))
  clear hr p1 p2 p3 p4 A1
  have a0 := Blk.cell A2.out (j := 0) rfl; have a1 := Blk.cell A2.out (j := 1) rfl; have a2 := Blk.cell A2.out (j := 2) rfl; have a3 := Blk.cell A2.out (j := 3) rfl
  have b0 := A2.out.frozen 0; have b1 := A2.out.frozen 1; have b2 := A2.out.frozen 2; have b3 := A2.out.frozen 3
  go_wp2_with fail
  refine bodyPost_ret (v := perlsT 2 0 (.slice sa out.length sc) 0 q true) ?_ rfl ⟨_, out, rfl, ?_, HST.out, HLN.out, ?_⟩
  · simp [results, Tryz.results36, perlsT, go_sem, a0, a1, a2, a3]
  · have h9 : World.ownsRow w2 (w.heap.size + 1) 78 2 (.slice sa out.length sc) out.length (flatR out) := by have := HLD.out; unfold Laid at this; simpa using this
    exact Joins.ownsRow_le (ownsRow_setCellR (ownsRow_setCellR (ownsRow_setCellR (ownsRow_setCellR h9 (by omega) _ _) (by omega) _ _) (by omega) _ _) (by omega) _ _) (Nat.le_succ _)
  · exact (((B2.out.setCell (Nat.le_refl _) _).setCell (Nat.le_refl _) _).setCell (Nat.le_refl _) _).setCell (Nat.le_refl _) _
end Go.Proofs.YtjmgboegipeijaaGreatDoor
