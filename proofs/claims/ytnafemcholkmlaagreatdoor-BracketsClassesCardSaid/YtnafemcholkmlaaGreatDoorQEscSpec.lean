/- What an escape is: one answer for both sides. (Printed by gen_refesc.py.) The live question of layer 6. -/
import Derived.Test.YtnafemcholkmlaaGreatDoorQEscNm
import Derived.Test.YtnafemcholkmlaaGreatDoorQPerl
import Derived.Test.YtnafemcholkmlaaGreatDoorQCount
import Derived.BigRegion
namespace Go.Proofs.YtnafemcholkmlaaGreatDoor
open Go Go.RowKit Go.Proofs Go.Shelf

inductive EscR where
  | wrong (e f t : Int)
  | lit (k r a q : Int)
  | set (f : Int → Bool) (q : Int)
def escX (s : ByteArray) (p : Nat) (q : Nat) : EscR := match codeP s q with | some (n, r) => .lit 1 n 0 r | none => .wrong 61 p q
def escPr (s : ByteArray) (p : Nat) (q : Nat) (nt : Bool) : EscR := match propP s q with
  | none => .wrong 61 p q
  | some (nm, r) => match propSpec nm.data.toList nt with | none => .wrong 63 p r | some f => .set f r
def escPl (p : Nat) (c : Int) (q : Nat) : EscR := if placeI c ≠ 0 then .lit 3 0 (placeI c) q else if c = 81 then .lit 4 0 0 q else match perlSpec (min c 127) with | none => .wrong 61 p q | some f => .set f q
/-- What stands at a place as an escape. -/
def escP (s : ByteArray) (p : Nat) (perl : Bool) : EscR :=
  if ¬ stands s p [92] = true then .wrong 1 p p
  else if s.size ≤ p + 1 then .wrong 62 p ((p : Int) + 1)
  else if signI (nextC s (p + 1)) = true then .lit 1 (nextC s (p + 1)) 0 (nextW s (p + 1))
  else if 0 ≤ letterI (nextC s (p + 1)) then .lit 1 (letterI (nextC s (p + 1))) 0 (nextW s (p + 1))
  else if nextC s (p + 1) = 120 then escX s p (nextW s (p + 1))
  else if nextC s (p + 1) = 112 ∨ nextC s (p + 1) = 80 then escPr s p (nextW s (p + 1)) (nextC s (p + 1) == 80)
  else if perl = false then .wrong 61 p (nextW s (p + 1))
  else escPl p (nextC s (p + 1)) (nextW s (p + 1))
def escT (k r : Int) (v : Value) (a q e f t : Int) : Value := .tuple #[.agg #[.int .i64 k, .int .i32 r, v, .int .i64 a], .int .i64 q, .agg #[.int .i64 e, .int .i64 f, .int .i64 t]]
def EscOut (w : World) (r : EscR) (e : Ending) (w' : World) : Prop := match r with
  | .wrong x f t => e = .returned (escT 0 0 (.slice none 0 0) 0 0 x f t) ∧ Below w.heap.size w w'
  | .lit k r a q => e = .returned (escT k r (.slice none 0 0) a q 0 0 0) ∧ Below w.heap.size w w'
  | .set f q => ∃ v out, e = .returned (escT 2 0 v 0 q 0 0 0) ∧ Laid w w' out v ∧ IsSet out f ∧ out.length ≤ 1000 ∧ Below w.heap.size w w'
end Go.Proofs.YtnafemcholkmlaaGreatDoor

namespace Go.Proofs.YtnafemcholkmlaaGreatDoor
open Go Go.RowKit Go.Proofs

def esc0 : List Value := [.int .i64 0, .int .i32 0, .slice none 0 0, .int .i64 0]
def wrong0 : List Value := [.int .i64 0, .int .i64 0, .int .i64 0]
/-- The four blocks that Escape lays first: two results, the reader, what is made. -/
theorem esc_blocks (w : World) (s : ByteArray) (p : Int) (te tw tr : TypeId) :
    let W := (((w.alloc (.cells #[.int .i64 0, .int .i32 0, .slice none 0 0, .int .i64 0] te)).alloc (.cells #[.int .i64 0, .int .i64 0, .int .i64 0] tw)).alloc (.cells #[.string s, .int .i64 p, .int .i64 p] tr)).alloc (.cells #[.int .i64 0, .int .i32 0, .slice none 0 0, .int .i64 0] te)
    Blk W w.heap.size esc0 te ∧ Blk W (w.heap.size + 1) wrong0 tw ∧ Blk W (w.heap.size + 1 + 1) [.string s, .int .i64 p, .int .i64 p] tr ∧ Blk W (w.heap.size + 1 + 1 + 1) esc0 te := by
  have a := Blk.new w esc0 te
  have b := Blk.new (w.alloc (.cells esc0.toArray te)) wrong0 tw
  have c := Blk.new ((w.alloc (.cells esc0.toArray te)).alloc (.cells wrong0.toArray tw)) [.string s, .int .i64 p, .int .i64 p] tr
  have d := Blk.new (((w.alloc (.cells esc0.toArray te)).alloc (.cells wrong0.toArray tw)).alloc (.cells [Value.string s, .int .i64 p, .int .i64 p].toArray tr)) esc0 te
  simp only [World.size_alloc] at b c d
  exact ⟨((a.alloc _).alloc _).alloc _, (b.alloc _).alloc _, c.alloc _, d⟩

set_option maxRecDepth 100000 in
set_option maxHeartbeats 1000000 in
theorem escape_head (w : World) :
    Calls Tryz.prog 51 #[.string ⟨#[92, 120, 123, 52, 49, 125, 98]⟩, .int .i64 0, .bool false] w fun e w' =>
      e = .returned (.tuple #[.agg #[.int .i64 1, .int .i32 65, .slice none 0 0, .int .i64 0], .int .i64 6, .agg #[.int .i64 0, .int .i64 0, .int .i64 0]]) ∧ Below w.heap.size w w' := by
  obtain ⟨bA, bC, bR, bO⟩ := esc_blocks w ⟨#[92, 120, 123, 52, 49, 125, 98]⟩ 0 64 27 121
  have A0 := Lib.hid bA; have C0 := Lib.hid bC; have O0 := Lib.hid bO
  have R0 := Lib.hid (show Rd _ (w.heap.size + 1 + 1) ⟨#[92, 120, 123, 52, 49, 125, 98]⟩ 0 [.int .i64 0] 121 from bR)
  clear bA bC bR bO
  go_enter Tryz.func51, Tryz.ntmps51
  go_wp2_with fail
  go_step3
  go_wp2_with fail
  refine (scan_has_yes _ _ ⟨#[92]⟩ 0 _ _ _ R0.out (by decide) (by decide) (by decide)).mono ?_
  rintro e w1 ⟨rfl, hR, hG⟩
  have A1 := Lib.hid (A0.out.grown hG (ne_some (by omega))); have C1 := Lib.hid (C0.out.grown hG (ne_some (by omega))); have O1 := Lib.hid (O0.out.grown hG (ne_some (by omega)))
  have R1 := Lib.hid hR; have G1 := Lib.hid hG; clear hR hG
  go_wp2_with fail
  refine (scan_next_ascii _ _ 1 120 _ _ _ R1.out (by decide) (by decide) (by decide) (by decide)).mono ?_
  rintro e w2 ⟨rfl, hR, hG⟩
  have A2 := Lib.hid (A1.out.grown hG (ne_some (by omega))); have C2 := Lib.hid (C1.out.grown hG (ne_some (by omega))); have O2 := Lib.hid (O1.out.grown hG (ne_some (by omega)))
  have R2 := Lib.hid hR; have G2 := Lib.hid (grownBy_trans G1.out hG); clear hR hG
  have g1 := Rd.c1 R2.out
  go_wp2_with fail
  refine (Tryz.strings_IndexByte _ _ _).mono ?_
  rintro e w3 ⟨rfl, rfl⟩
  rw [show Lib.indexByte (⟨#[97, 102, 110, 114, 116, 118]⟩ : ByteArray).data.toList (min (120 : Int) 127).toNat.toUInt8 = -1 from by decide]
  go_wp2_with fail
  refine (esc_code_braced _ _ 2 _ _ _ R2.out (by decide) (by decide) (by decide)).mono ?_
  rintro e w4 ⟨rfl, hR, hG⟩
  have A4 := Lib.hid (A2.out.grown hG (ne_some (by omega))); have C4 := Lib.hid (C2.out.grown hG (ne_some (by omega))); have O4 := Lib.hid (O2.out.grown hG (ne_some (by omega)))
  rw [show bracedN ⟨#[92, 120, 123, 52, 49, 125, 98]⟩ 2 = (65, true, 6) from by decide] at hR
  rw [show bracedN ⟨#[92, 120, 123, 52, 49, 125, 98]⟩ 2 = (65, true, 6) from by decide]
  have R4 := Lib.hid hR; have G4 := Lib.hid (grownBy_trans G2.out hG); clear hR hG
  clear g1
  have o0 := Blk.cell O4.out (j := 0) rfl; have o1 := Blk.cell O4.out (j := 1) rfl; have o2 := Blk.cell O4.out (j := 2) rfl; have o3 := Blk.cell O4.out (j := 3) rfl
  have p0 := O4.out.frozen 0; have p1 := O4.out.frozen 1; have p2 := O4.out.frozen 2; have p3 := O4.out.frozen 3
  go_wp2_with fail
  obtain ⟨W5, hW5⟩ : ∃ W5, W5 = World.set4 w4 (w.heap.size + 1 + 1 + 1) (.int .i64 1) (.int .i32 65) (.slice none 0 0) (.int .i64 0) := ⟨_, rfl⟩
  have O5 := O4.out.set4 (.int .i64 1) (.int .i32 65) (.slice none 0 0) (.int .i64 0)
  have A5 := A4.out.set4_other (b := w.heap.size + 1 + 1 + 1) (by omega) (.int .i64 1) (.int .i32 65) (.slice none 0 0) (.int .i64 0)
  have C5 := C4.out.set4_other (b := w.heap.size + 1 + 1 + 1) (by omega) (.int .i64 1) (.int .i32 65) (.slice none 0 0) (.int .i64 0)
  have R5 := Blk.set4_other (b := w.heap.size + 1 + 1 + 1) R4.out (by omega) (.int .i64 1) (.int .i32 65) (.slice none 0 0) (.int .i64 0)
  have G5 := grownBy_set4 w4 (w.heap.size + 1 + 1 + 1) (.int .i64 1) (.int .i32 65) (.slice none 0 0) (.int .i64 0)
  change Code.wp _ _ _ _ (World.set4 w4 (w.heap.size + 1 + 1 + 1) (.int .i64 1) (.int .i32 65) (.slice none 0 0) (.int .i64 0))
  rw [← hW5] at O5 A5 C5 R5 G5 ⊢
  clear hW5 o0 o1 o2 o3 p0 p1 p2 p3
  have o0 := Blk.cell O5 (j := 0) rfl; have o1 := Blk.cell O5 (j := 1) rfl; have o2 := Blk.cell O5 (j := 2) rfl; have o3 := Blk.cell O5 (j := 3) rfl
  have r1 := Blk.cell R5 (j := 1) rfl
  have a0 := Blk.cell A5 (j := 0) rfl; have a1 := Blk.cell A5 (j := 1) rfl; have a2 := Blk.cell A5 (j := 2) rfl; have a3 := Blk.cell A5 (j := 3) rfl
  have b0 := A5.frozen 0; have b1 := A5.frozen 1; have b2 := A5.frozen 2; have b3 := A5.frozen 3
  have c0 := Blk.cell C5 (j := 0) rfl; have c1 := Blk.cell C5 (j := 1) rfl; have c2 := Blk.cell C5 (j := 2) rfl
  have d0 := C5.frozen 0; have d1 := C5.frozen 1; have d2 := C5.frozen 2
  have HO5 := Lib.hid O5; have HA5 := Lib.hid A5; have HC5 := Lib.hid C5; have HR5 := Lib.hid R5; have HG5 := Lib.hid G5
  clear O5 A5 C5 R5 G5
  go_region
  go_wp2_with fail
  rw [Exit.noGoto_ret]
  refine bodyPost_ret (v := .tuple #[.agg #[.int .i64 1, .int .i32 65, .slice none 0 0, .int .i64 0], .int .i64 6, .agg #[.int .i64 0, .int .i64 0, .int .i64 0]]) ?_ rfl ⟨rfl, ?_⟩
  · simp [results, Tryz.results51, go_sem, a0, a1, a2, a3, c0, c1, c2]
  · have B0 : Below w.heap.size w ((((w.alloc (.cells #[.int .i64 0, .int .i32 0, .slice none 0 0, .int .i64 0] 64)).alloc (.cells #[.int .i64 0, .int .i64 0, .int .i64 0] 27)).alloc (.cells #[.string ⟨#[92, 120, 123, 52, 49, 125, 98]⟩, .int .i64 0, .int .i64 0] 121)).alloc (.cells #[.int .i64 0, .int .i32 0, .slice none 0 0, .int .i64 0] 64)) :=
      ((((Below.refl _ w).alloc (Nat.le_refl _) _).alloc (by simp) _).alloc (by simp; omega) _).alloc (by simp; omega) _
    have B5 := below_next (below_next B0 (Nat.le_refl _) G4.out (fun k e => by cases e; omega)) (Nat.le_refl _) HG5.out (fun k e => by cases e; omega)
    exact (((((((B5.setCell (by simp) _).setCell (by simp) _).setCell (by simp) _).setCell (by simp) _).setCell (by simp) _).setCell (by simp) _).setCell (by simp) _).drew

end Go.Proofs.YtnafemcholkmlaaGreatDoor
