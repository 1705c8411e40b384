/- What an escape is: one answer for both sides. (Printed by gen_refesc.py.) -/
import Derived.Test.YtjmgboegipeijaaGreatDoorRefPN
import Derived.Test.YtjmgboegipeijaaGreatDoorPerl
namespace Go.Proofs.YtjmgboegipeijaaGreatDoor
open Go Go.RowKit Go.Proofs Go.Shelf

inductive EscR where
  | wrong (e f t : Int)
  | lit (k r a q : Int)
  | set (f : Int → Bool) (q : Int)
def escX (s : ByteArray) (p : Nat) (q : Nat) : EscR := match codeP s q with | some (n, r) => .lit 1 n 0 r | none => .wrong 61 p q
def escPr (s : ByteArray) (p : Nat) (q : Nat) (nt : Bool) : EscR := match propP s q with
  | none => .wrong 61 p q
  | some (nm, r) => match propSpec nm.data.toList nt with | none => .wrong 63 p r | some f => .set f r
def escPl (p : Nat) (c : Int) (q : Nat) : EscR := if placeI c ≠ 0 then .lit 3 0 (placeI c) q else if c = 81 then .lit 4 0 0 q else match perlSpec (min c 127) with | none => .wrong 61 p q | some f => .set f q
/-- What stands at a place as an escape. -/
def escP (s : ByteArray) (p : Nat) (perl : Bool) : EscR :=
  if ¬ stands s p [92] = true then .wrong 1 p p
  else if s.size ≤ p + 1 then .wrong 62 p ((p : Int) + 1)
  else if signI (nextC s (p + 1)) = true then .lit 1 (nextC s (p + 1)) 0 (nextW s (p + 1))
  else if 0 ≤ letterI (nextC s (p + 1)) then .lit 1 (letterI (nextC s (p + 1))) 0 (nextW s (p + 1))
  else if nextC s (p + 1) = 120 then escX s p (nextW s (p + 1))
  else if nextC s (p + 1) = 112 ∨ nextC s (p + 1) = 80 then escPr s p (nextW s (p + 1)) (nextC s (p + 1) == 80)
  else if perl = false then .wrong 61 p (nextW s (p + 1))
  else escPl p (nextC s (p + 1)) (nextW s (p + 1))
def escT (k r : Int) (v : Value) (a q e f t : Int) : Value := .tuple #[.agg #[.int .i64 k, .int .i32 r, v, .int .i64 a], .int .i64 q, .agg #[.int .i64 e, .int .i64 f, .int .i64 t]]
def EscOut (w : World) (r : EscR) (e : Ending) (w' : World) : Prop := match r with
  | .wrong x f t => e = .returned (escT 0 0 (.slice none 0 0) 0 0 x f t) ∧ Below w.heap.size w w'
  | .lit k r a q => e = .returned (escT k r (.slice none 0 0) a q 0 0 0) ∧ Below w.heap.size w w'
  | .set f q => ∃ v out, e = .returned (escT 2 0 v 0 q 0 0 0) ∧ Laid w w' out v ∧ IsSet out f ∧ out.length ≤ 1000 ∧ Below w.heap.size w w'
end Go.Proofs.YtjmgboegipeijaaGreatDoor
