/- Is it a tree? trees.Right. The names of a tree's groups: trees.Caps. A named group's beginning: scan.Name. A named group's beginning: scan.Name, whole. The live question of layer 6. An escape by a braced number, at any place; an escape of a sign. Escapes of a letter that are told at once. (Printed by gen_escape.py.) scan.Escape's other ways: none, a backslash alone, a number by code's contract, a property, the letters of the flavour. (Printed by gen_escape2.py.) scan.Escape's other ways: a property, the letters of the flavour, what is none. (Printed by gen_escape2.py.) An escape of a sign. scan.Escape, whole. What an item of a class is: one answer for both sides. What a class is, with flags: one answer for both sides. What a pattern is read as: the program's reader as a plain function. Where a rune begins in a text that is UTF-8. A rune that was encoded is decoded again. -/
import Derived.Test.YtnhnldmldnhaoaaGreatDoorDSynEsc
import Derived.Test.YtnhnldmldnhaoaaGreatDoorDSortEdges
import Derived.WalkMore
import Derived.RangeFuncNested
import Derived.RangeFuncBound
import Derived.RangeFuncCalls
import Derived.RangeFuncLeaves
import Derived.Shelf.Abstract
import Derived.Shelf.RegionOpen
import Derived.WalkKit
import Derived.OwnWalkIn
import Derived.TacticsInMore
import Derived.LoopNIn
import Derived.LoopIn
import Derived.Maps.OwnIn
import Derived.Maps.AppendAt
import Derived.RangeFuncBox
import Derived.Test.YtnhnldmldnhaoaaGreatDoorDSynRunes
import Derived.BigRegion
import Derived.Test.YtnhnldmldnhaoaaGreatDoorDCount
import Derived.ScopeJumps
import Derived.Test.YtnhnldmldnhaoaaGreatDoorDScan1
import Derived.Lib.RuneCount
import Derived.Test.YtnhnldmldnhaoaaGreatDoorDRefHas
import Derived.Lib.ValidLaws
import Derived.Lib.SpaceUEq
import Derived.Lib.MapLaws
namespace Go.Proofs.YtnhnldmldnhaoaaGreatDoor
open Go Go.RowKit Go.Proofs Go.Shelf
attribute [local go_sem] Oper.semAt_some

theorem TreeV.fields {w : World} {B : Nat} {t : T} {op : Int} {ka : Option Addr} {kn kc : Nat} {rune : Int} {sa : Option Addr} {sn sc : Nat} {pl cap : Int} {name : ByteArray} {mn mx : Int} {lz : Bool}
    (h : TreeV w B t [.int .i64 op, .slice ka kn kc, .int .i32 rune, .slice sa sn sc, .int .i64 pl, .int .i64 cap, .string name, .int .i64 mn, .int .i64 mx, .bool lz]) : t.op = op ∧ t.cap = cap ∧ t.name = name := by
  obtain ⟨op', kids', rune', set', pl', cap', name', mn', mx', lz'⟩ := t
  obtain ⟨ka2, kn2, kc2, sa2, sn2, sc2, he, _⟩ := h.open
  simp only [List.cons.injEq, Value.int.injEq, Value.string.injEq, true_and] at he
  exact ⟨he.1.symm, he.2.2.2.2.2.1.symm, he.2.2.2.2.2.2.1.symm⟩

/-- What a round's step keeps for the loop's law. -/
structure Stp (n₀ L : Nat) (W W' : World) : Prop where
  keeps : KeepsFrom L W W'
  kp : KpT n₀ L W W'
theorem Stp.trans {n₀ L : Nat} {a b c : World} (h : Stp n₀ L a b) (k : Stp n₀ L b c) : Stp n₀ L a c := ⟨h.keeps.trans k.keeps, h.kp.trans k.kp⟩
theorem Stp.row {n₀ L r : Nat} {W W' : World} (hg : W.grownBy W' (some r)) (h1 : n₀ ≤ r) (h2 : r < L) (hn : n₀ ≤ W.heap.size) : Stp n₀ L W W' :=
  ⟨KeepsFrom.of_grownBy hg (fun j e => by cases e; exact h2), below_of_grownBy hg hn (fun k e => by cases e; exact h1), fun b hb _ _ ho => hg.block b (Array.getElem?_eq_some_iff.1 ho).1 (fun e => by cases e; omega)⟩
theorem Stp.below {n₀ L : Nat} {W W' : World} (hb : Below W.heap.size W W') (hn : n₀ ≤ W.heap.size) : Stp n₀ L W W' :=
  ⟨KeepsFrom.of_grownBy (grownBy_below hb none) (fun j e => by cases e), hb.mono hn, fun b _ _ _ ho => hb.block b (Array.getElem?_eq_some_iff.1 ho).1⟩

/-- What the loop over a tree's parts keeps: right, the number of groups, the names. -/
def RI (w : World) (b : Nat) (s : Option (Nat × List (List UInt8))) (k : Nat) (W : World) : Prop :=
  ∃ (n : Nat) (S : List (List UInt8)) (m : Nat), s = some (n, S) ∧ n ≤ k ∧ m ≤ k ∧ Boxed W b 4 (.bool true) ∧ Boxed W (b + 1) 3 (.int .i64 n) ∧ Boxed W (b + 1 + 1 + 1) 55 (.map (some (b + 1 + 1))) ∧ SeenAt W (b + 1 + 1) m S ∧ Below w.heap.size w W ∧ b + 5 ≤ W.heap.size
def RX (w : World) (b : Nat) (s : Option (Nat × List (List UInt8))) (W : World) : Prop :=
  s = none ∧ Boxed W b 4 (.bool false) ∧ Below w.heap.size w W
theorem RI.kept {w : World} {b k L : Nat} {s : Option (Nat × List (List UInt8))} {W W' : World} {row : Option Nat} (h : RI w b s k W) (hg : W.grownBy W' row) (hr : ∀ r, row = some r → L ≤ r) (h1 : b + 4 ≤ L) (h2 : w.heap.size ≤ L) : RI w b s k W' := by
  obtain ⟨n, S, m, e, hn, hm, c1, c2, c3, c4, c5, c6⟩ := h
  have ne : ∀ j, j < L → some j ≠ row := fun j hj e => by have := hr j e.symm; omega
  exact ⟨n, S, m, e, hn, hm, c1.kept hg (ne _ (by omega)), c2.kept hg (ne _ (by omega)), c3.kept hg (ne _ (by omega)), c4.kept hg (ne _ (by omega)), c5.grown hg c5.size (fun j e => Nat.le_trans h2 (hr j e)), Nat.le_trans c6 hg.size⟩
theorem RX.kept {w : World} {b L : Nat} {s : Option (Nat × List (List UInt8))} {W W' : World} {row : Option Nat} (h : RX w b s W) (hg : W.grownBy W' row) (hr : ∀ r, row = some r → L ≤ r) (h1 : b + 4 ≤ L) (h2 : w.heap.size ≤ L) : RX w b s W' := by
  obtain ⟨e, c1, c5⟩ := h
  exact ⟨e, c1.kept hg (fun e => by have := hr b e.symm; omega), c5.grown hg c5.size (fun j e => Nat.le_trans h2 (hr j e))⟩

end Go.Proofs.YtnhnldmldnhaoaaGreatDoor

namespace Go.Proofs.YtnhnldmldnhaoaaGreatDoor
open Go Go.RowKit Go.Proofs Go.Shelf
attribute [local go_sem] Oper.semAt_some

end Go.Proofs.YtnhnldmldnhaoaaGreatDoor

namespace Go.Proofs.YtnhnldmldnhaoaaGreatDoor
open Go Go.RowKit Go.Proofs

end Go.Proofs.YtnhnldmldnhaoaaGreatDoor

namespace Go.Proofs.YtnhnldmldnhaoaaGreatDoor
open Go Go.RowKit Go.Proofs

def fromP (s : ByteArray) (p : Nat) : Option Nat := if stands s p [40, 63, 80, 60] = true then some (p + 4) else if stands s p [40, 63, 60] = true then some (p + 3) else none
def endP (s : ByteArray) (p : Nat) : Nat := if 0 ≤ Lib.indexByte (s.data.toList.drop p) 62 then p + (Lib.indexByte (s.data.toList.drop p) 62).toNat + 1 else s.size
def nameP (s : ByteArray) (p : Nat) : Except Nat (ByteArray × Nat) :=
  match fromP s p with
  | none => .error (endP s p)
  | some q => if 0 ≤ Lib.indexByte (s.data.toList.drop q) 62 ∧ nameB (s.extract q (q + (Lib.indexByte (s.data.toList.drop q) 62).toNat)) = true then
      .ok (s.extract q (q + (Lib.indexByte (s.data.toList.drop q) 62).toNat), q + (Lib.indexByte (s.data.toList.drop q) 62).toNat + 1) else .error (endP s p)
end Go.Proofs.YtnhnldmldnhaoaaGreatDoor

namespace Go.Proofs.YtnhnldmldnhaoaaGreatDoor
open Go Go.RowKit Go.Proofs

end Go.Proofs.YtnhnldmldnhaoaaGreatDoor

namespace Go.Proofs.YtnhnldmldnhaoaaGreatDoor
open Go Go.RowKit Go.Proofs

end Go.Proofs.YtnhnldmldnhaoaaGreatDoor

namespace Go.Proofs.YtnhnldmldnhaoaaGreatDoor
open Go Go.RowKit Go.Proofs

end Go.Proofs.YtnhnldmldnhaoaaGreatDoor

namespace Go.Proofs.YtnhnldmldnhaoaaGreatDoor
open Go Go.RowKit Go.Proofs

end Go.Proofs.YtnhnldmldnhaoaaGreatDoor

namespace Go.Proofs.YtnhnldmldnhaoaaGreatDoor
open Go Go.RowKit Go.Proofs Go.Shelf

end Go.Proofs.YtnhnldmldnhaoaaGreatDoor

namespace Go.Proofs.YtnhnldmldnhaoaaGreatDoor
open Go Go.RowKit Go.Proofs

end Go.Proofs.YtnhnldmldnhaoaaGreatDoor

namespace Go.Proofs.YtnhnldmldnhaoaaGreatDoor
open Go Go.RowKit Go.Proofs Go.Shelf

end Go.Proofs.YtnhnldmldnhaoaaGreatDoor

namespace Go.Proofs.YtnhnldmldnhaoaaGreatDoor
open Go Go.RowKit Go.Proofs Go.Shelf

/-- A rune, or an escape, at a place in the text. -/
def oneP (s : ByteArray) (p : Nat) (perl : Bool) : EscR := if stands s p [92] = true then escP s p perl else .lit 1 (nextC s p) 0 (nextW s p)
def nmL : List UInt8 := [97, 98, 99, 100, 101, 102, 103, 104, 105, 106, 107, 108, 109, 110, 111, 112, 113, 114, 115, 116, 117, 118, 119, 120, 121, 122, 94]
/-- Where a name between colons ends. -/
def namedP (s : ByteArray) (p : Nat) : Option Nat :=
  if stands s p [91, 58] = true then (if stands s (p + 2 + (runP s (p + 2) nmL).length) [58, 93] = true then some (p + 2 + (runP s (p + 2) nmL).length) else none) else none
def posL (nm : List UInt8) : Option (List (Int × Int)) :=
  if nm = [97, 108, 110, 117, 109] then some [(48, 57), (65, 90), (97, 122)]
  else if nm = [97, 108, 112, 104, 97] then some [(65, 90), (97, 122)]
  else if nm = [97, 115, 99, 105, 105] then some [(0, 127)]
  else if nm = [98, 108, 97, 110, 107] then some [(9, 9), (32, 32)]
  else if nm = [99, 110, 116, 114, 108] then some [(0, 31), (127, 127)]
  else if nm = [100, 105, 103, 105, 116] then some [(48, 57)]
  else if nm = [103, 114, 97, 112, 104] then some [(33, 126)]
  else if nm = [108, 111, 119, 101, 114] then some [(97, 122)]
  else if nm = [112, 114, 105, 110, 116] then some [(32, 126)]
  else if nm = [112, 117, 110, 99, 116] then some [(33, 47), (58, 64), (91, 96), (123, 126)]
  else if nm = [115, 112, 97, 99, 101] then some [(9, 13), (32, 32)]
  else if nm = [117, 112, 112, 101, 114] then some [(65, 90)]
  else if nm = [119, 111, 114, 100] then some [(48, 57), (65, 90), (95, 95), (97, 122)]
  else if nm = [120, 100, 105, 103, 105, 116] then some [(48, 57), (65, 70), (97, 102)]
  else none
def posSpec (nm : List UInt8) : Option (Int → Bool) := (posL (Lib.trimPrefix nm [94])).map fun l c => memR l c != Lib.hasPrefix nm [94]

inductive ItemR where
  | wrong (e f t : Int)
  | ok (f : Int → Bool) (q : Nat)
/-- Is there a - with an end behind it? -/
def rangedP (s : ByteArray) (q : Nat) : Bool := stands s q [45] && decide (q + 1 < s.size) && !stands s (q + 1) [93]
/-- What stands at a place as an item. -/
def itemP (s : ByteArray) (p : Nat) (perl : Bool) (fr : Int) : ItemR :=
  match namedP s p with
  | some k => match posSpec (s.data.toList.drop (p + 2) |>.take (k - (p + 2))) with
    | none => .wrong 72 p (k + 2 : Nat)
    | some f => .ok f (k + 2)
  | none =>
    if s.size ≤ p then .wrong 71 fr s.size
    else match oneP s p perl with
    | .wrong e f t => .wrong e f t
    | .set f q => .ok f q.toNat
    | .lit k r _ q =>
      if k ≠ 1 then .wrong 72 p q
      else if rangedP s q.toNat = true then
        match oneP s (q.toNat + 1) perl with
        | .wrong e f t => .wrong e f t
        | .set _ q2 => .wrong 72 p q2
        | .lit k2 r2 _ q2 => if k2 ≠ 1 ∨ r2 < r then .wrong 72 p q2 else .ok (fun c => decide (r ≤ c) && decide (c ≤ r2)) q2.toNat
      else .ok (fun c => decide (r ≤ c) && decide (c ≤ r)) q.toNat

/-- The items from a place on, with what those ahead of it have. -/
def restP (s : ByteArray) (perl : Bool) (fr : Int) : Nat → Nat → (Int → Bool) → ItemR
  | 0, _, _ => .wrong 0 0 0
  | n + 1, p, g =>
    if stands s p [93] = true then .ok g (p + 1)
    else match itemP s p perl fr with
    | .wrong e f t => .wrong e f t
    | .ok f q => restP s perl fr n q fun c => g c || f c
/-- Where the items of a class begin, behind its [ and ^. -/
def clsAt (s : ByteArray) (p : Nat) : Nat := if stands s (p + 1) [94] = true then p + 2 else p + 1
/-- What the items of the class at a place have. -/
def clsP (s : ByteArray) (p : Nat) (perl : Bool) : ItemR :=
  if ¬ stands s p [91] = true then .wrong 1 p p
  else match itemP s (clsAt s p) perl p with
  | .wrong e f t => .wrong e f t
  | .ok f q => restP s perl p (s.size + 1) q f

theorem nextW_gt (s : ByteArray) (p : Nat) (h : p < s.size) : p < nextW s p := by
  unfold nextW
  rw [if_pos h]
  have := Lib.decode_width_pos s p h
  omega
theorem codeP_q {s : ByteArray} {q : Nat} {n : Int} {r : Nat} (hq : q ≤ s.size) (h : codeP s q = some (n, r)) : q < r ∧ r ≤ s.size := by
  unfold codeP at h
  by_cases c1 : stands s q [123] = true
  · rw [if_pos c1] at h
    have l1 := stands_le (p := ⟨#[123]⟩) hq c1
    have l1' : q + 1 ≤ s.size := l1
    have l2 := runP_le s (q + 1) hexs
    by_cases h2 : (bracedN s q).2.1 = true
    · rw [if_pos h2] at h
      cases h
      unfold bracedN at h2 ⊢
      simp only [Bool.and_eq_true] at h2
      simp only [Bool.and_eq_true]
      rw [if_pos h2.1]
      have l3 := stands_le (p := ⟨#[125]⟩) (by omega) h2.1.2
      have l3' : q + 1 + (runP s (q + 1) hexs).length + 1 ≤ s.size := l3
      omega
    · rw [if_neg h2] at h; cases h
  · rw [if_neg c1] at h
    by_cases h3 : q + 1 < s.size
    · rw [drop_two s q h3] at h
      simp only at h
      split at h
      · cases h; omega
      · cases h
    · split at h
      · rename_i heq; exact absurd heq (drop_short s q (by omega) _ _ _)
      · cases h
theorem propP_q {s : ByteArray} {q : Nat} {nm : ByteArray} {r : Nat} (hq : q ≤ s.size) (h : propP s q = some (nm, r)) : q < r ∧ r ≤ s.size := by
  unfold propP at h
  by_cases c1 : stands s q [123] = true
  · rw [if_pos c1] at h
    have l1 := stands_le (p := ⟨#[123]⟩) hq c1
    have l1' : q + 1 ≤ s.size := l1
    by_cases h2 : 0 ≤ Lib.indexByte (s.data.toList.drop (q + 1)) 125
    · rw [if_pos h2] at h
      cases h
      obtain ⟨o, ho⟩ : ∃ o : Nat, Lib.indexByte (s.data.toList.drop (q + 1)) 125 = o := ⟨(Lib.indexByte (s.data.toList.drop (q + 1)) 125).toNat, by omega⟩
      rw [ho]
      obtain ⟨h1, _⟩ := Lib.indexByte_some ho
      have := (List.getElem?_eq_some_iff.1 h1).1
      simp at this
      simp only [Int.toNat_natCast]
      omega
    · rw [if_neg h2] at h; cases h
  · rw [if_neg c1] at h
    by_cases h3 : q < s.size
    · rw [if_pos h3] at h
      cases h
      exact ⟨nextW_gt s q h3, nextW_le s q hq⟩
    · rw [if_neg h3] at h; cases h
theorem namedP_q {s : ByteArray} {p k : Nat} (hp : p ≤ s.size) (h : namedP s p = some k) : p + 2 ≤ k ∧ k + 2 ≤ s.size := by
  unfold namedP at h
  by_cases c1 : stands s p [91, 58] = true
  · rw [if_pos c1] at h
    have l1 := stands_le (p := ⟨#[91, 58]⟩) hp c1
    have l1' : p + 2 ≤ s.size := l1
    have l2 := runP_le s (p + 2) nmL
    by_cases c2 : stands s (p + 2 + (runP s (p + 2) nmL).length) [58, 93] = true
    · rw [if_pos c2] at h
      cases h
      have l3 := stands_le (p := ⟨#[58, 93]⟩) (by omega) c2
      have l3' : p + 2 + (runP s (p + 2) nmL).length + 2 ≤ s.size := l3
      omega
    · rw [if_neg c2] at h; cases h
  · rw [if_neg c1] at h; cases h
end Go.Proofs.YtnhnldmldnhaoaaGreatDoor

namespace Go.Proofs.YtnhnldmldnhaoaaGreatDoor
open Go Go.RowKit Go.Proofs Go.Shelf

/-- The greatest number of ranges in a set. -/
theorem setFrom_len : ∀ {a : List (Int × Int)} {l0 : Int}, l0 ≤ 1114111 → setFrom l0 a = true → 2 * (a.length : Int) ≤ 1114111 - l0
  | [], l0, h0, h => by simp only [List.length_nil]; omega
  | x :: a, l0, h0, h => by
    unfold setFrom at h
    simp only [Bool.and_eq_true, decide_eq_true_eq] at h
    have := setFrom_len h.1.2 h.2
    rw [List.length_cons]
    omega
theorem IsSet.len {out : List (Int × Int)} {p : Int → Bool} (h : IsSet out p) : out.length ≤ 557058 := by
  have := setFrom_len (by omega) h.1
  omega

/-- What stands at a place as a class, read with flags: the set's members, the place behind. -/
def clsQ (s : ByteArray) (p : Nat) (perl : Bool) (fold : Option ((Int → Bool) → Int → Bool)) : ItemR := match clsP s p perl with
  | .wrong e f t => .wrong e f t
  | .ok g q => .ok (fun c => (match fold with | none => g c | some F => F g c) != stands s (p + 1) [94]) q
end Go.Proofs.YtnhnldmldnhaoaaGreatDoor

namespace Go.Proofs.YtnhnldmldnhaoaaGreatDoor
open Go Go.RowKit Go.Proofs Go.Shelf

mutual
/-- Those with | between. -/
noncomputable def partsP (s : ByteArray) : Nat → St → PR T
  | 0, _ => .out
  | n + 1, st => match partP s n st [] with
    | .out => .out
    | .wrong e f t => .wrong e f t
    | .ok t st' => altP s n st' [t]
/-- Those behind a |. -/
noncomputable def altP (s : ByteArray) : Nat → St → List T → PR T
  | 0, _, _ => .out
  | n + 1, st, l =>
    if stands s st.p [124] = true then match partP s n { st with p := st.p + 1 } [] with
      | .out => .out
      | .wrong e f t => .wrong e f t
      | .ok t st' => altP s n st' (l ++ [t])
    else match l with
      | [t] => .ok t st
      | l => .ok (kidsT 12 l) st
/-- Atoms, one behind the other. -/
noncomputable def partP (s : ByteArray) : Nat → St → List T → PR T
  | 0, _, _ => .out
  | n + 1, st, l =>
    if nextC s st.p = -1 ∨ nextC s st.p = 124 ∨ nextC s st.p = 41 then .ok (catT l) st
    else match signP s st.p with
    | (none, _) => match atomsP s n st with
      | .out => .out
      | .wrong e f t => .wrong e f t
      | .ok ts st' => partP s n st' (l ++ ts)
    | (some (op, mn, mx), q) => match l.getLast? with
      | none => .wrong 82 st.p q
      | some k => match repeatP s st.p q st.f op mn mx with
        | .error (e, f, t) => .wrong e f t
        | .ok (lz, q') => partP s n { st with p := q' } (l.dropLast ++ [repT op k mn mx lz])
/-- What stands next. -/
noncomputable def atomsP (s : ByteArray) : Nat → St → PR (List T)
  | 0, _ => .out
  | n + 1, st =>
    if nextC s st.p = 40 then openP s n st
    else if nextC s st.p = 92 then escapeP s st
    else if nextC s st.p = 91 then match clsQ s st.p (onB st.f 32) (if onB st.f 1 then some foldF else none) with
      | .wrong e f t => .wrong e f t
      | .ok g q => .ok [setT (normL g)] { st with p := q }
    else if nextC s st.p = 46 then .ok [setT (dotL st.f)] { st with p := nextW s st.p }
    else if nextC s st.p = 94 then .ok [leafT 5 0 [] (if onB st.f 4 = true then 4 else 1)] { st with p := nextW s st.p }
    else if nextC s st.p = 36 then .ok [leafT 5 0 [] (if onB st.f 4 = true then 8 else 2)] { st with p := nextW s st.p }
    else .ok [atomT st.f (nextC s st.p)] { st with p := nextW s st.p }
/-- What begins with a bracket. -/
noncomputable def openP (s : ByteArray) : Nat → St → PR (List T)
  | 0, _ => .out
  | n + 1, st =>
    if onB st.f 32 = true ∧ stands s st.p [40, 63] = true then
      if stands s st.p [40, 63, 80, 60] = true ∨ stands s st.p [40, 63, 60] = true then
        match nameP s st.p with
        | .error q => .wrong 64 st.p q
        | .ok (nm, q) => if st.ns.contains nm = true then .wrong 64 st.p q else match groupP s n { st with p := q } nm with
          | .out => .out
          | .wrong e f t => .wrong e f t
          | .ok t st' => .ok [t] st'
      else match flagsP s st.p st.f with
        | .error q => .wrong 65 st.p q
        | .ok (g, grp, q) => if grp = true then match closeP s n { st with p := q, f := g } with
            | .out => .out
            | .wrong e f t => .wrong e f t
            | .ok t st' => .ok [t] { st' with f := st.f }
          else .ok [] { st with p := q, f := g }
    else match groupP s n { st with p := st.p + 1 } ⟨#[]⟩ with
      | .out => .out
      | .wrong e f t => .wrong e f t
      | .ok t st' => .ok [t] st'
/-- A group that has a number. -/
noncomputable def groupP (s : ByteArray) : Nat → St → ByteArray → PR T
  | 0, _, _ => .out
  | n + 1, st, nm => match closeP s n { st with ns := st.ns ++ [nm] } with
    | .out => .out
    | .wrong e f t => .wrong e f t
    | .ok t st' => .ok (capT t (st.ns.length + 1) nm) { st' with f := st.f }
/-- What stands in a group, up to its end. -/
noncomputable def closeP (s : ByteArray) : Nat → St → PR T
  | 0, _ => .out
  | n + 1, st => match partsP s n st with
    | .out => .out
    | .wrong e f t => .wrong e f t
    | .ok t st' => if stands s st'.p [41] = true then .ok t { st' with p := st'.p + 1 } else .wrong 84 0 s.size
end
/-- A whole pattern. -/
noncomputable def wholeP (s : ByteArray) (f : Int) : PR T :=
  if onB f 2 = true then .ok (catT (runesT f s)) ⟨0, f, []⟩
  else match partsP s (8 * s.size + 8) ⟨0, f, []⟩ with
  | .out => .out
  | .wrong e f t => .wrong e f t
  | .ok t st => if st.p < s.size then .wrong 84 0 s.size else .ok t st
end Go.Proofs.YtnhnldmldnhaoaaGreatDoor

namespace Go.Proofs.YtnhnldmldnhaoaaGreatDoor
open Go Go.RowKit Go.Proofs

theorem byte_at {s : ByteArray} {p : Nat} (h : p < s.size) : s.data.toList[p]? = some s[p] := by
  have hz : s.data.toList.length = s.size := by simp
  rw [List.getElem?_eq_getElem (by omega)]
  simp
  rfl
/-- From a place on the text is UTF-8. -/
def Bd (s : ByteArray) (p : Nat) : Prop := Lib.validD (s.data.toList.drop p) = true
theorem drop_ne {s : ByteArray} {p : Nat} (h : p < s.size) : s.data.toList.drop p ≠ [] := fun e => by
  have h1 := congrArg List.length e
  have h2 : s.data.toList.length = s.size := by simp
  rw [List.length_drop, h2] at h1
  simp at h1
  omega
theorem Bd.step {s : ByteArray} {p : Nat} (h : Bd s p) (hp : p < s.size) : ¬ ((Utf8.decode s p).1 = 65533 ∧ (Utf8.decode s p).2 = 1) ∧ Bd s (p + (Utf8.decode s p).2) := by
  unfold Bd at h
  rw [Lib.validD_step _ (drop_ne hp), Lib.decodeL_drop] at h
  by_cases c : (Utf8.decode s p).1 = 65533 ∧ (Utf8.decode s p).2 = 1
  · rw [if_pos c] at h; cases h
  · rw [if_neg c, List.drop_drop] at h
    exact ⟨c, h⟩
theorem Bd.next {s : ByteArray} {p : Nat} (h : Bd s p) : Bd s (nextW s p) := by
  unfold nextW
  by_cases hp : p < s.size
  · rw [if_pos hp]; exact (h.step hp).2
  · rw [if_neg hp]; exact h
theorem Bd.len {s : ByteArray} {p : Nat} (h : Bd s p) (hp : p < s.size) : (p : Int) + Lib.runeLen (nextC s p) = nextW s p := by
  have h1 := (h.step hp).1
  unfold nextC nextW
  rw [if_pos hp, if_pos hp]
  by_cases c : (Utf8.decode s p).1 = 65533
  · have h2 := Lib.encode_decode (s.data.toList.drop p) (drop_ne hp) (by rw [Lib.decodeL_drop]; exact h1)
    have h3 := Lib.decodeL_le (s.data.toList.drop p) (drop_ne hp)
    rw [Lib.decodeL_drop] at h2 h3
    have h4 := congrArg List.length h2
    rw [c, List.length_take, Nat.min_eq_left h3] at h4
    rw [c]
    have h5 : (Lib.encodeRune ((65533 : Nat) : Int)).length = 3 := by decide
    have h6 : Lib.runeLen ((65533 : Nat) : Int) = 3 := by decide
    omega
  · have h2 := Lib.runeLen_decode (s.data.toList.drop p) (by rw [Lib.decodeL_drop]; exact c)
    rw [Lib.decodeL_drop] at h2
    rw [h2]; omega
theorem getD_drop (l : List UInt8) (p j : Nat) : (l.drop p).getD j 0 = l.getD (p + j) 0 := by
  rw [List.getD_eq_getElem?_getD, List.getD_eq_getElem?_getD, List.getElem?_drop]
/-- No byte below 128 stands inside a rune. -/
theorem Bd.inside {s : ByteArray} {p : Nat} (j : Nat) (h1 : 1 ≤ j) (h2 : j < (Utf8.decode s p).2) : 128 ≤ (s.data.toList.getD (p + j) 0).toNat := by
  obtain ⟨c2, c3, c4, c5⟩ := Lib.decodeN_conts (s.data.toList.drop p).length ((s.data.toList.drop p).getD 0 0).toNat ((s.data.toList.drop p).getD 1 0).toNat ((s.data.toList.drop p).getD 2 0).toNat ((s.data.toList.drop p).getD 3 0).toNat
  rw [← Lib.decodeL_N, Lib.decodeL_drop] at c2 c3 c4 c5
  rw [← getD_drop]
  have hj : j = 1 ∨ j = 2 ∨ j = 3 := by omega
  rcases hj with rfl | rfl | rfl
  · have := (c2 (by omega)).1; omega
  · have := (c3 (by omega)).1; omega
  · have := (c4 (by omega)).1; omega
/-- Where a byte below 128 stands a rune begins. -/
theorem Bd.asc {s : ByteArray} {c : UInt8} {q : Nat} (hc : s.data.toList[q]? = some c) (h128 : c.toNat < 128) : ∀ (n p : Nat), q - p ≤ n → p ≤ q → Bd s p → Bd s q
  | 0, p, hn, hpq, h => by
    obtain rfl : p = q := by omega
    exact h
  | n + 1, p, hn, hpq, h => by
    by_cases e : p = q
    · subst e; exact h
    · have hq := (List.getElem?_eq_some_iff.1 hc).1
      have hz : s.data.toList.length = s.size := by simp
      have hp : p < s.size := by omega
      have hw := Lib.decode_width_pos s p hp
      by_cases hlt : q < p + (Utf8.decode s p).2
      · have h1 := Bd.inside (s := s) (p := p) (q - p) (by omega) (by omega)
        rw [show p + (q - p) = q by omega, List.getD_eq_getElem?_getD, hc] at h1
        simp only [Option.getD_some] at h1
        omega
      · exact Bd.asc hc h128 n (p + (Utf8.decode s p).2) (by omega) (by omega) (h.step hp).2
theorem Bd.one {s : ByteArray} {c : UInt8} {p : Nat} (h : Bd s p) (hc : s.data.toList[p]? = some c) (h128 : c.toNat < 128) : Bd s (p + 1) := by
  unfold Bd at h ⊢
  obtain ⟨hl, e⟩ := List.getElem?_eq_some_iff.1 hc
  rw [List.drop_eq_getElem_cons hl, e, Lib.validD_cons c _ h128] at h
  exact h
theorem Bd.behind {s : ByteArray} {c : UInt8} {p q : Nat} (h : Bd s p) (hpq : p ≤ q) (hc : s.data.toList[q]? = some c) (h128 : c.toNat < 128) : Bd s (q + 1) :=
  (Bd.asc hc h128 (q - p) p (Nat.le_refl _) hpq h).one hc h128
theorem Bd.sign {s : ByteArray} {c : UInt8} {p q : Nat} (h : Bd s p) (hpq : p ≤ q) (hs : stands s q [c] = true) (h128 : c.toNat < 128) : Bd s (q + 1) := by
  obtain ⟨hl, e⟩ := (stands_one s q c).1 hs
  refine h.behind hpq (c := c) ?_ h128
  have hz : s.data.toList.length = s.size := by simp
  rw [List.getElem?_eq_getElem (by omega), ← e]
  simp
  rfl
theorem Bd.end_ (s : ByteArray) : Bd s s.size := by
  unfold Bd
  have hz : s.data.toList.length = s.size := by simp
  rw [List.drop_eq_nil_of_le (by omega)]
  rfl
end Go.Proofs.YtnhnldmldnhaoaaGreatDoor

namespace Go.Proofs.YtnhnldmldnhaoaaGreatDoor
open Go Go.RowKit Go.Proofs

theorem stands_at {s : ByteArray} {p : Nat} {x : List UInt8} (h : stands s p x = true) (k : Nat) (v : UInt8) (hk : x[k]? = some v) : s.data.toList[p + k]? = some v := by
  unfold stands Lib.hasPrefix at h
  obtain ⟨t, ht⟩ := List.isPrefixOf_iff_prefix.1 h
  have := congrArg (fun l => l[k]?) ht
  simp only [List.getElem?_drop] at this
  rw [← this, List.getElem?_append_left (List.getElem?_eq_some_iff.1 hk).1, hk]
end Go.Proofs.YtnhnldmldnhaoaaGreatDoor
