/- What an item of a class is: one answer for both sides. -/
import Derived.Test.YtnafemcholkmlaaGreatDoorQEscGo
import Derived.Test.YtnafemcholkmlaaGreatDoorQScan1
import Derived.Lib.RuneCount
namespace Go.Proofs.YtnafemcholkmlaaGreatDoor
open Go Go.RowKit Go.Proofs Go.Shelf

/-- A rune, or an escape, at a place in the text. -/
def oneP (s : ByteArray) (p : Nat) (perl : Bool) : EscR := if stands s p [92] = true then escP s p perl else .lit 1 (nextC s p) 0 (nextW s p)
def nmL : List UInt8 := [97, 98, 99, 100, 101, 102, 103, 104, 105, 106, 107, 108, 109, 110, 111, 112, 113, 114, 115, 116, 117, 118, 119, 120, 121, 122, 94]
/-- Where a name between colons ends. -/
def namedP (s : ByteArray) (p : Nat) : Option Nat :=
  if stands s p [91, 58] = true then (if stands s (p + 2 + (runP s (p + 2) nmL).length) [58, 93] = true then some (p + 2 + (runP s (p + 2) nmL).length) else none) else none
def posL (nm : List UInt8) : Option (List (Int × Int)) :=
  if nm = [97, 108, 110, 117, 109] then some [(48, 57), (65, 90), (97, 122)]
  else if nm = [97, 108, 112, 104, 97] then some [(65, 90), (97, 122)]
  else if nm = [97, 115, 99, 105, 105] then some [(0, 127)]
  else if nm = [98, 108, 97, 110, 107] then some [(9, 9), (32, 32)]
  else if nm = [99, 110, 116, 114, 108] then some [(0, 31), (127, 127)]
  else if nm = [100, 105, 103, 105, 116] then some [(48, 57)]
  else if nm = [103, 114, 97, 112, 104] then some [(33, 126)]
  else if nm = [108, 111, 119, 101, 114] then some [(97, 122)]
  else if nm = [112, 114, 105, 110, 116] then some [(32, 126)]
  else if nm = [112, 117, 110, 99, 116] then some [(33, 47), (58, 64), (91, 96), (123, 126)]
  else if nm = [115, 112, 97, 99, 101] then some [(9, 13), (32, 32)]
  else if nm = [117, 112, 112, 101, 114] then some [(65, 90)]
  else if nm = [119, 111, 114, 100] then some [(48, 57), (65, 90), (95, 95), (97, 122)]
  else if nm = [120, 100, 105, 103, 105, 116] then some [(48, 57), (65, 70), (97, 102)]
  else none
def posSpec (nm : List UInt8) : Option (Int → Bool) := (posL (Lib.trimPrefix nm [94])).map fun l c => memR l c != Lib.hasPrefix nm [94]

inductive ItemR where
  | wrong (e f t : Int)
  | ok (f : Int → Bool) (q : Nat)
/-- Is there a - with an end behind it? -/
def rangedP (s : ByteArray) (q : Nat) : Bool := stands s q [45] && decide (q + 1 < s.size) && !stands s (q + 1) [93]
/-- What stands at a place as an item. -/
def itemP (s : ByteArray) (p : Nat) (perl : Bool) (fr : Int) : ItemR :=
  match namedP s p with
  | some k => match posSpec (s.data.toList.drop (p + 2) |>.take (k - (p + 2))) with
    | none => .wrong 72 p (k + 2 : Nat)
    | some f => .ok f (k + 2)
  | none =>
    if s.size ≤ p then .wrong 71 fr s.size
    else match oneP s p perl with
    | .wrong e f t => .wrong e f t
    | .set f q => .ok f q.toNat
    | .lit k r _ q =>
      if k ≠ 1 then .wrong 72 p q
      else if rangedP s q.toNat = true then
        match oneP s (q.toNat + 1) perl with
        | .wrong e f t => .wrong e f t
        | .set _ q2 => .wrong 72 p q2
        | .lit k2 r2 _ q2 => if k2 ≠ 1 ∨ r2 < r then .wrong 72 p q2 else .ok (fun c => decide (r ≤ c) && decide (c ≤ r2)) q2.toNat
      else .ok (fun c => decide (r ≤ c) && decide (c ≤ r)) q.toNat

/-- The items from a place on, with what those ahead of it have. -/
def restP (s : ByteArray) (perl : Bool) (fr : Int) : Nat → Nat → (Int → Bool) → ItemR
  | 0, _, _ => .wrong 0 0 0
  | n + 1, p, g =>
    if stands s p [93] = true then .ok g (p + 1)
    else match itemP s p perl fr with
    | .wrong e f t => .wrong e f t
    | .ok f q => restP s perl fr n q fun c => g c || f c
/-- Where the items of a class begin, behind its [ and ^. -/
def clsAt (s : ByteArray) (p : Nat) : Nat := if stands s (p + 1) [94] = true then p + 2 else p + 1
/-- What the items of the class at a place have. -/
def clsP (s : ByteArray) (p : Nat) (perl : Bool) : ItemR :=
  if ¬ stands s p [91] = true then .wrong 1 p p
  else match itemP s (clsAt s p) perl p with
  | .wrong e f t => .wrong e f t
  | .ok f q => restP s perl p (s.size + 1) q f

theorem nextW_gt (s : ByteArray) (p : Nat) (h : p < s.size) : p < nextW s p := by
  unfold nextW
  rw [if_pos h]
  have := Lib.decode_width_pos s p h
  omega
theorem nextC_in (s : ByteArray) (p : Nat) (h : p < s.size) : 0 ≤ nextC s p ∧ nextC s p ≤ 1114111 := by
  have h1 := nextC_le s p
  unfold nextC at h1 ⊢
  rw [if_pos h] at h1 ⊢
  omega
theorem codeP_q {s : ByteArray} {q : Nat} {n : Int} {r : Nat} (hq : q ≤ s.size) (h : codeP s q = some (n, r)) : q < r ∧ r ≤ s.size := by
  unfold codeP at h
  by_cases c1 : stands s q [123] = true
  · rw [if_pos c1] at h
    have l1 := stands_le (p := ⟨#[123]⟩) hq c1
    have l1' : q + 1 ≤ s.size := l1
    have l2 := runP_le s (q + 1) hexs
    by_cases h2 : (bracedN s q).2.1 = true
    · rw [if_pos h2] at h
      cases h
      unfold bracedN at h2 ⊢
      simp only [Bool.and_eq_true] at h2
      simp only [Bool.and_eq_true]
      rw [if_pos h2.1]
      have l3 := stands_le (p := ⟨#[125]⟩) (by omega) h2.1.2
      have l3' : q + 1 + (runP s (q + 1) hexs).length + 1 ≤ s.size := l3
      omega
    · rw [if_neg h2] at h; cases h
  · rw [if_neg c1] at h
    by_cases h3 : q + 1 < s.size
    · rw [drop_two s q h3] at h
      simp only at h
      split at h
      · cases h; omega
      · cases h
    · split at h
      · rename_i heq; exact absurd heq (drop_short s q (by omega) _ _ _)
      · cases h
theorem propP_q {s : ByteArray} {q : Nat} {nm : ByteArray} {r : Nat} (hq : q ≤ s.size) (h : propP s q = some (nm, r)) : q < r ∧ r ≤ s.size := by
  unfold propP at h
  by_cases c1 : stands s q [123] = true
  · rw [if_pos c1] at h
    have l1 := stands_le (p := ⟨#[123]⟩) hq c1
    have l1' : q + 1 ≤ s.size := l1
    by_cases h2 : 0 ≤ Lib.indexByte (s.data.toList.drop (q + 1)) 125
    · rw [if_pos h2] at h
      cases h
      obtain ⟨o, ho⟩ : ∃ o : Nat, Lib.indexByte (s.data.toList.drop (q + 1)) 125 = o := ⟨(Lib.indexByte (s.data.toList.drop (q + 1)) 125).toNat, by omega⟩
      rw [ho]
      obtain ⟨h1, _⟩ := Lib.indexByte_some ho
      have := (List.getElem?_eq_some_iff.1 h1).1
      simp at this
      simp only [Int.toNat_natCast]
      omega
    · rw [if_neg h2] at h; cases h
  · rw [if_neg c1] at h
    by_cases h3 : q < s.size
    · rw [if_pos h3] at h
      cases h
      exact ⟨nextW_gt s q h3, nextW_le s q hq⟩
    · rw [if_neg h3] at h; cases h
/-- An escape's place behind it lies behind it, in the text. -/
def QOk (s : ByteArray) (p : Nat) : EscR → Prop
  | .wrong _ _ _ => True
  | .lit _ _ _ q => ∃ Q : Nat, q = Q ∧ p < Q ∧ Q ≤ s.size
  | .set _ q => ∃ Q : Nat, q = Q ∧ p < Q ∧ Q ≤ s.size
theorem escP_q (s : ByteArray) (p : Nat) (perl : Bool) (_ : p ≤ s.size) : QOk s p (escP s p perl) := by
  unfold escP
  split
  · trivial
  split
  · trivial
  rename_i h1
  have hg := nextW_gt s (p + 1) (by omega)
  have hl := nextW_le s (p + 1) (by omega)
  have ok : ∃ Q : Nat, ((nextW s (p + 1) : Nat) : Int) = Q ∧ p < Q ∧ Q ≤ s.size := ⟨_, rfl, by omega, hl⟩
  split
  · exact ok
  split
  · exact ok
  split
  · unfold escX
    cases hc : codeP s (nextW s (p + 1)) with
    | none => trivial
    | some x =>
      have := codeP_q hl hc
      exact ⟨_, rfl, by omega, this.2⟩
  split
  · unfold escPr
    cases hc : propP s (nextW s (p + 1)) with
    | none => trivial
    | some x =>
      have := propP_q hl hc
      simp only
      split
      · trivial
      · exact ⟨_, rfl, by omega, this.2⟩
  split
  · trivial
  unfold escPl
  split
  · exact ok
  split
  · exact ok
  split
  · trivial
  · exact ok
theorem oneP_q (s : ByteArray) (p : Nat) (perl : Bool) (hp : p < s.size) : QOk s p (oneP s p perl) := by
  unfold oneP
  split
  · exact escP_q s p perl (by omega)
  · exact ⟨_, rfl, nextW_gt s p hp, nextW_le s p (by omega)⟩
theorem namedP_q {s : ByteArray} {p k : Nat} (hp : p ≤ s.size) (h : namedP s p = some k) : p + 2 ≤ k ∧ k + 2 ≤ s.size := by
  unfold namedP at h
  by_cases c1 : stands s p [91, 58] = true
  · rw [if_pos c1] at h
    have l1 := stands_le (p := ⟨#[91, 58]⟩) hp c1
    have l1' : p + 2 ≤ s.size := l1
    have l2 := runP_le s (p + 2) nmL
    by_cases c2 : stands s (p + 2 + (runP s (p + 2) nmL).length) [58, 93] = true
    · rw [if_pos c2] at h
      cases h
      have l3 := stands_le (p := ⟨#[58, 93]⟩) (by omega) c2
      have l3' : p + 2 + (runP s (p + 2) nmL).length + 2 ≤ s.size := l3
      omega
    · rw [if_neg c2] at h; cases h
  · rw [if_neg c1] at h; cases h
theorem itemP_q {s : ByteArray} {p : Nat} {perl : Bool} {fr : Int} {f : Int → Bool} {q : Nat} (hp : p ≤ s.size) (h : itemP s p perl fr = .ok f q) : p < q ∧ q ≤ s.size := by
  unfold itemP at h
  cases hn : namedP s p with
  | some k =>
    rw [hn] at h
    have hk := namedP_q hp hn
    simp only at h
    split at h
    · cases h
    · cases h; omega
  | none =>
    rw [hn] at h
    simp only at h
    split at h
    · cases h
    rename_i h1
    have hq := oneP_q s p perl (by omega)
    cases ho : oneP s p perl with
    | wrong e f t => rw [ho] at h; cases h
    | set f' q' =>
      rw [ho] at h hq
      obtain ⟨Q, rfl, h2, h3⟩ := hq
      cases h
      simp only [Int.toNat_natCast]; exact ⟨h2, h3⟩
    | lit k r a q' =>
      rw [ho] at h hq
      obtain ⟨Q, rfl, h2, h3⟩ := hq
      simp only [Int.toNat_natCast] at h
      split at h
      · cases h
      split at h
      · rename_i hr
        unfold rangedP at hr
        simp only [Bool.and_eq_true, decide_eq_true_eq] at hr
        have hq2 := oneP_q s (Q + 1) perl hr.1.2
        cases ho2 : oneP s (Q + 1) perl with
        | wrong e f t => rw [ho2] at h; cases h
        | set f' q' => rw [ho2] at h; cases h
        | lit k r a q' =>
          rw [ho2] at h hq2
          obtain ⟨Q2, rfl, h4, h5⟩ := hq2
          simp only [Int.toNat_natCast] at h
          split at h
          · cases h
          · cases h; omega
      · cases h; exact ⟨h2, h3⟩
end Go.Proofs.YtnafemcholkmlaaGreatDoor
