/- The reader's state; what begins with a backslash; a dot's set. A repeat's sign in a pattern, as the reader takes it. A group's flags: scan.Flags. A tree with the fields alone that its Op has: trees.bare. A group's name: trees.name. Has a tree just the fields of its Op, and may they be? trees.plain. Is a place one of some? slices.Contains at api.At. Has a tree just the fields of its Op, and may they be? trees.plain. Has a tree just the fields of its Op, and may they be? trees.plain. trees.plain as one contract: has a tree just the fields of its Op, and may they be? A set of strings kept in a map[string]bool of the call's own: made, asked, told.  How great a program may be that does a tree: trees.Weight. -/
import Derived.Test.YtnhnldmldnhaoaaGreatDoorDSynRunes
import Derived.Test.YtnhnldmldnhaoaaGreatDoorDRefHas
import Derived.Lib.Index
import Derived.Test.YtnhnldmldnhaoaaGreatDoorDCount
import Derived.BigRegion
import Derived.ScopeJumps
import Derived.LoopTactic
import Derived.Below
import Derived.Test.YtnhnldmldnhaoaaGreatDoorDBase
import Derived.Test.YtnhnldmldnhaoaaGreatDoorProg
import Derived.WalkKit
import Derived.Lib.Hide
import Derived.WalkSpells
import Derived.WalkLawsBesides
import Derived.Test.YtnhnldmldnhaoaaGreatDoorDSetsPure
import Derived.Maps.OwnIn
import Derived.Maps.Views
import Derived.RangeFuncWrites
import Derived.StringKeys
namespace Go.Proofs.YtnhnldmldnhaoaaGreatDoor
open Go Go.RowKit Go.Proofs Go.Shelf

/-- The reader's place, flags, groups' names. -/
structure St where
  p : Nat
  f : Int
  ns : List ByteArray
inductive PR (α : Type) where
  | out
  | wrong (e f t : Int)
  | ok (a : α) (st : St)

/-- Where a quoted text ends; the place behind. -/
def quoteP (s : ByteArray) (p : Nat) : ByteArray × Nat :=
  if 0 ≤ Lib.index (s.data.toList.drop p) [92, 69] then (s.extract p (p + (Lib.index (s.data.toList.drop p) [92, 69]).toNat), p + (Lib.index (s.data.toList.drop p) [92, 69]).toNat + 2)
  else (s.extract p s.size, s.size)
/-- What begins with a backslash. -/
noncomputable def escapeP (s : ByteArray) (st : St) : PR (List T) :=
  match escP s st.p (onB st.f 32) with
  | .wrong e a b => .wrong e a b
  | .set g q => .ok [setT (normL (if onB st.f 1 = true then foldF g else g))] { st with p := q.toNat }
  | .lit k r a q =>
    if k = 1 then .ok [atomT st.f r] { st with p := q.toNat }
    else if k = 3 then .ok [leafT 5 0 [] a] { st with p := q.toNat }
    else .ok (runesT st.f (quoteP s q.toNat).1) { st with p := (quoteP s q.toNat).2 }
/-- A dot's set. -/
def dotL (f : Int) : List (Int × Int) := if onB f 8 = true then [(0, 1114111)] else [(0, 9), (11, 1114111)]

end Go.Proofs.YtnhnldmldnhaoaaGreatDoor

namespace Go.Proofs.YtnhnldmldnhaoaaGreatDoor
open Go Go.RowKit Go.Proofs

/-- A repeat's sign: its kind, its counts; the place behind. -/
def signP (s : ByteArray) (p : Nat) : Option (Int × Int × Int) × Nat :=
  if stands s p [42] = true then (some (7, 0, 0), p + 1)
  else if stands s p [43] = true then (some (8, 0, 0), p + 1)
  else if stands s p [63] = true then (some (9, 0, 0), p + 1)
  else match countP s p with
  | some (a, b, q) => (some (10, a, b), q)
  | none => (none, p)
def badCount (op mn mx : Int) : Prop := op = 10 ∧ (1000 < max mn mx ∨ 0 ≤ mx ∧ mx < mn)
instance (op mn mx : Int) : Decidable (badCount op mn mx) := by unfold badCount; infer_instance
/-- The place behind a ?, if it may stand there. -/
def lazyAt (s : ByteArray) (p : Nat) (f : Int) : Bool := onB f 32 && stands s p [63]
def behindLazy (s : ByteArray) (p : Nat) (f : Int) : Nat := if lazyAt s p f = true then p + 1 else p
/-- A repeat whose sign is taken: lazy?, the place behind. -/
def repeatP (s : ByteArray) (fr p : Nat) (f op mn mx : Int) : Except (Int × Int × Int) (Bool × Nat) :=
  if badCount op mn mx then .error (85, fr, p)
  else match signP s (behindLazy s p f) with
  | (none, _) => .ok (lazyAt s p f != onB f 16, behindLazy s p f)
  | (some (o2, a2, b2), q) => if badCount o2 a2 b2 then .error (85, (behindLazy s p f : Nat), q) else .error (83, fr, (behindLazy s q f : Nat))
end Go.Proofs.YtnhnldmldnhaoaaGreatDoor

namespace Go.Proofs.YtnhnldmldnhaoaaGreatDoor
open Go Go.RowKit Go.Proofs

/-- A letter's flag. -/
def flagOf (c : Int) : Int := if c = 105 then 1 else if c = 109 then 4 else if c = 115 then 8 else if c = 85 then 16 else 0

/-- The letters, from a place on. -/
def flagsRun (s : ByteArray) : Nat → Nat → Int → Bool → Bool → Except Nat (Int × Bool × Nat)
  | 0, _, _, _, _ => .error s.size
  | k + 1, p, f, off, any =>
    if flagOf (nextC s p) ≠ 0 then
      if off then flagsRun s k (p + 1) (bits .andNot .i64 f (flagOf (nextC s p))) off true
      else flagsRun s k (p + 1) (bits .or .i64 f (flagOf (nextC s p))) off any
    else if nextC s p = 45 ∧ off = false then flagsRun s k (p + 1) f true any
    else if (nextC s p = 58 ∨ nextC s p = 41) ∧ off = any then .ok (f, decide (nextC s p = 58), p + 1)
    else .error (nextW s p)
/-- A group's flags at a place. -/
def flagsP (s : ByteArray) (at_ : Nat) (f : Int) : Except Nat (Int × Bool × Nat) :=
  if nextC s at_ ≠ 40 then .error (nextW s at_)
  else if nextC s (at_ + 1) ≠ 63 then .error (nextW s (at_ + 1))
  else flagsRun s (s.size + 1 - (at_ + 2)) (at_ + 2) f false false
theorem flagOf_small {c : Int} (h : flagOf c ≠ 0) : 0 ≤ c ∧ c < 128 := by
  unfold flagOf at h
  repeat' split at h
  all_goals omega
end Go.Proofs.YtnhnldmldnhaoaaGreatDoor

namespace Go.Proofs.YtnhnldmldnhaoaaGreatDoor
open Go Go.RowKit Go.Proofs

end Go.Proofs.YtnhnldmldnhaoaaGreatDoor

namespace Go.Proofs.YtnhnldmldnhaoaaGreatDoor
open Go Go.RowKit Go.Proofs

/-- A byte of a word. -/
def wordB (c : UInt8) : Bool := (decide (97 ≤ c.toNat) && decide (c.toNat ≤ 122)) || (decide (65 ≤ c.toNat) && decide (c.toNat ≤ 90)) || (decide (48 ≤ c.toNat) && decide (c.toNat ≤ 57)) || decide (c.toNat = 95)
def digB (c : UInt8) : Bool := decide (48 ≤ c.toNat) && decide (c.toNat ≤ 57)
/-- A name. -/
def nameB (s : ByteArray) : Bool := decide (0 < s.size) && decide (s.size ≤ 32) && !digB (s.data.toList.getD 0 0) && s.data.toList.all wordB

end Go.Proofs.YtnhnldmldnhaoaaGreatDoor

namespace Go.Proofs.YtnhnldmldnhaoaaGreatDoor
open Go Go.RowKit Go.Proofs

end Go.Proofs.YtnhnldmldnhaoaaGreatDoor

namespace Go.Proofs.YtnhnldmldnhaoaaGreatDoor
open Go Go.RowKit Go.Proofs

end Go.Proofs.YtnhnldmldnhaoaaGreatDoor

namespace Go.Proofs.YtnhnldmldnhaoaaGreatDoor
open Go Go.RowKit Go.Proofs


end Go.Proofs.YtnhnldmldnhaoaaGreatDoor

namespace Go.Proofs.YtnhnldmldnhaoaaGreatDoor
open Go Go.RowKit Go.Proofs


end Go.Proofs.YtnhnldmldnhaoaaGreatDoor

namespace Go.Proofs.YtnhnldmldnhaoaaGreatDoor
open Go Go.RowKit Go.Proofs

end Go.Proofs.YtnhnldmldnhaoaaGreatDoor

namespace Go.Proofs.YtnhnldmldnhaoaaGreatDoor
open Go Go.RowKit Go.Proofs Go.Maps

def SeenAt (W : World) (b n : Nat) (S : List (List UInt8)) : Prop :=
  ∃ D : DataW Nat, W.ownsMap Tryz.prog 9 (plainElem Tryz.prog 4) b n D ∧ IsMap D ∧ ∀ s : List UInt8, D.atKey (.string s) (.lit (.bool false)) = .lit (.bool (decide (s ∈ S)))

theorem seenLaw : Keyed Tryz.prog 9 := string_keyed Tryz.underlying9
theorem seenZero (w : World) : (zeroValue 4).run Tryz.prog w = .ok (.bool false) w := by kernel_rfl

theorem plainElem_bool_inv {H : Type} {P : Program} {e : TypeId} (he : P.underlying e = some .bool) {v : Value} {z : DataW H × List MemPlace} (h : plainElem P e v = some z) : ∃ x, v = .bool x ∧ z = (.lit (.bool x), []) := by
  unfold plainElem at h
  rw [he] at h
  cases v <;> simp at h
  exact ⟨_, rfl, h.symm⟩

theorem SeenAt.made (w : World) : SeenAt (w.alloc (.map #[] 0)) w.heap.size 0 [] :=
  ⟨.map [], World.ownsMap_made w _ _ _, isMap_empty, fun s => by simp [atKey_of_not_has (D := (.map [] : DataW Nat)) (k := .string s) rfl]⟩
theorem SeenAt.kept {W W' : World} {b n : Nat} {S : List (List UInt8)} {row : Option Nat} (h : SeenAt W b n S) (hg : W.grownBy W' row) (hne : some b ≠ row) : SeenAt W' b n S := by
  obtain ⟨D, h1, h2⟩ := h
  exact ⟨D, h1.kept hg hne, h2⟩
theorem SeenAt.alloc {W : World} {b n : Nat} {S : List (List UInt8)} (h : SeenAt W b n S) (o : Obj) : SeenAt (W.alloc o) b n S := h.kept (World.grownBy_alloc W o none) (by simp)
theorem SeenAt.lt {W : World} {b n : Nat} {S : List (List UInt8)} (h : SeenAt W b n S) : b < W.heap.size := by
  obtain ⟨D, h1, _⟩ := h
  exact h1.lt
theorem SeenAt.block {W : World} {b n : Nat} {S : List (List UInt8)} (h : SeenAt W b n S) : ∃ o, W.heap[b]? = some o ∧ o.isCells = false := by
  obtain ⟨D, ⟨es, ck, hh, _⟩, _⟩ := h
  exact ⟨_, hh, rfl⟩
theorem SeenAt.look {W : World} {b n : Nat} {S : List (List UInt8)} (h : SeenAt W b n S) (s : ByteArray) (hs : s.size ≤ maxLen) :
    (Instr.lookup 55 (.map (some b)) (.string s) false).run Tryz.prog W = .ok (.bool (decide (s.data.toList ∈ S))) W := by
  obtain ⟨D, h1, _, h3⟩ := h
  obtain ⟨v, ps, hrun, hv⟩ := h1.lookup seenLaw Tryz.underlying55 (seenZero W) (plainElem_bool Tryz.underlying4 false) (WideMaps.keyOf_string_mk Tryz.underlying9 hs)
  obtain ⟨x, rfl, hz⟩ := plainElem_bool_inv Tryz.underlying4 hv
  rw [h3] at hz
  simp only [Prod.mk.injEq, DataW.lit.injEq, Lit.bool.injEq] at hz
  rw [hrun, hz.1]

theorem SeenAt.put {W' : World} {b n : Nat} {S : List (List UInt8)} {D : DataW Nat} {s : List UInt8} (hm : IsMap D) (h3 : ∀ s : List UInt8, D.atKey (.string s) (.lit (.bool false)) = .lit (.bool (decide (s ∈ S))))
    (h : W'.ownsMap Tryz.prog 9 (plainElem Tryz.prog 4) b n (D.put (.string s) (.lit (.bool true)))) : SeenAt W' b n (s :: S) := by
  refine ⟨_, h, hm.put _ _, fun s' => ?_⟩
  by_cases e : s' = s
  · subst e
    rw [atKey_put_same hm (by unfold WideAt.IsKeyLit; trivial)]; simp
  · rw [atKey_put_other (fun h => e (by cases h; rfl)), h3]; simp [e]

end Go.Proofs.YtnhnldmldnhaoaaGreatDoor

namespace Go.Proofs.YtnhnldmldnhaoaaGreatDoor
open Go Go.RowKit Go.Proofs

mutual
def depth : T → Nat
  | .mk _ kids _ _ _ _ _ _ _ _ => depthL kids + 1
def depthL : List T → Nat
  | [] => 0
  | t :: ts => max (depth t) (depthL ts)
end
theorem depth_le_depthL {l : List T} {k : Nat} (h : k < l.length) : depth l[k] ≤ depthL l := by
  induction l generalizing k with
  | nil => simp at h
  | cons t l ih =>
    cases k with
    | zero => simp [depthL]; omega
    | succ k => have := ih (k := k) (by simpa using h); simp [depthL]; omega
theorem depthL_take_le (l : List T) (k : Nat) : depthL (l.take k) ≤ depthL l := by
  induction l generalizing k with
  | nil => simp
  | cons t l ih =>
    cases k with
    | zero => simp [depthL]
    | succ k => have := ih k; simp [depthL]; omega
theorem depthL_take_succ (l : List T) (k : Nat) (h : k < l.length) : depthL (l.take (k + 1)) = max (depthL (l.take k)) (depth l[k]) := by
  induction l generalizing k with
  | nil => simp at h
  | cons t l ih =>
    cases k with
    | zero => simp [depthL]
    | succ k => simp [depthL, ih k (by simpa using h), Nat.max_assoc]

end Go.Proofs.YtnhnldmldnhaoaaGreatDoor

namespace Go.Proofs.YtnhnldmldnhaoaaGreatDoor
open Go Go.RowKit Go.Proofs

/-- What a tree's Op adds to its kids' weights. -/
def weightK (op n : Int) (kn : Nat) (mn mx : Int) : Int :=
  min (if op = 6 then n + 2 else if op = 12 then n + min (kn : Int) 4001 else if op = 10 then n * min (max (max mn mx) 1) 4001 + min (max (max mn mx) 1) 4001 + 1
    else if op = 7 ∨ op = 8 ∨ op = 9 ∨ op = 11 then n + 1 else 1) 4001
mutual
def weight : T → Int
  | .mk op kids _ _ _ _ _ mn mx _ => weightK op (weightF 0 kids) kids.length mn mx
def weightF (n : Int) : List T → Int
  | [] => n
  | t :: ts => weightF (min (n + weight t) 4001) ts
end
theorem weightF_snoc (n : Int) (l : List T) (t : T) : weightF n (l ++ [t]) = min (weightF n l + weight t) 4001 := by
  induction l generalizing n with
  | nil => simp [weightF]
  | cons a l ih => simp [weightF, ih]
theorem weightF_take (l : List T) (k : Nat) (h : k < l.length) : weightF 0 (l.take (k + 1)) = min (weightF 0 (l.take k) + weight l[k]) 4001 := by
  rw [List.take_succ_eq_append_getElem h, weightF_snoc]
theorem weightK_le (op n : Int) (kn : Nat) (mn mx : Int) (h : 0 ≤ n) : 0 ≤ weightK op n kn mn mx ∧ weightK op n kn mn mx ≤ 4001 := by
  have hk : 0 ≤ n * min (max (max mn mx) 1) 4001 := Int.mul_nonneg h (by omega)
  unfold weightK
  generalize n * min (max (max mn mx) 1) 4001 = q at *
  constructor
  · repeat' split
    all_goals omega
  · omega
theorem weight_le (t : T) : 0 ≤ weight t ∧ weight t ≤ 4001 := by
  induction t using T.ind with
  | h op kids rune set pl cap name mn mx lz ih =>
    have hf : ∀ (l : List T) (n : Int), (∀ k ∈ l, 0 ≤ weight k ∧ weight k ≤ 4001) → 0 ≤ n → 0 ≤ weightF n l := by
      intro l
      induction l with
      | nil => intro n _ h; simpa [weightF] using h
      | cons a l ihl => intro n hl h; simp only [weightF]; exact ihl _ (fun k hk => hl k (List.mem_cons_of_mem _ hk)) (by have := (hl a (List.mem_cons_self ..)).1; omega)
    simp only [weight]
    exact weightK_le _ _ _ _ _ (hf kids 0 ih (Int.le_refl _))
theorem weightF_le (l : List T) : 0 ≤ weightF 0 l ∧ weightF 0 l ≤ 4001 := by
  have : ∀ (l : List T) (n : Int), 0 ≤ n → n ≤ 4001 → 0 ≤ weightF n l ∧ weightF n l ≤ 4001 := by
    intro l
    induction l with
    | nil => intro n h k; simpa [weightF] using ⟨h, k⟩
    | cons a l ih => intro n h k; simp only [weightF]; have := weight_le a; exact ih _ (by omega) (by omega)
  exact this l 0 (Int.le_refl _) (by omega)

set_option maxHeartbeats 1000000 in
theorem weight_any (t : T) : ∀ (cs : List Value) (B : Nat) (w : World), TreeV w B t cs → B ≤ w.heap.size →
    Calls Tryz.prog 23 #[.agg cs.toArray] w fun e w' => e = .returned (.int .i64 (weight t)) ∧ Below w.heap.size w w' := by
  induction t using T.ind with
  | h op kids rune set pl cap name mn mx lz ih =>
    intro cs B w h hB
    obtain ⟨ka, kn, kc, sa, sn, sc, rfl, ⟨rfl, h2, h3⟩, h4⟩ := h.open
    have IH := Lib.hid ih; clear ih
    have H3 := Lib.hid h3; clear h3
    clear h h4
    have HW := Lib.hid (show weight (.mk op kids rune set pl cap name mn mx lz) = weightK op (weightF 0 kids) kids.length mn mx by simp [weight])
    go_enter Tryz.func23, Tryz.ntmps23
    go_wp2_with fail
    go_loopw [3, 10] (fun n i wr => ∃ k : Nat, k ≤ kids.length ∧ i = .int .i64 k ∧ n = .int .i64 (weightF 0 (kids.take k)) ∧ Below w.heap.size w wr ∧
      Blk wr w.heap.size [.int .i64 op, .slice ka kids.length kc, .int .i32 rune, .slice sa sn sc, .int .i64 pl, .int .i64 cap, .string name, .int .i64 mn, .int .i64 mx, .bool lz] 29) (fun _ i _ => kids.length - (intOf i).toNat)
    case atStart => exact ⟨0, Nat.zero_le _, rfl, by simp [weightF], (Below.refl _ _).alloc (Nat.le_refl _) _, Blk.new w [.int .i64 op, .slice ka kids.length kc, .int .i32 rune, .slice sa sn sc, .int .i64 pl, .int .i64 cap, .string name, .int .i64 mn, .int .i64 mx, .bool lz] 29⟩
    case round =>
      obtain ⟨k, hk, rfl, rfl, hb, hbox⟩ := hrel
      have HBox := Lib.hid hbox
      by_cases hlt : k < kids.length
      · rcases H3.out with h0 | ⟨b, o, rfl, hbB, hK⟩
        · omega
        obtain ⟨cs, hc, hr⟩ := (hK.get k hlt)
        have hc' := hc.below (hb.mono hB)
        have hr' := hr.below (hb.mono hB) hbB
        have IHk := Lib.hid (IH.out _ (List.getElem_mem hlt) cs B)
        obtain ⟨op1, ka1, kn1, kc1, rune1, sa1, sn1, sc1, pl1, cap1, name1, mn1, mx1, lz1, rfl⟩ := hc.form
        obtain ⟨g0, g1, g2, g3, g4, g5, g6, g7, g8, g9⟩ := hr'.ten
        have HC := Lib.hid hc'
        have HB := Lib.hid hb
        have HS := Lib.hid hb.size
        have hn := weightF_le (kids.take k)
        have hq := weightF_take kids k hlt
        have hw := weight_le kids[k]
        have HQ := Lib.hid hq; clear hq
        clear hr hr' hc hc' hbox
        obtain ⟨hn1, hn2⟩ := hn
        obtain ⟨hw1, hw2⟩ := hw
        obtain ⟨N, hN⟩ : ∃ N, N = weightF 0 (kids.take k) := ⟨_, rfl⟩
        rw [← hN] at hn1 hn2 ⊢
        have HN := Lib.hid hN; clear hN
        go_wp2_with fail
        refine (IHk.out _ (HC.out.below ((Below.refl _ _).alloc (Nat.le_trans hB HS.out) _)) (by simp only [World.size_alloc]; have := HS.out; omega)).mono ?_
        rintro e w2 ⟨rfl, hb2⟩
        have HB2 := Lib.hid hb2; clear hb2
        obtain ⟨V, hV⟩ : ∃ V, V = weight kids[k] := ⟨_, rfl⟩
        rw [← hV] at hw1 hw2 ⊢
        have HV := Lib.hid hV; clear hV
        go_wp2_with fail
        go_roundw
        case rel =>
          refine ⟨k + 1, hlt, by go_num, ?_, ?_, ?_⟩
          · first
              | (rw [HQ.out, ← HN.out, ← HV.out]; done)
              | (rw [HQ.out, ← HN.out, ← HV.out]; exact congrArg (Value.int .i64) (by first | rfl | omega | (split <;> omega)))
          · exact (HB.out.alloc HS.out _).trans (HB2.out.mono (by simp only [World.size_alloc]; have := HS.out; omega))
          · exact (HBox.out.alloc _).below HB2.out (by simp only [World.size_alloc]; have := HBox.out.lt; omega)
        case measure => simp [intOf]; omega
      · have hk' : k = kids.length := by omega
        have hq : weightF 0 (kids.take k) = weightF 0 kids := by rw [hk', List.take_length]
        rw [hq]
        have hn := weightF_le kids
        obtain ⟨hn1, hn2⟩ := hn
        obtain ⟨N, hN⟩ : ∃ N, N = weightF 0 kids := ⟨_, rfl⟩
        rw [← hN] at hn1 hn2 ⊢
        have HN := Lib.hid hN; clear hN hq
        have HW2 := Lib.hid (show weight (.mk op kids rune set pl cap name mn mx lz) = weightK op N kids.length mn mx by rw [HW.out, HN.out])
        clear hk'
        have t0 := Blk.cell hbox (j := 0) rfl; have t1 := Blk.cell hbox (j := 1) rfl; have t7 := Blk.cell hbox (j := 7) rfl; have t8 := Blk.cell hbox (j := 8) rfl
        have HB := Lib.hid hb
        clear hbox hb
        by_cases o6 : op = 6
        · subst o6
          go_wp2_with fail
          all_goals
            go_ret
            refine ⟨?_, HB.out⟩
            rw [HW2.out]
            refine congrArg (fun z => Ending.returned (Value.int .i64 z)) (?_ : _ = weightK _ _ _ _ _)
            simp [weightK]
            try omega
        · by_cases o12 : op = 12
          · subst o12
            go_wp2_with fail
            all_goals
              go_ret
              refine ⟨?_, HB.out⟩
              rw [HW2.out]
              refine congrArg (fun z => Ending.returned (Value.int .i64 z)) (?_ : _ = weightK _ _ _ _ _)
              simp [weightK]
              try omega
          · by_cases o10 : op = 10
            · subst o10
              by_cases a1 : mn < mx
              · by_cases a2 : mx < 1
                · skip
                  obtain ⟨K, hK⟩ : ∃ K, min (1 : Int) 4001 = K := ⟨_, rfl⟩
                  have hK2 : (if (4001 : Int) < 1 then 4001 else 1) = K := by rw [← hK]; first | rfl | (split <;> omega)
                  have hKK : min (max (max mn mx) 1) 4001 = K := by rw [← hK]; omega
                  have hK1 : 1 ≤ K ∧ K ≤ 4001 := by rw [← hK]; omega
                  obtain ⟨P, hP⟩ : ∃ P, N * K = P := ⟨_, rfl⟩
                  have hP1 : 0 ≤ P := by rw [← hP]; exact Int.mul_nonneg hn1 (by omega)
                  have hP2 : P ≤ 16008001 := by
                    rw [← hP]
                    have := Int.mul_le_mul hn2 hK1.2 (by omega) (by omega)
                    omega
                  obtain ⟨hKa, hKb⟩ := hK1
                  have HP := Lib.hid (show weightK 10 N kids.length mn mx = min (P + K + 1) 4001 by unfold weightK; rw [if_neg (by decide), if_neg (by decide), if_pos rfl, hKK, hP])
                  clear hKK
                  go_wp2_with fail
                  all_goals
                    go_ret
                    refine ⟨?_, HB.out⟩
                    rw [HW2.out, HP.out]
                    refine congrArg (fun z => Ending.returned (Value.int .i64 z)) (?_ : _ = min (P + K + 1) 4001)
                    first | rfl | omega | (have hK9 : K = 1 := (by rw [← hK]; rfl); have hP9 : P = N := (by rw [← hP, hK9]; omega); omega)
                · skip
                  obtain ⟨K, hK⟩ : ∃ K, min (mx : Int) 4001 = K := ⟨_, rfl⟩
                  have hK2 : (if (4001 : Int) < mx then 4001 else mx) = K := by rw [← hK]; first | rfl | (split <;> omega)
                  have hKK : min (max (max mn mx) 1) 4001 = K := by rw [← hK]; omega
                  have hK1 : 1 ≤ K ∧ K ≤ 4001 := by rw [← hK]; omega
                  obtain ⟨P, hP⟩ : ∃ P, N * K = P := ⟨_, rfl⟩
                  have hP1 : 0 ≤ P := by rw [← hP]; exact Int.mul_nonneg hn1 (by omega)
                  have hP2 : P ≤ 16008001 := by
                    rw [← hP]
                    have := Int.mul_le_mul hn2 hK1.2 (by omega) (by omega)
                    omega
                  obtain ⟨hKa, hKb⟩ := hK1
                  have HP := Lib.hid (show weightK 10 N kids.length mn mx = min (P + K + 1) 4001 by unfold weightK; rw [if_neg (by decide), if_neg (by decide), if_pos rfl, hKK, hP])
                  clear hKK
                  go_wp2_with fail
                  all_goals
                    go_ret
                    refine ⟨?_, HB.out⟩
                    rw [HW2.out, HP.out]
                    refine congrArg (fun z => Ending.returned (Value.int .i64 z)) (?_ : _ = min (P + K + 1) 4001)
                    first | rfl | omega | (have hK9 : K = 1 := (by rw [← hK]; rfl); have hP9 : P = N := (by rw [← hP, hK9]; omega); omega)
              · by_cases a2 : mn < 1
                · skip
                  obtain ⟨K, hK⟩ : ∃ K, min (1 : Int) 4001 = K := ⟨_, rfl⟩
                  have hK2 : (if (4001 : Int) < 1 then 4001 else 1) = K := by rw [← hK]; first | rfl | (split <;> omega)
                  have hKK : min (max (max mn mx) 1) 4001 = K := by rw [← hK]; omega
                  have hK1 : 1 ≤ K ∧ K ≤ 4001 := by rw [← hK]; omega
                  obtain ⟨P, hP⟩ : ∃ P, N * K = P := ⟨_, rfl⟩
                  have hP1 : 0 ≤ P := by rw [← hP]; exact Int.mul_nonneg hn1 (by omega)
                  have hP2 : P ≤ 16008001 := by
                    rw [← hP]
                    have := Int.mul_le_mul hn2 hK1.2 (by omega) (by omega)
                    omega
                  obtain ⟨hKa, hKb⟩ := hK1
                  have HP := Lib.hid (show weightK 10 N kids.length mn mx = min (P + K + 1) 4001 by unfold weightK; rw [if_neg (by decide), if_neg (by decide), if_pos rfl, hKK, hP])
                  clear hKK
                  go_wp2_with fail
                  all_goals
                    go_ret
                    refine ⟨?_, HB.out⟩
                    rw [HW2.out, HP.out]
                    refine congrArg (fun z => Ending.returned (Value.int .i64 z)) (?_ : _ = min (P + K + 1) 4001)
                    first | rfl | omega | (have hK9 : K = 1 := (by rw [← hK]; rfl); have hP9 : P = N := (by rw [← hP, hK9]; omega); omega)
                · skip
                  obtain ⟨K, hK⟩ : ∃ K, min (mn : Int) 4001 = K := ⟨_, rfl⟩
                  have hK2 : (if (4001 : Int) < mn then 4001 else mn) = K := by rw [← hK]; first | rfl | (split <;> omega)
                  have hKK : min (max (max mn mx) 1) 4001 = K := by rw [← hK]; omega
                  have hK1 : 1 ≤ K ∧ K ≤ 4001 := by rw [← hK]; omega
                  obtain ⟨P, hP⟩ : ∃ P, N * K = P := ⟨_, rfl⟩
                  have hP1 : 0 ≤ P := by rw [← hP]; exact Int.mul_nonneg hn1 (by omega)
                  have hP2 : P ≤ 16008001 := by
                    rw [← hP]
                    have := Int.mul_le_mul hn2 hK1.2 (by omega) (by omega)
                    omega
                  obtain ⟨hKa, hKb⟩ := hK1
                  have HP := Lib.hid (show weightK 10 N kids.length mn mx = min (P + K + 1) 4001 by unfold weightK; rw [if_neg (by decide), if_neg (by decide), if_pos rfl, hKK, hP])
                  clear hKK
                  go_wp2_with fail
                  all_goals
                    go_ret
                    refine ⟨?_, HB.out⟩
                    rw [HW2.out, HP.out]
                    refine congrArg (fun z => Ending.returned (Value.int .i64 z)) (?_ : _ = min (P + K + 1) 4001)
                    first | rfl | omega | (have hK9 : K = 1 := (by rw [← hK]; rfl); have hP9 : P = N := (by rw [← hP, hK9]; omega); omega)
            · by_cases o7 : op = 7
              · subst o7
                go_wp2_with fail
                all_goals
                  go_ret
                  refine ⟨?_, HB.out⟩
                  rw [HW2.out]
                  refine congrArg (fun z => Ending.returned (Value.int .i64 z)) (?_ : _ = weightK _ _ _ _ _)
                  simp [weightK]
                  try omega
              · by_cases o8 : op = 8
                · subst o8
                  go_wp2_with fail
                  all_goals
                    go_ret
                    refine ⟨?_, HB.out⟩
                    rw [HW2.out]
                    refine congrArg (fun z => Ending.returned (Value.int .i64 z)) (?_ : _ = weightK _ _ _ _ _)
                    simp [weightK]
                    try omega
                · by_cases o9 : op = 9
                  · subst o9
                    go_wp2_with fail
                    all_goals
                      go_ret
                      refine ⟨?_, HB.out⟩
                      rw [HW2.out]
                      refine congrArg (fun z => Ending.returned (Value.int .i64 z)) (?_ : _ = weightK _ _ _ _ _)
                      simp [weightK]
                      try omega
                  · by_cases o11 : op = 11
                    · subst o11
                      go_wp2_with fail
                      all_goals
                        go_ret
                        refine ⟨?_, HB.out⟩
                        rw [HW2.out]
                        refine congrArg (fun z => Ending.returned (Value.int .i64 z)) (?_ : _ = weightK _ _ _ _ _)
                        simp [weightK]
                        try omega
                    · have e6 : (op == 6) = false := by simpa using o6
                      have e12 : (op == 12) = false := by simpa using o12
                      have e10 : (op == 10) = false := by simpa using o10
                      have e7 : (op == 7) = false := by simpa using o7
                      have e8 : (op == 8) = false := by simpa using o8
                      have e9 : (op == 9) = false := by simpa using o9
                      have e11 : (op == 11) = false := by simpa using o11
                      have HK := Lib.hid (show weightK op N kids.length mn mx = 1 by unfold weightK; simp [o6, o12, o10, o7, o8, o9, o11]; rfl)
                      clear o6 o12 o10 o7 o8 o9 o11
                      go_wp2_with fail
                      go_ret
                      exact ⟨by rw [HW2.out, HK.out]; rfl, HB.out⟩
end Go.Proofs.YtnhnldmldnhaoaaGreatDoor
