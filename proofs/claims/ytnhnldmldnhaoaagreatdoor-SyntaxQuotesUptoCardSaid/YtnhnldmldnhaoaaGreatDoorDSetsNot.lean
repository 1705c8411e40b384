/- Sets of runes: sets.Not, as a contract. classes.turned and classes.Dot. Orbits: what tables.Orbit computes, and the document's orbits. A rune's atom in a pattern. slices.Contains and slices.Sort at runes: a short slice is sorted in place: its runes stay. -/
import Derived.Test.YtnhnldmldnhaoaaGreatDoorDSetsOps
import Derived.KernelRfl
import Derived.Test.YtnhnldmldnhaoaaGreatDoorDCount
import Derived.Test.YtnhnldmldnhaoaaGreatDoorDBase
import Derived.Test.YtnhnldmldnhaoaaGreatDoorShelf
import Derived.Deep.QuietTactic
import Derived.BigQuiet
import Derived.BigRegion
import Derived.LoopTactic
import Derived.ChangeAlike
namespace Go.Proofs.YtnhnldmldnhaoaaGreatDoor
open Go Go.RowKit Go.Proofs Go.Shelf

theorem not_is (n : Int) (W : World) : Calls Tryz.prog 142 #[.int .i64 n] W fun e w' => e = .returned (.bool (decide (n = 0))) ∧ Below W.heap.size W w' := by
  go_enter Tryz.func142, Tryz.ntmps142
  go_wp2
  go_ret
  exact ⟨by by_cases h : n = 0 <;> simp [h], Below.refl _ _⟩

set_option maxHeartbeats 1000000 in
theorem sets_Not (rs : List (Int × Int)) (sa : Option Addr) (sn sc B : Nat) (w : World) (h : RangesV w B rs sa sn sc) (hB : B ≤ w.heap.size) (hN : rs.length ≤ 1000000000000) :
    Calls Tryz.prog 109 #[.slice sa sn sc] w (SetOf w (fun c => !memR rs c) (2 * rs.length + 1)) := by
  have hl := ListsAt.one hB h 26
  have hee : Calls Tryz.prog 87 #[.slice (some ⟨w.heap.size, 0, none⟩) 1 1] (w.alloc (.cells #[.slice sa sn sc] 26)) _ := edges_any [rs] w.heap.size 1 B (w.alloc (.cells #[.slice sa sn sc] 26)) hl (by simp) (by simp; omega) (by simp) (by have := edgesOf_length [rs]; simp at this; omega)
  have HE := Lib.hid hee; clear hee hl
  go_enter Tryz.func109, Tryz.ntmps109
  go_wp2_with fail
  refine (HE.out).mono ?_
  rintro e w1 ⟨v, es, rfl, hp, hs, hrow, hb⟩
  obtain ⟨ea, ec, rfl, hv⟩ := EdgesV.of_row hrow
  obtain ⟨s1, s2, s3, s4⟩ := swept (fun n => decide (n = 0)) [rs] es hp hs
  have hel : es.length ≤ 4000000000000 := by have := hp.length_eq; have h2 := edgesOf_length [rs]; simp at h2; omega
  have hth := those_any (fun n => decide (n = 0)) 142 (enters_of Tryz.func142 (by kernel_rfl) rfl) not_is es ea ec w1.heap.size w1 hv (Nat.le_refl _) s4 hel
  have HT := Lib.hid hth
  have HS := Lib.hid (And.intro s1 (And.intro s2 s3)); have HB := Lib.hid hb
  clear hth s1 s2 s3 s4 hp hs hrow hb hv hel
  go_wp2_with fail
  refine (HT.out).mono ?_
  rintro e w2 ⟨v, rfl, hrow2, hb2⟩
  have HR2 := Lib.hid hrow2; have HB2 := Lib.hid hb2
  clear hrow2 hb2
  go_wp2_with fail
  have hb0 : Below w.heap.size w w1 := ((Below.refl _ w).alloc (Nat.le_refl _) _).trans (HB.out.mono (by simp))
  go_ret
  refine ⟨v, _, rfl, ?_, HS.out.1, ?_, ?_, hb0.trans (HB2.out.mono hb0.size)⟩
  · exact Joins.ownsRow_le HR2.out hb0.size
  · intro c; rw [HS.out.2.1]; simp only [List.flatten_cons, List.flatten_nil, List.append_nil, coverN_zero]
  · have := HS.out.2.2; simpa using this
end Go.Proofs.YtnhnldmldnhaoaaGreatDoor

namespace Go.Proofs.YtnhnldmldnhaoaaGreatDoor
open Go Go.RowKit Go.Proofs Go.Shelf

/-- A set, as members tell it. -/
def IsSet (out : List (Int × Int)) (p : Int → Bool) : Prop := setRight out = true ∧ ∀ c, memR out c = (decide (0 ≤ c) && decide (c ≤ 1114111) && p c)
theorem IsSet.unique {a b : List (Int × Int)} {p : Int → Bool} (ha : IsSet a p) (hb : IsSet b p) : a = b := set_unique ha.1 hb.1 fun c => by rw [ha.2, hb.2]
theorem IsSet.congr {a : List (Int × Int)} {p q : Int → Bool} (ha : IsSet a p) (h : ∀ c, 0 ≤ c → c ≤ 1114111 → p c = q c) : IsSet a q := by
  refine ⟨ha.1, fun c => ?_⟩
  rw [ha.2]
  by_cases h0 : 0 ≤ c ∧ c ≤ 1114111
  · rw [h c h0.1 h0.2]
  · have : (decide (0 ≤ c) && decide (c ≤ 1114111)) = false := by
      rw [Bool.and_eq_false_iff, decide_eq_false_iff_not, decide_eq_false_iff_not]; omega
    simp [this]

set_option maxHeartbeats 1000000 in
theorem dot_all (w : World) : Calls Tryz.prog 82 #[.bool true] w (SetOf w (fun _ => true) 1) := by
  have HN := Lib.hid (sets_Not [] none 0 0 w.heap.size w (RangesV.nil w _) (Nat.le_refl _) (by simp))
  go_enter Tryz.func82, Tryz.ntmps82
  go_wp2_with fail
  refine (HN.out).mono ?_
  rintro e w1 ⟨v, out, rfl, h1, h2, h3, h4, h5⟩
  have H := Lib.hid (And.intro h1 (And.intro h2 (And.intro h3 (And.intro h4 h5))))
  clear h1 h2 h3 h4 h5
  go_wp2_with fail
  go_ret
  obtain ⟨h1, h2, h3, h4, h5⟩ := H.out
  exact ⟨v, out, rfl, h1, h2, fun c => by rw [h3]; simp [memR], by simpa using h4, h5⟩
set_option maxHeartbeats 1000000 in
theorem dot_line (w : World) : Calls Tryz.prog 82 #[.bool false] w (SetOf w (fun c => decide (c ≠ 10)) 3) := by
  have hr : RangesAt (w.alloc (.cells (flatR [(10, 10)]).toArray 61)) [(10, 10)] w.heap.size 0 := RangesAt.of_cells _ 0 fun j hj => ⟨by rw [Nat.zero_add]; exact (Blk.new w (flatR [(10, 10)]) 61).cell (flatR_get _ j hj).1, by rw [Nat.zero_add]; exact (Blk.new w (flatR [(10, 10)]) 61).cell (flatR_get _ j hj).2⟩
  have hb := (Below.refl w.heap.size w).alloc (Nat.le_refl _) (.cells (flatR [(10, 10)]).toArray 61)
  have HN := Lib.hid (sets_Not [(10, 10)] (some ⟨w.heap.size, 0, none⟩) 1 1 (w.heap.size + 1) _ ⟨rfl, ⟨Nat.le_refl _, by omega⟩, .inr ⟨_, _, rfl, by omega, hr⟩⟩ (by simp) (by simp))
  have HB := Lib.hid hb
  clear hr hb
  go_enter Tryz.func82, Tryz.ntmps82
  go_wp2_with fail
  refine (HN.out).mono ?_
  rintro e w1 ⟨v, out, rfl, h1, h2, h3, h4, h5⟩
  have H := Lib.hid (And.intro h1 (And.intro h2 (And.intro h3 (And.intro h4 h5))))
  clear h1 h2 h3 h4 h5
  go_wp2_with fail
  go_ret
  obtain ⟨h1, h2, h3, h4, h5⟩ := H.out
  refine ⟨v, out, rfl, Joins.ownsRow_le h1 HB.out.size, h2, fun c => ?_, by simpa using h4, HB.out.trans (h5.mono HB.out.size)⟩
  rw [h3]
  congr 1
  simp only [memR, List.any_cons, List.any_nil, Bool.or_false]
  rw [Bool.eq_iff_iff]; simp; omega
end Go.Proofs.YtnhnldmldnhaoaaGreatDoor

namespace Go.Proofs.YtnhnldmldnhaoaaGreatDoor
open Go

/-- The stretches of letters: the first, the last, how far the small ones are above. -/
def stretchL : List (Int × Int × Int) := [(65, 90, 32), (192, 214, 32), (216, 222, 32), (913, 929, 32), (931, 937, 32), (1040, 1071, 32), (376, 376, -121), (7838, 7838, -7615), (75, 75, 8415), (83, 83, 300), (197, 197, 8294), (924, 924, -743), (931, 931, 31)]
def addU (out : List Int) (x : Int) : List Int := if out.contains x then out else out ++ [x]
def stepU (x : Int) (out : List Int) (s : Int × Int × Int) : List Int :=
  let o1 := if s.1 ≤ x ∧ x ≤ s.2.1 then addU out (x + s.2.2) else out
  if s.1 ≤ x - s.2.2 ∧ x - s.2.2 ≤ s.2.1 then addU o1 (x - s.2.2) else o1
def roundU (x : Int) (out : List Int) : List Int := stretchL.foldl (stepU x) out
def orbU : Nat → Nat → List Int → List Int
  | 0, _, _ => []
  | n + 1, i, out => match out[i]? with
    | none => out
    | some x => orbU n (i + 1) (roundU x out)
def orbF (c : Int) : List Int := orbU 10 0 [c]

/-- The document's groups of three, and two. -/
def groupsL : List (List Int) := [[75, 107, 8490], [83, 115, 383], [197, 229, 8491], [181, 924, 956], [931, 962, 963], [223, 7838], [255, 376]]
def greatB (c : Int) : Bool := !(c == 75 || c == 83 || c == 197 || c == 924) && ((65 ≤ c && c ≤ 90) || (192 ≤ c && c ≤ 214) || (216 ≤ c && c ≤ 222) || (913 ≤ c && c ≤ 929) || (932 ≤ c && c ≤ 937) || (1040 ≤ c && c ≤ 1071))
def orbL (c : Int) : List Int := match groupsL.find? (·.contains c) with
  | some l => l
  | none => if greatB c then [c, c + 32] else if 32 ≤ c && greatB (c - 32) then [c - 32, c] else [c]

/-- All letters. -/
def lettersL : List Int := stretchL.flatMap fun s => (List.range (s.2.1 - s.1 + 1).toNat).flatMap fun (k : Nat) => [s.1 + (k : Int), s.1 + (k : Int) + s.2.2]
def goodB (c : Int) : Bool := !(orbF c).isEmpty && decide ((orbF c).length ≤ 3) && (orbF c).all (fun x => decide (0 ≤ x) && decide (x ≤ 1114111)) && (orbF c).isPerm (orbL c)
set_option maxRecDepth 100000 in
theorem letters_good : lettersL.all goodB = true := by kernel_rfl
def letterB (c : Int) : Bool := stretchL.any fun s => (decide (s.1 ≤ c) && decide (c ≤ s.2.1)) || (decide (s.1 ≤ c - s.2.2) && decide (c - s.2.2 ≤ s.2.1))
theorem letter_mem {c : Int} (h : letterB c = true) : c ∈ lettersL := by
  unfold letterB at h
  rw [List.any_eq_true] at h
  obtain ⟨s, hs, h⟩ := h
  unfold lettersL
  rw [List.mem_flatMap]
  refine ⟨s, hs, ?_⟩
  rw [List.mem_flatMap]
  simp only [Bool.or_eq_true, Bool.and_eq_true, decide_eq_true_eq] at h
  rcases h with h | h
  · refine ⟨(c - s.1).toNat, by rw [List.mem_range]; omega, ?_⟩
    have : s.1 + ((c - s.1).toNat : Int) = c := by omega
    rw [this]; simp
  · refine ⟨(c - s.2.2 - s.1).toNat, by rw [List.mem_range]; omega, ?_⟩
    have : s.1 + ((c - s.2.2 - s.1).toNat : Int) + s.2.2 = c := by omega
    rw [this]; simp
theorem fold_same {α β : Type} (f : β → α → β) (b : β) : ∀ l : List α, (∀ a ∈ l, f b a = b) → l.foldl f b = b
  | [], _ => rfl
  | a :: l, h => by
    rw [List.foldl_cons, h a List.mem_cons_self]
    exact fold_same f b l fun x hx => h x (List.mem_cons_of_mem _ hx)
theorem round_none {c : Int} (h : letterB c = false) (out : List Int) : roundU c out = out := by
  unfold roundU
  refine fold_same _ _ _ fun s hs => ?_
  unfold letterB at h
  rw [List.any_eq_false] at h
  have := h s hs
  simp only [Bool.or_eq_true, Bool.and_eq_true, decide_eq_true_eq, not_or] at this
  unfold stepU
  simp only [this, if_false]
theorem orbF_none {c : Int} (h : letterB c = false) : orbF c = [c] := by
  unfold orbF
  show orbU 9 1 (roundU c [c]) = [c]
  rw [round_none h]
  rfl
theorem groups_letters : (groupsL.all fun l => l.all letterB) = true := by kernel_rfl
theorem great_letter {c : Int} (h : greatB c = true) : letterB c = true ∧ letterB (c + 32) = true := by
  unfold greatB at h
  simp only [Bool.and_eq_true, Bool.or_eq_true, decide_eq_true_eq] at h
  unfold letterB stretchL
  simp only [List.any_cons, List.any_nil, Bool.or_false, Bool.or_eq_true, Bool.and_eq_true, decide_eq_true_eq]
  omega
theorem orbL_none {c : Int} (h : letterB c = false) : orbL c = [c] := by
  unfold orbL
  have hg : groupsL.find? (·.contains c) = none := by
    rw [List.find?_eq_none]
    intro l hl hc
    have h1 := List.all_eq_true.1 (List.all_eq_true.1 groups_letters l hl) c (by simpa using hc)
    rw [h] at h1; cases h1
  rw [hg]
  simp only
  have g1 : greatB c = false := by
    rw [Bool.eq_false_iff]; intro e
    have := (great_letter e).1; rw [h] at this; cases this
  have g2 : greatB (c - 32) = false := by
    rw [Bool.eq_false_iff]; intro e
    have := (great_letter e).2; rw [Int.sub_add_cancel, h] at this; cases this
  rw [g1, g2]
  simp
theorem orb_good {c : Int} (h0 : 0 ≤ c) (h1 : c ≤ 1114111) : orbF c ≠ [] ∧ (orbF c).length ≤ 3 ∧ (∀ x ∈ orbF c, 0 ≤ x ∧ x ≤ 1114111) ∧ (orbF c).Perm (orbL c) := by
  cases hl : letterB c with
  | false =>
    rw [orbF_none hl, orbL_none hl]
    exact ⟨by simp, by simp, by simp; omega, List.Perm.refl _⟩
  | true =>
    have hg := List.all_eq_true.1 letters_good c (letter_mem hl)
    unfold goodB at hg
    simp only [Bool.and_eq_true, Bool.not_eq_true', decide_eq_true_eq, List.all_eq_true] at hg
    refine ⟨?_, hg.1.1.2, hg.1.2, List.isPerm_iff.1 hg.2⟩
    intro e
    have := hg.1.1.1
    rw [e] at this; cases this
/-- What comes behind grows. -/
theorem addU_prefix (out : List Int) (x : Int) : out <+: addU out x := by
  unfold addU
  split
  · exact List.prefix_rfl
  · exact List.prefix_append _ _
theorem stepU_prefix (x : Int) (out : List Int) (s : Int × Int × Int) : out <+: stepU x out s := by
  unfold stepU
  have h1 : out <+: (if s.1 ≤ x ∧ x ≤ s.2.1 then addU out (x + s.2.2) else out) := by
    split
    · exact addU_prefix _ _
    · exact List.prefix_rfl
  simp only
  split
  · exact h1.trans (addU_prefix _ _)
  · exact h1
theorem foldU_prefix (x : Int) : ∀ (l : List (Int × Int × Int)) (out : List Int), out <+: l.foldl (stepU x) out
  | [], _ => List.prefix_rfl
  | s :: l, out => (stepU_prefix x out s).trans (foldU_prefix x l _)
theorem orbU_prefix : ∀ (n i : Nat) (out F : List Int), orbU n i out = F → F ≠ [] → out <+: F
  | 0, _, _, F, h, hF => absurd h.symm hF
  | n + 1, i, out, F, h, hF => by
    unfold orbU at h
    cases hx : out[i]? with
    | none => rw [hx] at h; rw [← h]; exact List.prefix_rfl
    | some x =>
      rw [hx] at h
      exact (foldU_prefix x stretchL out).trans (orbU_prefix n (i + 1) _ F h hF)
theorem prefix_get {a b : List Int} (h : a <+: b) {i : Nat} {x : Int} (hx : a[i]? = some x) : b[i]? = some x := by
  obtain ⟨t, rfl⟩ := h
  rw [List.getElem?_append_left (List.getElem?_eq_some_iff.1 hx).1, hx]
theorem stretch_bounds : ∀ s ∈ stretchL, 0 ≤ s.1 ∧ s.1 ≤ 10000 ∧ 0 ≤ s.2.1 ∧ s.2.1 ≤ 10000 ∧ -10000 ≤ s.2.2 ∧ s.2.2 ≤ 10000 := by decide
end Go.Proofs.YtnhnldmldnhaoaaGreatDoor

namespace Go.Proofs.YtnhnldmldnhaoaaGreatDoor
open Go Go.RowKit Go.Proofs Go.Shelf

/-- The set of runes that a question says. -/
noncomputable def normL (p : Int → Bool) : List (Int × Int) := by
  classical
  exact if h : ∃ out, IsSet out p then Classical.choose h else []
theorem normL_is {p : Int → Bool} {out : List (Int × Int)} (h : IsSet out p) : normL p = out := by
  unfold normL
  rw [dif_pos ⟨out, h⟩]
  exact IsSet.unique (Classical.choose_spec (⟨out, h⟩ : ∃ out, IsSet out p)) h

/-- A rune's atom. -/
noncomputable def atomT (f c : Int) : T := if onB f 1 = true ∧ 1 < (orbL c).length then setT (normL fun x => decide (x ∈ orbL c)) else leafT 3 c [] 0
end Go.Proofs.YtnhnldmldnhaoaaGreatDoor

namespace Go.Proofs.YtnhnldmldnhaoaaGreatDoor
open Go Go.RowKit Go.Proofs

/-- Runes, as values. -/
def vR (xs : List Int) : List Value := xs.map (Value.int .i32)
theorem vR_get (xs : List Int) (j : Nat) (h : j < xs.length) : (vR xs)[j]? = some (.int .i32 xs[j]) := by simp [vR, h]
/-- A slice of runes in a row of its own. -/
abbrev OwnR (w : World) (B : Nat) (v : Value) (xs : List Int) : Prop := w.ownsRow B 21 1 v xs.length (vR xs)

theorem cmp_isNaN (x : Int) (w : World) : Calls Tryz.prog 145 #[.int .i32 x] w fun e w' => e = .returned (.bool false) ∧ w = w' := by
  go_enter Tryz.func145, Tryz.ntmps145
  go_wp2
  go_ret
  exact ⟨rfl, rfl⟩
theorem cmp_Less (x y : Int) (w : World) : Calls Tryz.prog 120 #[.int .i32 x, .int .i32 y] w fun e w' => e = .returned (.bool (decide (x < y))) ∧ w = w' := by
  go_enter Tryz.func120, Tryz.ntmps120
  go_wp2_with (go_at_call 145; refine (cmp_isNaN _ _).mono ?_; rintro e w' ⟨rfl, rfl⟩)
  go_ret
  exact ⟨rfl, rfl⟩

theorem take_has {xs : List Int} {x : Int} {k : Nat} (h : k < xs.length) (hm : (xs.take k).contains x = false) (hx : xs[k] ≠ x) : (xs.take (k + 1)).contains x = false := by
  rw [List.take_succ_eq_append_getElem h]
  simp only [List.contains_eq_mem, List.mem_append, List.mem_singleton, decide_eq_false_iff_not, not_or] at hm ⊢
  exact ⟨hm, fun e => hx e.symm⟩
/-- What Index hands back. -/
def IdxOut (xs : List Int) (x : Int) (w : World) (e : Ending) (w' : World) : Prop := (∃ n : Int, e = .returned (.int .i64 n) ∧ decide (0 ≤ n) = xs.contains x) ∧ w' = w
theorem idx_mk {xs : List Int} {x n : Int} {w : World} (h : decide (0 ≤ n) = xs.contains x) : IdxOut xs x w (.returned (.int .i64 n)) w := ⟨⟨n, rfl, h⟩, rfl⟩
set_option maxHeartbeats 1000000 in
theorem runes_Index (xs : List Int) (b o c : Nat) (x : Int) (w : World) (hc : ∀ k (h : k < xs.length), w.cell? ⟨b, o + k, none⟩ = some (.int .i32 xs[k])) (hn : xs.length ≤ 1000000) :
    Calls Tryz.prog 91 #[.slice (some ⟨b, o, none⟩) xs.length c, .int .i32 x] w (IdxOut xs x w) := by
  have HC := Lib.hid hc; clear hc
  go_enter Tryz.func91, Tryz.ntmps91
  go_wp2_with fail
  go_loop [8] (fun i => ∃ k : Nat, k ≤ xs.length ∧ i = .int .i64 k ∧ (xs.take k).contains x = false) (fun i => xs.length - (intOf i).toNat)
  case atStart => exact ⟨0, Nat.zero_le _, rfl, rfl⟩
  case round =>
    obtain ⟨k, hk, rfl, hm⟩ := hrel
    have HM := Lib.hid hm; clear hm
    by_cases hlt : k < xs.length
    · have g := HC.out k hlt
      obtain ⟨y, hy⟩ : ∃ y, xs[k] = y := ⟨_, rfl⟩
      rw [hy] at g
      have HY := Lib.hid hy; clear hy
      by_cases hxy : x = y
      · subst hxy
        have e : (x == x) = true := by simp
        go_wp2_with fail
        go_ret
        refine idx_mk ?_
        have : xs.contains x = true := by
          simp only [List.contains_eq_mem, decide_eq_true_eq]
          have := List.getElem_mem hlt; rw [HY.out] at this; exact this
        rw [this]; simp
      · have e : (x == y) = false := by simpa using hxy
        go_wp2_with fail
        go_round
        case rel => exact ⟨k + 1, hlt, by go_num, take_has hlt HM.out (by rw [HY.out]; exact fun h => hxy h.symm)⟩
        case measure => simp [intOf]; omega
    · obtain rfl : k = xs.length := by omega
      rw [List.take_length] at HM
      go_wp2_with fail
      go_ret
      exact idx_mk (by rw [HM.out]; rfl)
/-- What Contains hands back. -/
theorem runes_Contains (xs : List Int) (b o c : Nat) (x : Int) (w : World) (hc : ∀ k (h : k < xs.length), w.cell? ⟨b, o + k, none⟩ = some (.int .i32 xs[k])) (hn : xs.length ≤ 1000000) :
    Calls Tryz.prog 72 #[.slice (some ⟨b, o, none⟩) xs.length c, .int .i32 x] w fun e w' => e = .returned (.bool (xs.contains x)) ∧ w' = w := by
  have HI := Lib.hid (runes_Index xs b o c x w hc hn); clear hc
  go_enter Tryz.func72, Tryz.ntmps72
  go_wp2_with fail
  refine (HI.out).mono ?_
  rintro e w' ⟨⟨n, rfl, hd⟩, rfl⟩
  have HD := Lib.hid hd; clear hd
  go_wp2_with fail
  go_ret
  exact ⟨by rw [← HD.out]; rfl, rfl⟩

/-- A row of runes that was sorted: the same runes; nothing else was written. -/
def SortedR (w : World) (B g cap : Nat) (xs : List Int) (w' : World) : Prop := ∃ ys : List Int, ys.Perm xs ∧ w'.ownsRow B 21 1 (.slice (some ⟨g, 0, none⟩) xs.length cap) xs.length (vR ys) ∧ w.grownBy w' (some g)
theorem swap_perm (ys : List Int) (j : Nat) (h0 : 0 < j) (h : j < ys.length) : ((ys.set (j - 1) (ys[j])).set j (ys[j - 1]'(by omega))).Perm ys := by
  obtain ⟨i, rfl⟩ : ∃ i, j = i + 1 := ⟨j - 1, by omega⟩
  simp only [Nat.add_sub_cancel]
  have e : ys = ys.take i ++ (ys[i]'(by omega)) :: ys[i + 1] :: ys.drop (i + 2) := by
    rw [List.getElem_cons_drop, List.getElem_cons_drop, List.take_append_drop]
  have e2 : (ys.set i ys[i + 1]).set (i + 1) (ys[i]'(by omega)) = ys.take i ++ ys[i + 1] :: (ys[i]'(by omega)) :: ys.drop (i + 2) := by
    apply List.ext_getElem?
    intro k
    rw [List.getElem?_set, List.getElem?_set]
    by_cases k1 : i + 1 = k
    · subst k1
      rw [List.getElem?_append_right (by simp; omega)]
      simp [List.length_take, Nat.min_eq_left (show i ≤ ys.length by omega), h]
    · by_cases k2 : i = k
      · subst k2
        rw [List.getElem?_append_right (by rw [List.length_take]; omega)]
        simp [List.length_take, Nat.min_eq_left (show i ≤ ys.length by omega), show i < ys.length by omega]
      · rw [if_neg k1, if_neg k2]
        by_cases k3 : k < i
        · rw [List.getElem?_append_left (by simp; omega), List.getElem?_take_of_lt k3]
        · rw [List.getElem?_append_right (by simp; omega)]
          obtain ⟨m, rfl⟩ : ∃ m, k = i + 2 + m := ⟨k - (i + 2), by omega⟩
          simp [List.length_take, Nat.min_eq_left (show i ≤ ys.length by omega), show i + 2 + m - i = m + 1 + 1 by omega]
  rw [e2]
  conv => rhs; rw [e]
  exact List.Perm.append_left _ (List.Perm.swap _ _ _)
end Go.Proofs.YtnhnldmldnhaoaaGreatDoor
