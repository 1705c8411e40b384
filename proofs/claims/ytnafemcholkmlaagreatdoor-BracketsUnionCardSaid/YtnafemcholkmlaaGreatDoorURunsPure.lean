/- A class of two runes with a - between: what it is. A group's flags: scan.Flags. ScanCodes: a rune's number behind a backslash and x, with noughts ahead, whatever stands behind, is read as it; a sign behind a backslash is itself: the parts. A tree's text: the printer's answer as a plain function, and what the two ways of writing it have in common. Ranges by their runes' numbers, as texts. A class of ranges by their runes' numbers: what it is. A rune's number in hexadecimal digits: strconv.FormatInt(·, 16). A set's ranges, by numbers: the law's codes. -/
import Derived.Test.YtnafemcholkmlaaGreatDoorQBrClass
import Derived.Test.YtnafemcholkmlaaGreatDoorQBrCatch
import Derived.Test.YtnafemcholkmlaaGreatDoorQNext
import Derived.BigRegion
import Derived.ScopeJumps
import Derived.LoopTactic
import Derived.Below
import Derived.Test.YtnafemcholkmlaaGreatDoorQEscS
import Derived.Deep.RegionWith
import Derived.IntWalk
import Derived.Test.YtnafemcholkmlaaGreatDoorQBase
import Derived.Lib.ItoaNum
import Derived.Test.YtnafemcholkmlaaGreatDoorQSetsPure
import Derived.Test.YtnafemcholkmlaaGreatDoorQBlk
import Derived.Test.YtnafemcholkmlaaGreatDoorProg
import Derived.WalkKit
import Derived.Lib.Hide
import Derived.WalkSpells
import Derived.WalkLawsBesides
import Derived.Laws.Bits64b
import Derived.Test.YtnafemcholkmlaaGreatDoorQNormWalk
import Derived.Deep.RegionHeld3
namespace Go.Proofs.YtnafemcholkmlaaGreatDoor
open Go Go.RowKit Go.Proofs Go.Shelf

theorem stands_notR {s : ByteArray} {p : Nat} {c d : UInt8} {t r : List UInt8} (hs : s.data.toList.drop p = c :: r) (h : c ≠ d) : stands s p (d :: t) = false := by
  unfold stands Lib.hasPrefix; rw [hs]; simp [List.isPrefixOf]; intro e; exact absurd e.symm h
theorem stands_of_dropR {s : ByteArray} {p : Nat} {l rest : List UInt8} (h : s.data.toList.drop p = l ++ rest) : stands s p l = true := by
  unfold stands Lib.hasPrefix
  rw [h]; simp
theorem drop_app {α : Type} (a b : List α) (n : Nat) (h : n = a.length) : (a ++ b).drop n = b := by
  rw [h]; exact List.drop_left
/-- The first byte of a rune's text. -/
theorem enc_head (r : Nat) (hv : Utf8.valid (r : Int) = true) : ∃ x t, (Utf8.encode (r : Int)).data.toList = x :: t ∧ ((r < 128 ∧ x.toNat = r ∧ t = []) ∨ (128 ≤ r ∧ 128 ≤ x.toNat)) := by
  have hv' : r < 55296 ∨ (57344 ≤ r ∧ r ≤ 1114111) := by
    unfold Utf8.valid at hv
    simp only [Bool.or_eq_true, Bool.and_eq_true, decide_eq_true_eq] at hv
    omega
  unfold Utf8.encode
  simp only [hv, if_true, Int.toNat_natCast]
  by_cases h1 : r < 128
  · simp only [h1, if_true]
    exact ⟨_, _, rfl, .inl ⟨trivial, by simp only [UInt8.toNat_ofNat']; omega, rfl⟩⟩
  · simp only [h1, if_false]
    by_cases h2 : r < 2048
    · simp only [h2, if_true]
      exact ⟨_, _, rfl, .inr ⟨by omega, by simp only [UInt8.toNat_ofNat']; omega⟩⟩
    · simp only [h2, if_false]
      by_cases h3 : r < 65536
      · simp only [h3, if_true]
        exact ⟨_, _, rfl, .inr ⟨by omega, by simp only [UInt8.toNat_ofNat']; omega⟩⟩
      · simp only [h3, if_false]
        exact ⟨_, _, rfl, .inr ⟨by omega, by simp only [UInt8.toNat_ofNat']; omega⟩⟩
theorem len_size (b : ByteArray) : b.data.toList.length = b.size := by simp
theorem enc_len (r : Nat) : (Utf8.encode (r : Int)).data.toList.length = (Utf8.encode (r : Int)).size := len_size _
theorem enc_pos (r : Nat) (hv : Utf8.valid (r : Int) = true) : 0 < (Utf8.encode (r : Int)).size := by
  obtain ⟨x, t, he, _⟩ := enc_head r hv
  rw [← enc_len, he]
  exact Nat.succ_pos _
/-- No other sign stands where a rune's text stands. -/
theorem enc_not {s : ByteArray} {p r : Nat} {rest : List UInt8} (hv : Utf8.valid (r : Int) = true) (h : s.data.toList.drop p = (Utf8.encode (r : Int)).data.toList ++ rest) (d : UInt8) (t : List UInt8) (hd : r ≠ d.toNat) (h128 : d.toNat < 128) : stands s p (d :: t) = false := by
  obtain ⟨x, u, he, hx⟩ := enc_head r hv
  rw [he] at h
  refine stands_notR h ?_
  rintro rfl
  omega
/-- A rune that is itself in a class. -/
def plainC (c : Int) : Prop := 32 < c ∧ c ≠ 92 ∧ c ≠ 93 ∧ c ≠ 91 ∧ c ≠ 65533 ∧ (c < 55296 ∨ 57343 < c) ∧ c ≤ 1114111
theorem plainC.valid {r : Nat} (h : plainC r) : Utf8.valid (r : Int) = true := by
  unfold plainC at h
  unfold Utf8.valid
  simp only [Bool.or_eq_true, Bool.and_eq_true, decide_eq_true_eq]
  omega
theorem runs_cls (a b : Nat) (ha : plainC a) (hb : plainC b) (h94 : a ≠ 94) (S : ByteArray) (hS : S.data.toList = [91] ++ ((Utf8.encode (a : Int)).data.toList ++ ([45] ++ ((Utf8.encode (b : Int)).data.toList ++ [93])))) :
    clsP S 0 false = if b < a then .wrong 72 1 (2 + (Utf8.encode (a : Int)).size + (Utf8.encode (b : Int)).size : Nat) else .ok (fun c => decide ((a : Int) ≤ c) && decide (c ≤ (b : Int))) (3 + (Utf8.encode (a : Int)).size + (Utf8.encode (b : Int)).size) := by
  have va := ha.valid; have vb := hb.valid
  obtain ⟨na, hna⟩ : ∃ n, n = (Utf8.encode (a : Int)).size := ⟨_, rfl⟩
  obtain ⟨nb, hnb⟩ : ∃ n, n = (Utf8.encode (b : Int)).size := ⟨_, rfl⟩
  have la := enc_len a; have lb := enc_len b
  have hsz : S.size = 3 + na + nb := by
    have h0 := congrArg List.length hS
    simp only [List.length_append, List.length_cons, List.length_nil, la, lb] at h0
    have : S.data.toList.length = S.size := by simp
    omega
  have d0 : S.data.toList.drop 0 = [91] ++ ((Utf8.encode (a : Int)).data.toList ++ ([45] ++ ((Utf8.encode (b : Int)).data.toList ++ [93]))) := by rw [List.drop_zero]; exact hS
  have d1 : S.data.toList.drop 1 = (Utf8.encode (a : Int)).data.toList ++ ([45] ++ ((Utf8.encode (b : Int)).data.toList ++ [93])) := by rw [hS]; exact drop_app _ _ _ rfl
  have d2 : S.data.toList.drop (1 + na) = [45] ++ ((Utf8.encode (b : Int)).data.toList ++ [93]) := by rw [← List.drop_drop, d1]; exact drop_app _ _ _ (by rw [la, hna])
  have d3 : S.data.toList.drop (1 + na + 1) = (Utf8.encode (b : Int)).data.toList ++ [93] := by rw [← List.drop_drop, d2]; exact drop_app _ _ _ rfl
  have d4 : S.data.toList.drop (1 + na + 1 + nb) = [93] := by rw [← List.drop_drop, d3]; exact drop_app _ _ _ (by rw [lb, hnb])
  have pa : 0 < na := by rw [hna]; exact enc_pos a va
  have pb : 0 < nb := by rw [hnb]; exact enc_pos b vb
  have s0 : stands S 0 [91] = true := stands_of_dropR d0
  have s1 : stands S (0 + 1) [94] = false := enc_not va d1 94 [] (by simpa using h94) (by decide)
  have c0 : clsAt S 0 = 1 := by unfold clsAt; rw [s1]; rfl
  have nm : namedP S 1 = none := by
    unfold namedP
    rw [enc_not va d1 91 [58] (by show a ≠ 91; unfold plainC at ha; omega) (by decide)]
    rfl
  have ca := nextC_enc S 1 a va (stands_of_dropR d1) (by omega)
  have cb := nextC_enc S (1 + na + 1) b vb (stands_of_dropR d3) (by omega)
  rw [← hna] at ca
  rw [← hnb] at cb
  have o1 : oneP S 1 false = .lit 1 a 0 (1 + na : Nat) := by
    unfold oneP
    rw [enc_not va d1 92 [] (by show a ≠ 92; unfold plainC at ha; omega) (by decide), ca.1, ca.2]
    rfl
  have o2 : oneP S (1 + na + 1) false = .lit 1 b 0 (1 + na + 1 + nb : Nat) := by
    unfold oneP
    rw [enc_not vb d3 92 [] (by show b ≠ 92; unfold plainC at hb; omega) (by decide), cb.1, cb.2]
    rfl
  have rg : rangedP S (1 + na) = true := by
    unfold rangedP
    rw [stands_of_dropR d2, enc_not vb d3 93 [] (by show b ≠ 93; unfold plainC at hb; omega) (by decide), decide_eq_true (show 1 + na + 1 < S.size by omega)]
    rfl
  unfold clsP
  rw [s0, c0, ← hna, ← hnb]
  simp only [not_true, if_false]
  have it : itemP S 1 false (0 : Nat) = if b < a then .wrong 72 1 (2 + na + nb : Nat) else .ok (fun c => decide ((a : Int) ≤ c) && decide (c ≤ (b : Int))) (2 + na + nb) := by
    unfold itemP
    rw [nm]
    simp only
    rw [if_neg (by omega), o1]
    simp only [Int.toNat_natCast]
    rw [if_neg (by simp), rg]
    simp only [if_true]
    rw [o2]
    simp only [Int.toNat_natCast]
    by_cases hlt : b < a
    · rw [if_pos (.inr (by omega)), if_pos hlt, show 1 + na + 1 + nb = 2 + na + nb by omega]
      rfl
    · rw [if_neg (by simp; omega), if_neg hlt, show 1 + na + 1 + nb = 2 + na + nb by omega]
  rw [it]
  by_cases hlt : b < a
  · rw [if_pos hlt, if_pos hlt]
  · rw [if_neg hlt, if_neg hlt]
    simp only
    unfold restP
    have e4 : 1 + na + 1 + nb = 2 + na + nb := by omega
    rw [e4] at d4
    rw [stands_of_dropR (l := [93]) (rest := []) (by rw [d4]; rfl)]
    simp only [if_true]
    rw [show 2 + na + nb + 1 = 3 + na + nb by omega]
theorem runs_clsQ (a b : Nat) (ha : plainC a) (hb : plainC b) (h94 : a ≠ 94) (S : ByteArray) (hS : S.data.toList = [91] ++ ((Utf8.encode (a : Int)).data.toList ++ ([45] ++ ((Utf8.encode (b : Int)).data.toList ++ [93])))) :
    (b < a → ∃ t : Int, clsQ S 0 false none = .wrong 72 1 t) ∧ (¬ b < a → ∃ q : Nat, clsQ S 0 false none = .ok (fun c => (decide ((a : Int) ≤ c) && decide (c ≤ (b : Int))) != false) q) := by
  have hc := runs_cls a b ha hb h94 S hS
  have d1 : S.data.toList.drop 1 = (Utf8.encode (a : Int)).data.toList ++ ([45] ++ ((Utf8.encode (b : Int)).data.toList ++ [93])) := by rw [hS]; exact drop_app _ _ _ rfl
  have s1 : stands S (0 + 1) [94] = false := enc_not ha.valid d1 94 [] (by simpa using h94) (by decide)
  unfold clsQ
  rw [hc, s1]
  constructor
  · intro h
    rw [if_pos h]
    exact ⟨_, rfl⟩
  · intro h
    rw [if_neg h]
    exact ⟨_, rfl⟩
theorem enc_size (r : Int) : (Utf8.encode r).size ≤ 4 := by
  unfold Utf8.encode
  dsimp only
  repeat' split
  all_goals (show Array.size _ ≤ 4; simp)
end Go.Proofs.YtnafemcholkmlaaGreatDoor

namespace Go.Proofs.YtnafemcholkmlaaGreatDoor
open Go Go.RowKit Go.Proofs

/-- A letter's flag. -/
def flagOf (c : Int) : Int := if c = 105 then 1 else if c = 109 then 4 else if c = 115 then 8 else if c = 85 then 16 else 0

/-- The letters, from a place on. -/
def flagsRun (s : ByteArray) : Nat → Nat → Int → Bool → Bool → Except Nat (Int × Bool × Nat)
  | 0, _, _, _, _ => .error s.size
  | k + 1, p, f, off, any =>
    if flagOf (nextC s p) ≠ 0 then
      if off then flagsRun s k (p + 1) (bits .andNot .i64 f (flagOf (nextC s p))) off true
      else flagsRun s k (p + 1) (bits .or .i64 f (flagOf (nextC s p))) off any
    else if nextC s p = 45 ∧ off = false then flagsRun s k (p + 1) f true any
    else if (nextC s p = 58 ∨ nextC s p = 41) ∧ off = any then .ok (f, decide (nextC s p = 58), p + 1)
    else .error (nextW s p)
/-- A group's flags at a place. -/
def flagsP (s : ByteArray) (at_ : Nat) (f : Int) : Except Nat (Int × Bool × Nat) :=
  if nextC s at_ ≠ 40 then .error (nextW s at_)
  else if nextC s (at_ + 1) ≠ 63 then .error (nextW s (at_ + 1))
  else flagsRun s (s.size + 1 - (at_ + 2)) (at_ + 2) f false false
def flagsV (at_ : Nat) : Except Nat (Int × Bool × Nat) → Value
  | .error n => .tuple #[.int .i64 0, .bool false, .int .i64 0, .agg #[.int .i64 65, .int .i64 at_, .int .i64 n]]
  | .ok (f, g, n) => .tuple #[.int .i64 f, .bool g, .int .i64 n, .agg #[.int .i64 0, .int .i64 0, .int .i64 0]]
/-- The place that a reader's block holds. -/
def placeOf (b : Nat) (w : World) : Nat := (intOf ((w.cell? ⟨b, 1, none⟩).getD (.int .i64 0))).toNat
theorem placeOf_rd {w : World} {b : Nat} {s : ByteArray} {p : Nat} {rest : List Value} {t : TypeId} (h : Rd w b s p rest t) : placeOf b w = p := by
  unfold placeOf; rw [h.c1]; simp [intOf]

/-- The end where the flags are read. -/
theorem flagsV_ok (p : Nat) (f : Int) (g : Bool) (n : Nat) : flagsV p (.ok (f, g, n)) = .tuple #[.int .i64 f, .bool g, .int .i64 n, .agg #[.int .i64 0, .int .i64 0, .int .i64 0]] := rfl
theorem flagsV_error (p n : Nat) : flagsV p (.error n) = .tuple #[.int .i64 0, .bool false, .int .i64 0, .agg #[.int .i64 65, .int .i64 p, .int .i64 n]] := rfl

/-- Where 'none' is jumped to: what the frame holds there. -/
def noneAct (s : ByteArray) (p : Nat) (b : Nat) (u : Nat → Value) : Act :=
  ⟨#[.string s, .int .i64 p, u 2, undef, undef, undef, u 6, u 7, u 8, .pointer (some ⟨b, 0, none⟩), .pointer (some ⟨b + 1, 0, none⟩), u 11, u 12, u 13, u 14, u 15, u 16, u 17, u 18, u 19, u 20, u 21, u 22, u 23, u 24, u 25, u 26, u 27, u 28, u 29, u 30, u 31, u 32, u 33, u 34, u 35, u 36, u 37, u 38, u 39, u 40, u 41, u 42, u 43, u 44, u 45, u 46, u 47, u 48, u 49, u 50, u 51, u 52, u 53, u 54, u 55, u 56, u 57, u 58, u 59, u 60, u 61, u 62, u 63, u 64, u 65, u 66, u 67, u 68, u 69, u 70, u 71, u 72, u 73, u 74, u 75, u 76, u 77, u 78], []⟩
def noneJ (s : ByteArray) (p : Nat) (f : Int) (w : World) (a : Act) (w' : World) : Prop :=
  ∃ u n, a = noneAct s p w.heap.size u ∧ flagsP s p f = .error n ∧ Blk w' w.heap.size [.int .i64 0, .int .i64 0, .int .i64 0] 27 ∧ Rd w' (w.heap.size + 1) s n [] 119 ∧ Below w.heap.size w w'

theorem flagOf_small {c : Int} (h : flagOf c ≠ 0) : 0 ≤ c ∧ c < 128 := by
  unfold flagOf at h
  repeat' split at h
  all_goals omega
theorem flagsRun_or {s : ByteArray} {q : Nat} (f : Int) (any : Bool) (h : flagOf (nextC s q) ≠ 0) :
    q + 1 ≤ s.size ∧ nextW s q = q + 1 ∧ flagsRun s (s.size + 1 - q) q f false any = flagsRun s (s.size + 1 - (q + 1)) (q + 1) (bits .or .i64 f (flagOf (nextC s q))) false any := by
  obtain ⟨h3, -, e3, -⟩ := nextC_small s q (flagOf_small h).1 (flagOf_small h).2
  refine ⟨h3, e3, ?_⟩
  rw [show s.size + 1 - q = (s.size + 1 - (q + 1)) + 1 by omega]
  simp [flagsRun, h]
theorem flagsRun_not {s : ByteArray} {q : Nat} (f : Int) (any : Bool) (h : flagOf (nextC s q) ≠ 0) :
    q + 1 ≤ s.size ∧ nextW s q = q + 1 ∧ flagsRun s (s.size + 1 - q) q f true any = flagsRun s (s.size + 1 - (q + 1)) (q + 1) (bits .andNot .i64 f (flagOf (nextC s q))) true true := by
  obtain ⟨h3, -, e3, -⟩ := nextC_small s q (flagOf_small h).1 (flagOf_small h).2
  refine ⟨h3, e3, ?_⟩
  rw [show s.size + 1 - q = (s.size + 1 - (q + 1)) + 1 by omega]
  simp [flagsRun, h]
theorem flagsRun_dash {s : ByteArray} {q : Nat} (f : Int) (any : Bool) (h : nextC s q = 45) :
    q + 1 ≤ s.size ∧ nextW s q = q + 1 ∧ flagsRun s (s.size + 1 - q) q f false any = flagsRun s (s.size + 1 - (q + 1)) (q + 1) f true any := by
  obtain ⟨h3, -, e3, -⟩ := nextC_small s q (by omega) (by omega)
  refine ⟨h3, e3, ?_⟩
  rw [show s.size + 1 - q = (s.size + 1 - (q + 1)) + 1 by omega]
  simp [flagsRun, h, show flagOf 45 = 0 from rfl]
theorem flagsRun_ok {s : ByteArray} {q : Nat} (f : Int) (off : Bool) (h : nextC s q = 58 ∨ nextC s q = 41) :
    q + 1 ≤ s.size ∧ nextW s q = q + 1 ∧ flagsRun s (s.size + 1 - q) q f off off = .ok (f, decide (nextC s q = 58), q + 1) := by
  obtain ⟨h3, -, e3, -⟩ := nextC_small s q (by omega) (by omega)
  refine ⟨h3, e3, ?_⟩
  rw [show s.size + 1 - q = (s.size + 1 - (q + 1)) + 1 by omega]
  rcases h with h | h <;> simp [flagsRun, h, show flagOf 58 = 0 from rfl, show flagOf 41 = 0 from rfl]
theorem flagsRun_bad {s : ByteArray} {q : Nat} (f : Int) (off any : Bool) (hq : q ≤ s.size) (h0 : flagOf (nextC s q) = 0) (h1 : ¬ (nextC s q = 45 ∧ off = false)) (h2 : ¬ ((nextC s q = 58 ∨ nextC s q = 41) ∧ off = any)) :
    flagsRun s (s.size + 1 - q) q f off any = .error (nextW s q) := by
  rw [show s.size + 1 - q = (s.size - q) + 1 by omega]
  unfold flagsRun
  rw [if_neg (by simpa using h0), if_neg h1, if_neg h2]
theorem jump_ret {l : Nat} {J : Act → World → Prop} {Q : Exit → Act → World → Prop} {a : Act} {w : World} : Exit.jump l J Q .ret a w = Q .ret a w := rfl
theorem noneJ_intro {s : ByteArray} {p : Nat} {f : Int} {w : World} {a : Act} {w' : World} {n : Nat} (hfr : a = noneAct s p w.heap.size (fun i => a.tmps.getD i undef)) (hF : flagsP s p f = .error n)
    (hX : Blk w' w.heap.size [.int .i64 0, .int .i64 0, .int .i64 0] 27) (hR : Rd w' (w.heap.size + 1) s n [] 119) (hB : Below w.heap.size w w') : noneJ s p f w a w' := ⟨_, n, hfr, hF, hX, hR, hB⟩

end Go.Proofs.YtnafemcholkmlaaGreatDoor

namespace Go.Proofs.YtnafemcholkmlaaGreatDoor
open Go Go.RowKit Go.Proofs

def hexC (d : Nat) : UInt8 := [48, 49, 50, 51, 52, 53, 54, 55, 56, 57, 97, 98, 99, 100, 101, 102].getD d 0
/-- A number's digits. -/
def hexD (n : Nat) : List UInt8 := if n < 16 then [hexC n] else hexD (n / 16) ++ [hexC (n % 16)]
termination_by n
decreasing_by omega

theorem hexC_digit : ∀ d : Fin 16, (if (hexC d.val).toNat > 57 then ((hexC d.val).toNat : Int) - 87 else ((hexC d.val).toNat : Int) - 48) = (d.val : Int) := by decide
theorem hexC_in : ∀ d : Fin 16, hexs.contains (hexC d.val) = true ∧ Lib.lowerB (hexC d.val) = hexC d.val := by decide
theorem hexD_small {n : Nat} (h : n < 16) : hexD n = [hexC n] := by rw [hexD, if_pos h]
theorem hexD_big {n : Nat} (h : ¬ n < 16) : hexD n = hexD (n / 16) ++ [hexC (n % 16)] := by rw [hexD, if_neg h]
theorem hexD_in (n : Nat) : ∀ c ∈ hexD n, hexs.contains c = true ∧ Lib.lowerB c = c := by
  induction n using Nat.strongRecOn with
  | _ n ih =>
    intro c hc
    by_cases h : n < 16
    · rw [hexD_small h] at hc
      rw [List.mem_singleton.1 hc]; exact hexC_in ⟨n, h⟩
    · rw [hexD_big h] at hc
      rcases List.mem_append.1 hc with hc | hc
      · exact ih (n / 16) (by omega) c hc
      · rw [List.mem_singleton.1 hc]; exact hexC_in ⟨n % 16, by omega⟩
theorem hexD_len (n : Nat) (k : Nat) (hn : n < 16 ^ (k + 1)) : (hexD n).length ≤ k + 1 := by
  induction k generalizing n with
  | zero => rw [hexD_small (by simpa using hn)]; simp
  | succ k ih =>
    by_cases h : n < 16
    · rw [hexD_small h]; simp
    · rw [hexD_big h]
      have := ih (n / 16) (by rw [Nat.pow_succ] at hn; omega)
      simp only [List.length_append, List.length_cons, List.length_nil]; omega
theorem hexD_ne (n : Nat) : hexD n ≠ [] := by
  by_cases h : n < 16
  · rw [hexD_small h]; simp
  · rw [hexD_big h]; simp
theorem numP_noughts (k : Nat) : numP 16 1114111 0 (List.replicate k 48) = 0 := by
  induction k with
  | zero => rfl
  | succ k ih => rw [List.replicate_succ']; rw [numP_snoc, ih]; decide
theorem numP_hexD (k n : Nat) (hn : n ≤ 1114111) : numP 16 1114111 0 (List.replicate k 48 ++ hexD n) = n := by
  induction n using Nat.strongRecOn with
  | _ n ih =>
    by_cases h : n < 16
    · have := hexC_digit ⟨n, h⟩
      rw [hexD_small h, numP_snoc, numP_noughts, this]; simp only; omega
    · have := hexC_digit ⟨n % 16, by omega⟩
      rw [hexD_big h, ← List.append_assoc, numP_snoc, ih (n / 16) (by omega) (by omega), this]; simp only; omega
theorem toLower_same {l : List UInt8} (h : ∀ c ∈ l, Lib.lowerB c = c) : Lib.toLowerA l = l := by
  unfold Lib.toLowerA
  induction l with
  | nil => rfl
  | cons a l ih => rw [List.map_cons, h a (List.mem_cons_self ..), ih fun c hc => h c (List.mem_cons_of_mem _ hc)]
theorem hexN_hexD (k n : Nat) (hn : n ≤ 1114111) : hexN (List.replicate k 48 ++ hexD n) = n := by
  unfold hexN
  rw [toLower_same, numP_hexD k n hn]
  intro c hc
  rcases List.mem_append.1 hc with hc | hc
  · rw [List.eq_of_mem_replicate hc]; decide
  · exact (hexD_in n c hc).2

/-- The text of a rune's number. -/
def codeText (k n : Nat) : List UInt8 := [92, 120, 123] ++ List.replicate k 48 ++ hexD n ++ [125]

theorem takeWhile_all {α : Type} (f : α → Bool) (l m : List α) (c : α) (h : ∀ x ∈ l, f x = true) (hc : f c = false) : (l ++ c :: m).takeWhile f = l := by
  induction l with
  | nil => simp [hc]
  | cons a l ih => simp only [List.cons_append, List.takeWhile_cons, h a (List.mem_cons_self ..), if_true]; rw [ih fun x hx => h x (List.mem_cons_of_mem _ hx)]

theorem stands_of_drop {s : ByteArray} {p : Nat} {l rest : List UInt8} (h : s.data.toList.drop p = l ++ rest) : stands s p l = true := by
  unfold stands Lib.hasPrefix
  rw [h]; simp
theorem code_read (s : ByteArray) (k n : Nat) (rest : List UInt8) (hn : n ≤ 1114111) (h : s.data.toList = codeText k n ++ rest) :
    stands s 0 [92] = true ∧ s.data.toList[0 + 1]? = some 120 ∧ stands s (0 + 2) [123] = true ∧ bracedN s (0 + 2) = ((n : Int), true, (codeText k n).length) := by
  have d2 : s.data.toList.drop 2 = 123 :: ((List.replicate k 48 ++ hexD n) ++ 125 :: rest) := by rw [h]; simp [codeText]
  have d3 : s.data.toList.drop (2 + 1) = (List.replicate k 48 ++ hexD n) ++ 125 :: rest := by rw [← List.drop_drop, d2]; rfl
  have hrun : runP s (2 + 1) hexs = List.replicate k 48 ++ hexD n := by
    unfold runP
    rw [d3]
    refine takeWhile_all _ _ _ _ (fun c hc => ?_) (by decide)
    rcases List.mem_append.1 hc with hc | hc
    · rw [List.eq_of_mem_replicate hc]; decide
    · exact (hexD_in n c hc).1
  refine ⟨by unfold stands; rw [h]; simp [codeText, Lib.hasPrefix], by rw [h]; simp [codeText], by unfold stands; rw [show 0 + 2 = 2 from rfl, d2]; simp [Lib.hasPrefix], ?_⟩
  unfold bracedN
  have hst : stands s (2 + 1 + (List.replicate k 48 ++ hexD n).length) [125] = true := by
    refine stands_of_drop (rest := rest) ?_
    rw [← List.drop_drop, d3, List.drop_left]; rfl
  have hne : (List.replicate k 48 ++ hexD n).isEmpty = false := by
    have := hexD_ne n
    cases h : hexD n <;> simp_all
  rw [show 0 + 2 = 2 from rfl, hrun, hst, hne, hexN_hexD k n hn]
  simp only [Bool.not_false, Bool.and_self, Bool.true_and, if_true]
  refine Prod.ext rfl (Prod.ext (by simp; omega) ?_)
  simp [codeText]; omega

theorem ba_eq {a b : ByteArray} (h : a.data.toList = b.data.toList) : a = b := by
  cases a; cases b; simp only [ByteArray.mk.injEq]; exact Array.toList_inj.1 h
theorem hexC_cut : ∀ d : Fin 16, (⟨#[48, 49, 50, 51, 52, 53, 54, 55, 56, 57, 97, 98, 99, 100, 101, 102]⟩ : ByteArray).extract d.val (d.val + 1) = ⟨#[hexC d.val]⟩ := by decide

def signB (c : Int) : Bool := (33 ≤ c ∧ c ≤ 47) ∨ (58 ≤ c ∧ c ≤ 64) ∨ (91 ≤ c ∧ c ≤ 96) ∨ (123 ≤ c ∧ c ≤ 126)
theorem ref06_Sign (c : Int) (w : World) : Calls Tryz.prog 92 #[.int .i32 c] w fun e w' => e = .returned (.bool (signB c)) ∧ w' = w := by
  go_enter Tryz.func92, Tryz.ntmps92
  go_wp2_with fail
  all_goals
    go_ret
    refine ⟨congrArg (fun z => Ending.returned (Value.bool z)) (?_ : _ = signB c), rfl⟩
    first
      | (refine Bool.eq_iff_iff.2 ?_
         simp only [signB, decide_eq_true_eq, Bool.or_eq_true, reduceCtorEq, true_iff, false_iff]
         omega)
      | (refine Bool.eq_iff_iff.2 ?_
         simp only [signB, decide_eq_true_eq, Bool.or_eq_true, reduceCtorEq]
         omega)

end Go.Proofs.YtnafemcholkmlaaGreatDoor

namespace Go.Proofs.YtnafemcholkmlaaGreatDoor
open Go

/-- Hexadecimal digits. -/
def hexDg (d : Nat) : UInt8 := [48, 49, 50, 51, 52, 53, 54, 55, 56, 57, 97, 98, 99, 100, 101, 102].getD d 0
def hexTx (n : Nat) : List UInt8 := if n < 16 then [hexDg n] else hexTx (n / 16) ++ [hexDg (n % 16)]
termination_by n
decreasing_by omega
abbrev decTx (n : Nat) : List UInt8 := Lib.decDigits n
/-- A rune's number. -/
def codeTx (c : Int) : List UInt8 := [92, 120, 123] ++ hexTx c.toNat ++ [125]
def isPlainC (c : Int) : Bool := (48 ≤ c ∧ c ≤ 57) ∨ (65 ≤ c ∧ c ≤ 90) ∨ (97 ≤ c ∧ c ≤ 122) ∨ c ∈ [95, 32, 33, 34, 35, 37, 38, 39, 44, 45, 47, 58, 59, 60, 61, 62, 64, 126, 96]
def isMetaC (c : Int) : Bool := c ∈ [92, 46, 43, 42, 63, 40, 41, 124, 91, 93, 123, 125, 94, 36]
/-- A rune's text. -/
def litTx (c : Int) : List UInt8 := if isPlainC c then [UInt8.ofNat c.toNat] else if isMetaC c then [92, UInt8.ofNat c.toNat] else codeTx c
def setTx (l : List (Int × Int)) : List UInt8 := [91] ++ l.flatMap (fun x => codeTx x.1 ++ if x.1 < x.2 then [45] ++ codeTx x.2 else []) ++ [93]
def placeTx (a : Int) : List UInt8 :=
  if a = 1 then [92, 65] else if a = 2 then [92, 122] else if a = 4 then [40, 63, 109, 58, 94, 41] else if a = 8 then [40, 63, 109, 58, 36, 41] else if a = 16 then [92, 98] else [92, 66]
def signTx (op mn mx : Int) (lz : Bool) : List UInt8 :=
  (if op = 7 then [42] else if op = 8 then [43] else if op = 9 then [63] else if mx = mn then [123] ++ decTx mn.toNat ++ [125] else if mx < 0 then [123] ++ decTx mn.toNat ++ [44, 125] else [123] ++ decTx mn.toNat ++ [44] ++ decTx mx.toNat ++ [125]) ++ (if lz then [63] else [])
def bracedTx (s : List UInt8) (must : Bool) : List UInt8 := if must then [40, 63, 58] ++ s ++ [41] else s

/-- A tree, or its Kid, if it has one alone to put together. -/
def throughT : T → T
  | .mk op [k] rune set pl cap name mn mx lz => if op = 11 ∨ op = 12 then throughT k else .mk op [k] rune set pl cap name mn mx lz
  | t => t
theorem throughT_one (op : Int) (k : T) (rune : Int) (set : List (Int × Int)) (pl cap : Int) (name : ByteArray) (mn mx : Int) (lz : Bool) :
    throughT (.mk op [k] rune set pl cap name mn mx lz) = if op = 11 ∨ op = 12 then throughT k else .mk op [k] rune set pl cap name mn mx lz := by rw [throughT]
theorem throughT_other {t : T} (h : t.kids.length ≠ 1 ∨ ¬ (t.op = 11 ∨ t.op = 12)) : throughT t = t := by
  obtain ⟨op, kids, rune, set, pl, cap, name, mn, mx, lz⟩ := t
  simp only [T.kids, T.op] at h
  match kids, h with
  | [], _ => rw [throughT]; intro k; simp
  | [k], h => rw [throughT_one, if_neg (by simpa using h)]
  | a :: b :: r, _ => rw [throughT]; intro k; simp
theorem not_one {n : Nat} {p : Prop} (h : ¬ (n = 1 ∧ p)) : n ≠ 1 ∨ ¬ p := by
  by_cases h1 : n = 1
  · exact .inr fun h2 => h ⟨h1, h2⟩
  · exact .inl h1
theorem throughT_size (t : T) : SizeOf.sizeOf (throughT t) ≤ SizeOf.sizeOf t := by
  induction t using T.ind with
  | h op kids rune set pl cap name mn mx lz ih =>
    by_cases h : kids.length = 1 ∧ (op = 11 ∨ op = 12)
    · obtain ⟨h1, h2⟩ := h
      match kids, h1, ih with
      | [k], _, ih =>
        rw [throughT_one, if_pos h2]
        have := ih k (by simp)
        simp; omega
    · rw [throughT_other (by simp only [T.kids, T.op]; exact not_one h)]
      exact Nat.le_refl _
theorem throughT_idem (t : T) : throughT (throughT t) = throughT t := by
  induction t using T.ind with
  | h op kids rune set pl cap name mn mx lz ih =>
    by_cases h : kids.length = 1 ∧ (op = 11 ∨ op = 12)
    · obtain ⟨h1, h2⟩ := h
      match kids, h1, ih with
      | [k], _, ih =>
        rw [throughT_one, if_pos h2]
        exact ih k (by simp)
    · have e := throughT_other (t := .mk op kids rune set pl cap name mn mx lz) (by simp only [T.kids, T.op]; exact not_one h)
      rw [e, e]
/-- Of a Kid of a repeat: must it stand between brackets? -/
def mustT (k : T) : Bool := if (throughT k).op = 11 then decide (0 < (throughT k).kids.length) else decide ((throughT k).op = 12 ∨ (throughT k).op = 7 ∨ (throughT k).op = 8 ∨ (throughT k).op = 9 ∨ (throughT k).op = 10)
def joinTx : List (List UInt8) → List UInt8
  | [] => []
  | [x] => x
  | x :: y :: r => x ++ [124] ++ joinTx (y :: r)

mutual
/-- A right tree's text: of what lies through it. -/
def textT : T → List UInt8
  | .mk op kids rune set pl _ name mn mx lz =>
    if op = 1 then [91, 94, 92, 120, 123, 48, 125, 45, 92, 120, 123, 49, 48, 102, 102, 102, 102, 125, 93]
    else if op = 3 then litTx rune
    else if op = 4 then setTx set
    else if op = 5 then placeTx pl
    else if op = 6 then (if name.size = 0 then [40] else [40, 63, 80, 60] ++ name.data.toList ++ [62]) ++ (textsT kids).flatten ++ [41]
    else if op = 12 then joinTx (textsT kids)
    else if op = 7 ∨ op = 8 ∨ op = 9 ∨ op = 10 then bracedTx (textsT kids).flatten (kids.any mustT) ++ signTx op mn mx lz
    else if kids.length = 0 then [40, 63, 58, 41]
    else if kids.length = 1 then (textsT kids).flatten
    else (brTs kids).flatten
def textsT : List T → List (List UInt8)
  | [] => []
  | k :: ks => textT k :: textsT ks
def brTs : List T → List (List UInt8)
  | [] => []
  | k :: ks => bracedTx (textT k) (decide ((throughT k).op = 12)) :: brTs ks
end
end Go.Proofs.YtnafemcholkmlaaGreatDoor

namespace Go.Proofs.YtnafemcholkmlaaGreatDoor
open Go Go.RowKit Go.Proofs

theorem hexDg_same : ∀ d : Fin 16, hexDg d.val = hexC d.val := by decide
theorem hexTx_same (n : Nat) : hexTx n = hexD n := by
  induction n using Nat.strongRecOn with
  | _ n ih =>
    by_cases h : n < 16
    · rw [hexTx, if_pos h, hexD_small h, hexDg_same ⟨n, h⟩]
    · rw [hexTx, if_neg h, hexD_big h, ih (n / 16) (by omega), hexDg_same ⟨n % 16, by omega⟩]
/-- The text of a rune's number, its digits. -/
def numTx (n : Nat) : List UInt8 := [92, 120, 123] ++ hexD n ++ [125]
theorem codeTx_num (n : Nat) : codeTx (n : Int) = numTx n := by
  unfold codeTx numTx
  rw [hexTx_same, Int.toNat_natCast]
theorem numTx_len (n : Nat) : (numTx n).length = (hexD n).length + 4 := by unfold numTx; simp
/-- A range by its runes' numbers. -/
def pairTx (x : Int × Int) : List UInt8 := numTx x.1.toNat ++ [45] ++ numTx x.2.toNat
def pairsTx (l : List (Int × Int)) : List UInt8 := l.flatMap pairTx
theorem pairsTx_cons (x : Int × Int) (l : List (Int × Int)) : pairsTx (x :: l) = pairTx x ++ pairsTx l := rfl
theorem pairsTx_append (l m : List (Int × Int)) : pairsTx (l ++ m) = pairsTx l ++ pairsTx m := by unfold pairsTx; rw [List.flatMap_append]
/-- Ranges of runes, none empty. -/
def Fine (l : List (Int × Int)) : Prop := ∀ x ∈ l, 0 ≤ x.1 ∧ x.1 ≤ x.2 ∧ x.2 ≤ 1114111
theorem numTx_head (n : Nat) : ∃ t, numTx n = 92 :: t := ⟨_, rfl⟩
theorem pairTx_len (x : Int × Int) : 11 ≤ (pairTx x).length := by
  unfold pairTx
  have h1 : ∀ n, 1 ≤ (hexD n).length := fun n => by
    have := hexD_ne n
    cases h : hexD n <;> simp_all
  have h2 := h1 x.1.toNat
  have h3 := h1 x.2.toNat
  simp only [List.length_append, List.length_cons, List.length_nil, numTx_len]
  omega
theorem pairs_len (l : List (Int × Int)) : l.length ≤ (pairsTx l).length := by
  induction l with
  | nil => simp
  | cons x l ih =>
    have := pairTx_len x
    rw [pairsTx_cons, List.length_append, List.length_cons]
    omega
theorem pairsTx_le {l : List (Int × Int)} (hf : Fine l) : (pairsTx l).length ≤ 21 * l.length := by
  induction l with
  | nil => simp [pairsTx]
  | cons x l ih =>
    have hx := hf x (List.mem_cons_self ..)
    have h1 := hexD_len x.1.toNat 5 (by omega)
    have h2 := hexD_len x.2.toNat 5 (by omega)
    have := ih fun y hy => hf y (List.mem_cons_of_mem _ hy)
    rw [pairsTx_cons, List.length_append, List.length_cons]
    unfold pairTx
    simp only [List.length_append, List.length_cons, List.length_nil, numTx_len]
    omega
end Go.Proofs.YtnafemcholkmlaaGreatDoor

namespace Go.Proofs.YtnafemcholkmlaaGreatDoor
open Go Go.RowKit Go.Proofs Go.Shelf

theorem drop_len {s : ByteArray} {p : Nat} {a b : List UInt8} (h : s.data.toList.drop p = a ++ b) (ha : 0 < a.length) : p + a.length + b.length = s.size := by
  have h1 := congrArg List.length h
  have h2 : s.data.toList.length = s.size := by simp
  rw [List.length_drop, List.length_append, h2] at h1
  omega
/-- A rune by its number at a place. -/
theorem num_one (s : ByteArray) (p n : Nat) (perl : Bool) (rest : List UInt8) (hn : n ≤ 1114111) (h : s.data.toList.drop p = numTx n ++ rest) :
    oneP s p perl = .lit 1 n 0 (p + (numTx n).length : Nat) := by
  have hz := drop_len h (by rw [numTx_len]; omega)
  rw [numTx_len] at hz
  have d0 : s.data.toList.drop p = [92] ++ ([120, 123] ++ hexD n ++ [125] ++ rest) := by rw [h]; simp [numTx]
  have d1 : s.data.toList.drop (p + 1) = [120] ++ ([123] ++ hexD n ++ [125] ++ rest) := by rw [← List.drop_drop, d0]; rfl
  have d2 : s.data.toList.drop (p + 2) = [123] ++ (hexD n ++ 125 :: rest) := by rw [← List.drop_drop, d0]; simp
  have d3 : s.data.toList.drop (p + 2 + 1) = hexD n ++ 125 :: rest := by rw [← List.drop_drop, d2]; rfl
  have s0 : stands s p [92] = true := stands_of_dropR d0
  have e120 : Utf8.encode ((120 : Nat) : Int) = ⟨#[120]⟩ := by kernel_rfl
  have c1 := nextC_enc s (p + 1) 120 (by decide) (by rw [e120]; exact stands_of_dropR d1) (by rw [e120]; show p + 1 + 1 ≤ s.size; omega)
  rw [e120] at c1
  have c2 : nextW s (p + 1) = p + 2 := c1.2
  have c3 : nextC s (p + 1) = 120 := c1.1
  have s2 : stands s (p + 2) [123] = true := stands_of_dropR d2
  have hrun : runP s (p + 2 + 1) hexs = hexD n := by
    unfold runP
    rw [d3]
    exact takeWhile_all _ _ _ _ (fun c hc => (hexD_in n c hc).1) (by decide)
  have hst : stands s (p + 2 + 1 + (hexD n).length) [125] = true := by
    refine stands_of_dropR (rest := rest) ?_
    rw [← List.drop_drop, d3, List.drop_left]; rfl
  have hne : (hexD n).isEmpty = false := by
    have := hexD_ne n
    cases h : hexD n <;> simp_all
  have hx : hexN (hexD n) = n := by
    have := hexN_hexD 0 n hn
    simpa using this
  have hb : bracedN s (p + 2) = ((n : Int), true, p + (numTx n).length) := by
    unfold bracedN
    rw [hrun, hst, hne, hx]
    simp only [Bool.not_false, Bool.and_self, Bool.true_and, if_true]
    refine Prod.ext rfl (Prod.ext (by simp; omega) ?_)
    simp only [numTx_len]; omega
  have hcp : codeP s (p + 2) = some ((n : Int), p + (numTx n).length) := by
    unfold codeP
    rw [if_pos s2, hb]
    rfl
  unfold oneP
  rw [if_pos s0]
  unfold escP
  rw [if_neg (by simp [s0]), if_neg (by omega), c3, c2, if_neg (by decide), if_neg (by decide), if_pos rfl]
  unfold escX
  rw [hcp]

theorem pair_item (s : ByteArray) (p : Nat) (perl : Bool) (fr : Int) (x : Int × Int) (rest : List UInt8) (hx : 0 ≤ x.1 ∧ x.1 ≤ x.2 ∧ x.2 ≤ 1114111) (h : s.data.toList.drop p = pairTx x ++ rest) :
    itemP s p perl fr = .ok (fun c => decide (x.1 ≤ c) && decide (c ≤ x.2)) (p + (pairTx x).length) := by
  obtain ⟨lo, hi⟩ := x
  obtain ⟨a, rfl⟩ : ∃ a : Nat, lo = a := ⟨lo.toNat, by simp only at hx; omega⟩
  obtain ⟨b, rfl⟩ : ∃ b : Nat, hi = b := ⟨hi.toNat, by simp only at hx; omega⟩
  simp only at hx
  simp only [pairTx, Int.toNat_natCast] at h ⊢
  have d0 : s.data.toList.drop p = numTx a ++ ([45] ++ (numTx b ++ rest)) := by rw [h]; simp only [List.append_assoc]
  have d1 : s.data.toList.drop (p + (numTx a).length) = [45] ++ (numTx b ++ rest) := by rw [← List.drop_drop, d0]; exact drop_app _ _ _ rfl
  have d2 : s.data.toList.drop (p + (numTx a).length + 1) = numTx b ++ rest := by rw [← List.drop_drop, d1]; rfl
  have hz := drop_len d0 (by rw [numTx_len]; omega)
  have la := numTx_len a
  have lb := numTx_len b
  simp only [List.length_append, List.length_cons, List.length_nil] at hz
  have nm : namedP s p = none := by
    unfold namedP
    obtain ⟨t, ht⟩ := numTx_head a
    rw [ht] at d0
    rw [stands_notR d0 (by decide)]
    rfl
  have nd : stands s (p + (numTx a).length + 1) [93] = false := by
    obtain ⟨t, ht⟩ := numTx_head b
    rw [ht] at d2
    exact stands_notR d2 (by decide)
  have rg : rangedP s (p + (numTx a).length) = true := by
    unfold rangedP
    rw [stands_of_dropR d1, nd, decide_eq_true (show p + (numTx a).length + 1 < s.size by omega)]
    rfl
  unfold itemP
  rw [nm]
  simp only
  rw [if_neg (by omega), num_one s p a perl _ (by omega) d0]
  simp only [Int.toNat_natCast]
  rw [if_neg (by simp), rg]
  simp only [if_true]
  rw [num_one s _ b perl _ (by omega) d2]
  simp only [Int.toNat_natCast]
  rw [if_neg (by simp; omega)]
  congr 1
  simp only [List.length_append, List.length_cons, List.length_nil]
  omega
/-- A chain of ranges up to the end of the class. -/
theorem pairs_rest (s : ByteArray) (perl : Bool) (fr : Int) (rest : List UInt8) : ∀ (l : List (Int × Int)) (p n : Nat) (g : Int → Bool), Fine l → l.length < n → s.data.toList.drop p = pairsTx l ++ 93 :: rest →
    ∃ f, restP s perl fr n p g = .ok f (p + (pairsTx l).length + 1) ∧ ∀ c, f c = (g c || memR l c)
  | [], p, n + 1, g, _, _, h => by
    have s0 : stands s p [93] = true := stands_of_dropR (rest := rest) (by rw [h]; rfl)
    refine ⟨g, ?_, fun c => by simp [memR]⟩
    unfold restP
    rw [if_pos s0]
    rfl
  | x :: l, p, n + 1, g, hf, hn, h => by
    rw [pairsTx_cons, List.append_assoc] at h
    have hx := hf x (List.mem_cons_self ..)
    have s0 : stands s p [93] = false := by
      obtain ⟨t, ht⟩ := numTx_head x.1.toNat
      have h' := h
      unfold pairTx at h'
      rw [ht] at h'
      exact stands_notR h' (by decide)
    have hi := pair_item s p perl fr x _ hx h
    obtain ⟨f, h1, h2⟩ := pairs_rest s perl fr rest l (p + (pairTx x).length) n (fun c => g c || (decide (x.1 ≤ c) && decide (c ≤ x.2))) (fun y hy => hf y (List.mem_cons_of_mem _ hy)) (by simpa using hn) (by rw [← List.drop_drop, h]; exact drop_app _ _ _ rfl)
    refine ⟨f, ?_, fun c => ?_⟩
    · unfold restP
      rw [s0, hi]
      simp only [Bool.false_eq_true, if_false]
      rw [h1, pairsTx_cons, List.length_append]
      congr 1
      omega
    · rw [h2, memR_cons, Bool.or_assoc]
/-- The class of a chain of ranges. -/
theorem pairs_cls (l : List (Int × Int)) (hl : l ≠ []) (hf : Fine l) (perl : Bool) (fold : Option ((Int → Bool) → Int → Bool)) (S : ByteArray) (hS : S.data.toList = [91] ++ pairsTx l ++ [93]) :
    ∃ q : Nat, clsQ S 0 perl fold = .ok (match fold with | none => fun c => memR l c | some F => F fun c => memR l c) q := by
  cases l with
  | nil => exact absurd rfl hl
  | cons x l =>
    have hx := hf x (List.mem_cons_self ..)
    have d0 : S.data.toList.drop 0 = [91] ++ (pairsTx (x :: l) ++ [93]) := by rw [List.drop_zero, hS, List.append_assoc]
    have d1 : S.data.toList.drop 1 = pairTx x ++ (pairsTx l ++ [93]) := by rw [show (1 : Nat) = 0 + 1 from rfl, ← List.drop_drop, d0, pairsTx_cons, List.append_assoc]; rfl
    have d2 : S.data.toList.drop (1 + (pairTx x).length) = pairsTx l ++ 93 :: [] := by rw [← List.drop_drop, d1]; exact drop_app _ _ _ rfl
    have s0 : stands S 0 [91] = true := stands_of_dropR d0
    have s1 : stands S (0 + 1) [94] = false := by
      obtain ⟨t, ht⟩ := numTx_head x.1.toNat
      have h' := d1
      unfold pairTx at h'
      rw [ht] at h'
      exact stands_notR h' (by decide)
    have c0 : clsAt S 0 = 1 := by unfold clsAt; rw [s1]; rfl
    have hz := drop_len d1 (by have := pairTx_len x; omega)
    have hlen := pairs_len l
    obtain ⟨f, h1, h2⟩ := pairs_rest S perl 0 [] l (1 + (pairTx x).length) (S.size + 1) (fun c => decide (x.1 ≤ c) && decide (c ≤ x.2)) (fun y hy => hf y (List.mem_cons_of_mem _ hy)) (by simp only [List.length_append] at hz; omega) d2
    have hfe : f = fun c => memR (x :: l) c := funext fun c => by rw [h2, memR_cons]
    refine ⟨1 + (pairTx x).length + (pairsTx l).length + 1, ?_⟩
    unfold clsQ
    have hc : clsP S 0 perl = .ok f (1 + (pairTx x).length + (pairsTx l).length + 1) := by
      unfold clsP
      rw [s0, c0]
      simp only [not_true, if_false]
      rw [show ((0 : Nat) : Int) = 0 from rfl, pair_item S 1 perl 0 x _ hx d1]
      simp only
      exact h1
    rw [hc, s1, hfe]
    simp only
    congr 1
    funext c
    rw [Bool.bne_false]
    cases fold <;> rfl
end Go.Proofs.YtnafemcholkmlaaGreatDoor

namespace Go.Proofs.YtnafemcholkmlaaGreatDoor
open Go Go.RowKit Go.Proofs

theorem cell_lt16 {w : World} {b j : Nat} {v : Value} (h : w.cell? ⟨b, j, none⟩ = some v) : b < w.heap.size := by
  rcases Nat.lt_or_ge b w.heap.size with h' | h'
  · exact h'
  · simp [World.cell?, Array.getElem?_eq_none h'] at h
theorem add_at16 (g o j : Nat) : (⟨g, o, none⟩ : Addr).add j = ⟨g, o + j, none⟩ := by
  unfold Addr.add; split <;> simp_all
set_option maxHeartbeats 1000000 in
theorem tz16 (w : World) (hcell : w.cell? ⟨4, 15, none⟩ = some (.int .u8 4)) :
    Calls Tryz.prog 137 #[.int .u64 16] w fun e w' => e = .returned (.int .i64 4) ∧ w' = w := by
  have key : IntKind.u64.wrap (bits BinOp.and IntKind.u64 16 (IntKind.u64.wrap (-16)) * 285870213051353865) / 288230376151711744 = 15 := by decide
  go_enter Tryz.func137, Tryz.ntmps137
  go_wp2_with (simp only [key])
  go_ret
  exact ⟨rfl, rfl⟩
set_option maxHeartbeats 1000000 in
theorem tz (w : World) (hcell : w.cell? ⟨4, 15, none⟩ = some (.int .u8 4)) :
    Calls Tryz.prog 102 #[.int .u64 16] w fun e w' => e = .returned (.int .i64 4) ∧ w' = w := by
  go_enter Tryz.func102, Tryz.ntmps102
  go_wp2_with fail
  refine (tz16 _ hcell).mono ?_
  rintro e w' ⟨rfl, rfl⟩
  go_wp2_with fail
  go_ret
  exact ⟨rfl, rfl⟩
set_option maxHeartbeats 1000000 in
theorem pow2_16 (w : World) :
    Calls Tryz.prog 101 #[.int .i64 16] w fun e w' => e = .returned (.bool true) ∧ w' = w := by
  go_enter Tryz.func101, Tryz.ntmps101
  go_wp2
  go_ret
  exact ⟨rfl, rfl⟩
/-- The row of 65 bytes behind some digits. -/
def Fb (cs : List Value) (i : Nat) (l : List UInt8) : Prop := cs.length = 65 ∧ i + l.length = 65 ∧ ∀ j, j < l.length → cs[i + j]? = some (.int .u8 ((l.getD j 0).toNat))
theorem Fb.start : Fb (List.replicate 65 (.int .u8 0)) 65 [] := ⟨rfl, rfl, fun _ h => by simp at h⟩
theorem Fb.step {cs : List Value} {i : Nat} {l : List UInt8} (h : Fb cs (i + 1) l) (c : UInt8) : Fb (cs.set i (.int .u8 c.toNat)) i (c :: l) := by
  obtain ⟨h1, h2, h3⟩ := h
  refine ⟨by simpa using h1, by simp; omega, fun j hj => ?_⟩
  cases j with
  | zero => simp [show i < cs.length by omega]
  | succ j =>
    rw [List.getElem?_set_ne (by omega), show i + (j + 1) = i + 1 + j by omega, h3 j (by simpa using hj)]
    rfl
theorem hexTx_lt {n : Nat} (h : n < 16) : hexTx n = [hexDg n] := by rw [hexTx, if_pos h]
theorem hexTx_ge {n : Nat} (h : ¬ n < 16) : hexTx n = hexTx (n / 16) ++ [hexDg (n % 16)] := by rw [hexTx, if_neg h]

theorem dgs_at (d : Nat) (h : d < 16) {h' : d < (ByteArray.mk #[48, 49, 50, 51, 52, 53, 54, 55, 56, 57, 97, 98, 99, 100, 101, 102, 103, 104, 105, 106, 107, 108, 109, 110, 111, 112, 113, 114, 115, 116, 117, 118, 119, 120, 121, 122]).size} :
    (ByteArray.mk #[48, 49, 50, 51, 52, 53, 54, 55, 56, 57, 97, 98, 99, 100, 101, 102, 103, 104, 105, 106, 107, 108, 109, 110, 111, 112, 113, 114, 115, 116, 117, 118, 119, 120, 121, 122])[d]'h' = hexDg d := by
  match d, h with
  | 0, _ | 1, _ | 2, _ | 3, _ | 4, _ | 5, _ | 6, _ | 7, _ | 8, _ | 9, _ | 10, _ | 11, _ | 12, _ | 13, _ | 14, _ | 15, _ => rfl
  | n + 16, h => omega

set_option maxHeartbeats 4000000 in
set_option maxRecDepth 100000 in
theorem formatBits16 (n : Nat) (w : World) (hn : n < 4294967296) (hcell : w.cell? ⟨4, 15, none⟩ = some (.int .u8 4)) :
    Calls Tryz.prog 68 #[.slice none 0 0, .int .u64 n, .int .i64 16, .bool false, .bool false] w fun e w' =>
      e = .returned (.tuple #[.slice none 0 0, .string ⟨(hexTx n).toArray⟩]) ∧ Below w.heap.size w w' := by
  go_enter Tryz.func68, Tryz.ntmps68
  go_wp2_with fail
  refine (pow2_16 _).mono ?_
  rintro e w' ⟨rfl, rfl⟩
  go_wp2_with fail
  refine (tz _ ?hc).mono ?_
  case hc => exact cell_lift (Below.alloc (Below.refl w.heap.size w) (Nat.le_refl _) _) (cell_lt16 hcell) hcell
  rintro e w' ⟨rfl, rfl⟩
  go_wp2_with fail
  go_loopw [1, 13] (fun uv iv wr => ∃ (x i : Nat) (cs : List Value) (l : List UInt8), uv = .int .u64 x ∧ iv = .int .i64 i ∧ Blk wr w.heap.size cs 148 ∧ Fb cs i l ∧ hexTx n = hexTx x ++ l ∧ 57 ≤ i ∧ x < 16 ^ (i - 56) ∧ Below w.heap.size w wr) (fun uv _ _ => (intOf uv).toNat)
  case atStart => exact ⟨n, 65, List.replicate 65 (.int .u8 0), [], rfl, rfl, Blk.new w _ _, Fb.start, by simp, by omega, by omega, (Below.refl _ _).alloc (Nat.le_refl _) _⟩
  case round =>
    obtain ⟨x, i, cs, l, rfl, rfl, hb, hf, hh, hi, hx, hw⟩ := hrel
    have hx16 : x < 18446744073709551616 := by
      have h1 := hf.2.1
      have h2 : 16 ^ (i - 56) ≤ 16 ^ 9 := Nat.pow_le_pow_right (by omega) (by omega)
      omega
    by_cases hlt : 16 ≤ x
    · have hi2 : 58 ≤ i := by
        rcases Nat.lt_or_ge i 58 with h1 | h1
        · rw [show i - 56 = 1 by omega] at hx
          omega
        · exact h1
      have hlen := hf.1
      have hil := hf.2.1
      have e1 : bits .and .u64 (x : Int) 15 = ((x % 16 : Nat) : Int) := by
        have := bits_and_u64_nat x 15 hx16 (by omega)
        rw [show ((15 : Nat) : Int) = 15 from rfl] at this
        rw [this, show (15 : Nat) = 2 ^ 4 - 1 from rfl, Nat.and_two_pow_sub_one_eq_mod]
      have hc := hb.cell (j := i - 1) (v := cs[i - 1]'(by omega)) (by simp)
      have hfz := hb.frozen (i - 1)
      have HF := Lib.hid (show Fb cs (i - 1 + 1) l by rw [show i - 1 + 1 = i by omega]; exact hf)
      have HB := Lib.hid hb; have HH := Lib.hid hh; have HW := Lib.hid hw; have HX := Lib.hid hx
      have hm : x % 16 < 36 := by omega
      clear hf hb hh hw hx
      go_wp2_with (simp only [e1])
      go_roundw
      case rel =>
        rw [dgs_at (x % 16) (by omega)]
        refine ⟨x / 16, i - 1, _, _, by simp, ?_, HB.out.set (i - 1) _, HF.out.step (hexDg (x % 16)), ?_, ?_, ?_, ?_⟩
        · congr 1; omega
        · rw [HH.out, hexTx_ge (by omega)]; simp
        · omega
        · have h3 := HX.out
          rw [show i - 56 = i - 1 - 56 + 1 by omega, Nat.pow_succ] at h3
          omega
        · exact below_next HW.out (Nat.le_refl _) (grownBy_setCell _ _ _ _) (fun k e => by cases e; exact Nat.le_refl _)
      case measure => simp [intOf]; omega
    · have hlen := hf.1
      have hil := hf.2.1
      have hc := hb.cell (j := i - 1) (v := cs[i - 1]'(by omega)) (by simp)
      have hfz := hb.frozen (i - 1)
      have HF := Lib.hid (show Fb cs (i - 1 + 1) l by rw [show i - 1 + 1 = i by omega]; exact hf)
      have HB := Lib.hid hb; have HH := Lib.hid hh; have HW := Lib.hid hw; have HX := Lib.hid hx
      have hxm : x < 36 := by omega
      obtain ⟨W', hW'⟩ : ∃ W', wr.setCell ⟨w.heap.size, i - 1, none⟩ (.int .u8 ((hexDg x).toNat : Int)) = W' := ⟨_, rfl⟩
      have hl : hexTx n = hexDg x :: l := by rw [hh, hexTx_lt (by omega)]; rfl
      have hB' : Blk W' w.heap.size (cs.set (i - 1) (.int .u8 ((hexDg x).toNat : Int))) 148 := by rw [← hW']; exact hb.set _ _
      have hF' := HF.out.step (hexDg x)
      rw [← hl] at hF'
      clear hl
      obtain ⟨m, hm⟩ : ∃ m, (hexTx n).length = m := ⟨_, rfl⟩
      have hal2 : m = 66 - i := by have := hF'.2.1; omega
      have hsl : ∀ W, (Instr.sliceAt 148 (.pointer (some ⟨w.heap.size, 0, none⟩)) (some (.int .i64 ((i : Int) - 1))) none none).run Tryz.prog W = .ok (.slice (some ⟨w.heap.size, i - 1, none⟩) m m) W := fun W => by
        have hal : Tryz.prog.arrayLen 148 = 65 := by kernel_rfl
        rw [run_sliceAt_array_l W 148 ⟨w.heap.size, 0, none⟩ (by kernel_rfl) .i64 ((i : Int) - 1) (by omega) (by rw [hal]; omega), hal2]
        go_simp
        omega
      have hcv : (convert 106 9 (.slice (some ⟨w.heap.size, i - 1, none⟩) m m)).run Tryz.prog W' = .ok (.string ⟨(hexTx n).toArray⟩) W' := by
        have h := run_convert_bytes_back (P := Tryz.prog) W' 106 9 5 ⟨w.heap.size, i - 1, none⟩ m (hexTx n) (by kernel_rfl) (by kernel_rfl) (by kernel_rfl) fun j hj => by
          rw [add_at16]
          refine hB'.cell ?_
          rw [hF'.2.2 j hj]
          simp [hj]
        rw [hm] at h
        exact h
      have hfin : Below w.heap.size w W' := by rw [← hW']; exact below_next hw (Nat.le_refl _) (grownBy_setCell _ _ _ _) (fun k e => by cases e; exact Nat.le_refl _)
      have hdx : ∀ h', (ByteArray.mk #[48, 49, 50, 51, 52, 53, 54, 55, 56, 57, 97, 98, 99, 100, 101, 102, 103, 104, 105, 106, 107, 108, 109, 110, 111, 112, 113, 114, 115, 116, 117, 118, 119, 120, 121, 122])[x]'h' = hexDg x := fun h' => dgs_at x (by omega)
      have HB2 := Lib.hid hB'; have HF2 := Lib.hid hF'; have HM := Lib.hid hm
      clear hf hb hh hw hx hB' hF' hm hal2
      go_wp2_with (first | simp only [hdx] | rw [hW'])
      go_ret2
      exact ⟨rfl, hfin⟩
/-- What the row of a law lists of the library's table. -/
def Bru (w : World) : Prop := w.cell? ⟨4, 15, none⟩ = some (.int .u8 4)
theorem Bru.below {B : Nat} {w w' : World} (h : Bru w) (hb : Below B w w') (hB : 4 < B) : Bru w' := cell_lift hb hB h
theorem Bru.lt {w : World} (h : Bru w) : 4 < w.heap.size := cell_lt16 h

set_option maxHeartbeats 4000000 in
theorem formatInt16 (n : Nat) (w : World) (hn : n < 4294967296) (hT : Bru w) :
    Calls Tryz.prog 46 #[.int .i64 n, .int .i64 16] w fun e w' => e = .returned (.string ⟨(hexTx n).toArray⟩) ∧ Below w.heap.size w w' := by
  have hw : IntKind.u64.wrap (n : Int) = n := by rw [IntKind.wrap_u64]; omega
  go_enter Tryz.func46, Tryz.ntmps46
  go_wp2_with (first | fail | rw [hw])
  refine (formatBits16 n w hn hT).mono ?_
  rintro e w' ⟨rfl, hB⟩
  go_wp2_with fail
  go_ret
  exact ⟨rfl, hB⟩
set_option maxHeartbeats 4000000 in
theorem FormatInt16 (n : Nat) (w : World) (hn : n < 4294967296) (hT : Bru w) :
    Calls Tryz.prog 29 #[.int .i64 n, .int .i64 16] w fun e w' => e = .returned (.string ⟨(hexTx n).toArray⟩) ∧ Below w.heap.size w w' := by
  go_enter Tryz.func29, Tryz.ntmps29
  go_wp2_with fail
  refine (formatInt16 n w hn hT).mono ?_
  rintro e w' ⟨rfl, hB⟩
  go_wp2_with fail
  go_ret
  exact ⟨rfl, hB⟩
end Go.Proofs.YtnafemcholkmlaaGreatDoor

namespace Go.Proofs.YtnafemcholkmlaaGreatDoor
open Go Go.RowKit Go.Proofs Go.Shelf

theorem setFrom_fine : ∀ {l : List (Int × Int)} {l0 : Int}, setFrom l0 l = true → ∀ x ∈ l, l0 + 2 ≤ x.1 ∧ x.1 ≤ x.2 ∧ x.2 ≤ 1114111
  | [], _, _, x, hx => by simp at hx
  | (a, b) :: l, l0, h, x, hx => by
    unfold setFrom at h
    simp only [Bool.and_eq_true, decide_eq_true_eq] at h
    rcases List.mem_cons.1 hx with rfl | hx
    · exact ⟨h.1.1.1, h.1.1.2, h.1.2⟩
    · have := setFrom_fine h.2 x hx
      omega
theorem fine_of_right {l : List (Int × Int)} (h : setRight l = true) : Fine l := fun x hx => by
  have := setFrom_fine h x hx
  omega
theorem cell_keepU {a c : World} {b o : Nat} {v : Value} (hb : Below a.heap.size a c) (hc : a.cell? ⟨b, o, none⟩ = some v) : c.cell? ⟨b, o, none⟩ = some v := cell_lift hb (cell_lt16 hc) hc
set_option maxRecDepth 100000 in
set_option maxHeartbeats 4000000 in
theorem law07_codes (l : List (Int × Int)) (sa : Option Addr) (sc B : Nat) (w : World) (hl : RangesV w B l sa l.length sc) (hB : B ≤ w.heap.size) (hn : l.length ≤ 50) (hf : Fine l) (hT : Bru w) :
    Calls Tryz.prog 16 #[.slice sa l.length sc] w fun e w' => (∃ S : ByteArray, e = .returned (.string S) ∧ S.data.toList = pairsTx l) ∧ Below w.heap.size w w' := by
  have H := Lib.hid hl; have HF := Lib.hid hf; have HT := Lib.hid hT
  have HZ := Lib.hid (fun k => pairsTx_le (l := l.take k) fun x hx => hf x (List.mem_of_mem_take hx))
  clear hl hf hT
  go_enter Tryz.func16, Tryz.ntmps16
  go_wp2_with fail
  go_loopw [3, 4] (fun sv iv wr => ∃ (k : Nat) (S : ByteArray), k ≤ l.length ∧ sv = .string S ∧ S.data.toList = pairsTx (l.take k) ∧ iv = .int .i64 k ∧ Below w.heap.size w wr) (fun _ iv _ => l.length - (intOf iv).toNat)
  case atStart => exact ⟨0, _, Nat.zero_le _, rfl, rfl, rfl, Below.refl _ _⟩
  case round =>
    obtain ⟨k, S, hk, rfl, hS, rfl, hbw⟩ := hrel
    by_cases hlt : k < l.length
    · obtain ⟨b, o, rfl, hb, hr⟩ : ∃ b o, sa = some ⟨b, o, none⟩ ∧ b < B ∧ RangesAt w l b o := by
        rcases H.out.2.2 with h0 | h0
        · omega
        · exact h0
      obtain ⟨g1, g2⟩ := (hr.below hbw (by omega)).get k hlt
      obtain ⟨n, hn1⟩ : ∃ n : Nat, l[k].1 = n := ⟨l[k].1.toNat, by have := HF.out _ (List.getElem_mem hlt); omega⟩
      obtain ⟨m, hm1⟩ : ∃ m : Nat, l[k].2 = m := ⟨l[k].2.toNat, by have := HF.out _ (List.getElem_mem hlt); omega⟩
      have hF := HF.out _ (List.getElem_mem hlt)
      have HTK := Lib.hid (show pairsTx (l.take (k + 1)) = pairsTx (l.take k) ++ (numTx n ++ [45] ++ numTx m) by
        rw [take_snoc' _ _ hlt, pairsTx_append]
        congr 1
        show pairTx l[k] ++ [] = _
        unfold pairTx
        rw [hn1, hm1, List.append_nil, Int.toNat_natCast, Int.toNat_natCast])
      rw [hn1] at g1 hF; rw [hm1] at g2 hF
      have hnn : n ≤ 1114111 := by omega
      have hmm : m ≤ 1114111 := by omega
      have HB := Lib.hid hbw; have HS := Lib.hid hS; have HR := Lib.hid hr
      have hz : S.size ≤ 1050 := by
        have h1 := HZ.out k
        have h2 : S.data.toList.length = S.size := by simp
        rw [← h2, hS]
        have h3 : (l.take k).length ≤ 50 := by rw [List.length_take]; omega
        omega
      obtain ⟨X, hX⟩ : ∃ X, X = (⟨(hexTx n).toArray⟩ : ByteArray) := ⟨_, rfl⟩
      obtain ⟨Y, hY⟩ : ∃ Y, Y = (⟨(hexTx m).toArray⟩ : ByteArray) := ⟨_, rfl⟩
      have hXz : X.size ≤ 6 := by
        have := hexD_len n 5 (by omega)
        rw [hX]; show (hexTx n).toArray.size ≤ 6; rw [hexTx_same]; simpa using this
      have hYz : Y.size ≤ 6 := by
        have := hexD_len m 5 (by omega)
        rw [hY]; show (hexTx m).toArray.size ≤ 6; rw [hexTx_same]; simpa using this
      have HX := Lib.hid (show X.data.toList = hexD n by rw [hX, hexTx_same])
      have HY := Lib.hid (show Y.data.toList = hexD m by rw [hY, hexTx_same])
      have F1 := Lib.hid (show ∀ W, Below w.heap.size w W → Calls Tryz.prog 29 #[.int .i64 (IntKind.i64.wrap (n : Int)), .int .i64 16] W fun e w' => e = .returned (.string X) ∧ Below W.heap.size W w' from fun W hW => by rw [hX]; rw [show IntKind.i64.wrap (n : Int) = n by rw [IntKind.wrap_i64]; omega]; exact FormatInt16 n W (by omega) (HT.out.below hW HT.out.lt))
      have F2 := Lib.hid (show ∀ W, Below w.heap.size w W → Calls Tryz.prog 29 #[.int .i64 (IntKind.i64.wrap (m : Int)), .int .i64 16] W fun e w' => e = .returned (.string Y) ∧ Below W.heap.size W w' from fun W hW => by rw [hY]; rw [show IntKind.i64.wrap (m : Int) = m by rw [IntKind.wrap_i64]; omega]; exact FormatInt16 m W (by omega) (HT.out.below hW HT.out.lt))
      have hw0 : w.heap.size ≤ wr.heap.size := HB.out.size
      have hbr : Below w.heap.size w wr.drew := HB.out.drew
      have hg1 : (wr.drew).cell? ⟨b, o + k * 2, none⟩ = some (.int .i32 n) := g1
      have hg2 : (wr.drew).cell? ⟨b, o + k * 2 + 1, none⟩ = some (.int .i32 m) := g2
      have q1 : ¬ 9223372036854775807 < S.size + 3 := by omega
      have q2 : ¬ 9223372036854775807 < S.size + 3 + X.size := by omega
      have q3 : ¬ 9223372036854775807 < S.size + 3 + X.size + 5 := by omega
      have q4 : ¬ 9223372036854775807 < S.size + 3 + X.size + 5 + Y.size := by omega
      have q5 : ¬ 9223372036854775807 < S.size + 3 + X.size + 5 + Y.size + 1 := by omega
      clear hbw hS hr hF hn1 hm1 hX hY
      go_wp2_with fail
      go_region_held3 (fun w' => Below w.heap.size w w' ∧ w'.cell? ⟨b, o + k * 2, none⟩ = some (.int .i32 n) ∧ w'.cell? ⟨b, o + k * 2 + 1, none⟩ = some (.int .i32 m))
          (first | (refine ⟨below_then (by assumption) hb4, cell_keepU hb4 (by assumption), cell_keepU hb4 (by assumption)⟩) | (obtain ⟨i1, i2, i3⟩ : Below w.heap.size w _ ∧ _ = _ ∧ _ = _ := (by assumption); exact ⟨below_then i1 hb4, cell_keepU hb4 i2, cell_keepU hb4 i3⟩) | go_keep)
          (first | (go_at_call 29; first | (refine (F1.out _ (by first | assumption | exact And.left (by assumption))).mono ?_; rintro e w4 ⟨rfl, hb4⟩) | (refine (F2.out _ (by first | assumption | exact And.left (by assumption))).mono ?_; rintro e w4 ⟨rfl, hb4⟩)))
      obtain ⟨i1, i2, i3⟩ : Below w.heap.size w w4 ∧ _ = _ ∧ _ = _ := (by assumption)
      have BW := Lib.hid i1
      have HZL := Lib.hid (show (S ++ (⟨#[92, 120, 123]⟩ : ByteArray) ++ X ++ (⟨#[125, 45, 92, 120, 123]⟩ : ByteArray) ++ Y ++ (⟨#[125]⟩ : ByteArray)).data.toList = pairsTx (l.take (k + 1)) by
        rw [HTK.out]
        simp only [ByteArray.data_append, Array.toList_append, HS.out, HX.out, HY.out, numTx, List.append_assoc]
        rfl)
      clear i1 i2 i3 q1 q2 q3 q4 q5 hg1 hg2 hbr
      go_wp2_with fail
      go_roundw
      case rel => exact ⟨k + 1, _, hlt, rfl, HZL.out, by go_num, BW.out⟩
      case measure => simp [intOf]; omega
    · obtain rfl : k = l.length := by omega
      rw [List.take_length] at hS
      go_wp2_with fail
      go_ret
      exact ⟨⟨S, rfl, hS⟩, hbw⟩
end Go.Proofs.YtnafemcholkmlaaGreatDoor
