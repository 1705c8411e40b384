/- A tree's text: the printer's answer as a plain function, and what the two ways of writing it have in common. -/
import Derived.Test.YtihbmgpjihgodaaDoorBase
import Derived.Lib.ItoaNum
namespace Go.Proofs.YtihbmgpjihgodaaDoor
open Go

/-- Hexadecimal digits. -/
def hexDg (d : Nat) : UInt8 := [48, 49, 50, 51, 52, 53, 54, 55, 56, 57, 97, 98, 99, 100, 101, 102].getD d 0
def hexTx (n : Nat) : List UInt8 := if n < 16 then [hexDg n] else hexTx (n / 16) ++ [hexDg (n % 16)]
termination_by n
decreasing_by omega
abbrev decTx (n : Nat) : List UInt8 := Lib.decDigits n
/-- A rune's number. -/
def codeTx (c : Int) : List UInt8 := [92, 120, 123] ++ hexTx c.toNat ++ [125]
def isPlainC (c : Int) : Bool := (48 ≤ c ∧ c ≤ 57) ∨ (65 ≤ c ∧ c ≤ 90) ∨ (97 ≤ c ∧ c ≤ 122) ∨ c ∈ [95, 32, 33, 34, 35, 37, 38, 39, 44, 45, 47, 58, 59, 60, 61, 62, 64, 126, 96]
def isMetaC (c : Int) : Bool := c ∈ [92, 46, 43, 42, 63, 40, 41, 124, 91, 93, 123, 125, 94, 36]
/-- A rune's text. -/
def litTx (c : Int) : List UInt8 := if isPlainC c then [UInt8.ofNat c.toNat] else if isMetaC c then [92, UInt8.ofNat c.toNat] else codeTx c
def setTx (l : List (Int × Int)) : List UInt8 := [91] ++ l.flatMap (fun x => codeTx x.1 ++ if x.1 < x.2 then [45] ++ codeTx x.2 else []) ++ [93]
def placeTx (a : Int) : List UInt8 :=
  if a = 1 then [92, 65] else if a = 2 then [92, 122] else if a = 4 then [40, 63, 109, 58, 94, 41] else if a = 8 then [40, 63, 109, 58, 36, 41] else if a = 16 then [92, 98] else [92, 66]
def signTx (op mn mx : Int) (lz : Bool) : List UInt8 :=
  (if op = 7 then [42] else if op = 8 then [43] else if op = 9 then [63] else if mx = mn then [123] ++ decTx mn.toNat ++ [125] else if mx < 0 then [123] ++ decTx mn.toNat ++ [44, 125] else [123] ++ decTx mn.toNat ++ [44] ++ decTx mx.toNat ++ [125]) ++ (if lz then [63] else [])
def bracedTx (s : List UInt8) (must : Bool) : List UInt8 := if must then [40, 63, 58] ++ s ++ [41] else s

/-- A tree, or its Kid, if it has one alone to put together. -/
def throughT : T → T
  | .mk op [k] rune set pl cap name mn mx lz => if op = 11 ∨ op = 12 then throughT k else .mk op [k] rune set pl cap name mn mx lz
  | t => t
theorem throughT_one (op : Int) (k : T) (rune : Int) (set : List (Int × Int)) (pl cap : Int) (name : ByteArray) (mn mx : Int) (lz : Bool) :
    throughT (.mk op [k] rune set pl cap name mn mx lz) = if op = 11 ∨ op = 12 then throughT k else .mk op [k] rune set pl cap name mn mx lz := by rw [throughT]
theorem throughT_other {t : T} (h : t.kids.length ≠ 1 ∨ ¬ (t.op = 11 ∨ t.op = 12)) : throughT t = t := by
  obtain ⟨op, kids, rune, set, pl, cap, name, mn, mx, lz⟩ := t
  simp only [T.kids, T.op] at h
  match kids, h with
  | [], _ => rw [throughT]; intro k; simp
  | [k], h => rw [throughT_one, if_neg (by simpa using h)]
  | a :: b :: r, _ => rw [throughT]; intro k; simp
theorem not_one {n : Nat} {p : Prop} (h : ¬ (n = 1 ∧ p)) : n ≠ 1 ∨ ¬ p := by
  by_cases h1 : n = 1
  · exact .inr fun h2 => h ⟨h1, h2⟩
  · exact .inl h1
theorem throughT_size (t : T) : SizeOf.sizeOf (throughT t) ≤ SizeOf.sizeOf t := by
  induction t using T.ind with
  | h op kids rune set pl cap name mn mx lz ih =>
    by_cases h : kids.length = 1 ∧ (op = 11 ∨ op = 12)
    · obtain ⟨h1, h2⟩ := h
      match kids, h1, ih with
      | [k], _, ih =>
        rw [throughT_one, if_pos h2]
        have := ih k (by simp)
        simp; omega
    · rw [throughT_other (by simp only [T.kids, T.op]; exact not_one h)]
      exact Nat.le_refl _
theorem throughT_idem (t : T) : throughT (throughT t) = throughT t := by
  induction t using T.ind with
  | h op kids rune set pl cap name mn mx lz ih =>
    by_cases h : kids.length = 1 ∧ (op = 11 ∨ op = 12)
    · obtain ⟨h1, h2⟩ := h
      match kids, h1, ih with
      | [k], _, ih =>
        rw [throughT_one, if_pos h2]
        exact ih k (by simp)
    · have e := throughT_other (t := .mk op kids rune set pl cap name mn mx lz) (by simp only [T.kids, T.op]; exact not_one h)
      rw [e, e]
/-- Of a Kid of a repeat: must it stand between brackets? -/
def mustT (k : T) : Bool := if (throughT k).op = 11 then decide (0 < (throughT k).kids.length) else decide ((throughT k).op = 12 ∨ (throughT k).op = 7 ∨ (throughT k).op = 8 ∨ (throughT k).op = 9 ∨ (throughT k).op = 10)
def joinTx : List (List UInt8) → List UInt8
  | [] => []
  | [x] => x
  | x :: y :: r => x ++ [124] ++ joinTx (y :: r)

mutual
/-- A right tree's text: of what lies through it. -/
def textT : T → List UInt8
  | .mk op kids rune set pl _ name mn mx lz =>
    if op = 1 then [91, 94, 92, 120, 123, 48, 125, 45, 92, 120, 123, 49, 48, 102, 102, 102, 102, 125, 93]
    else if op = 3 then litTx rune
    else if op = 4 then setTx set
    else if op = 5 then placeTx pl
    else if op = 6 then (if name.size = 0 then [40] else [40, 63, 80, 60] ++ name.data.toList ++ [62]) ++ (textsT kids).flatten ++ [41]
    else if op = 12 then joinTx (textsT kids)
    else if op = 7 ∨ op = 8 ∨ op = 9 ∨ op = 10 then bracedTx (textsT kids).flatten (kids.any mustT) ++ signTx op mn mx lz
    else if kids.length = 0 then [40, 63, 58, 41]
    else if kids.length = 1 then (textsT kids).flatten
    else (brTs kids).flatten
def textsT : List T → List (List UInt8)
  | [] => []
  | k :: ks => textT k :: textsT ks
def brTs : List T → List (List UInt8)
  | [] => []
  | k :: ks => bracedTx (textT k) (decide ((throughT k).op = 12)) :: brTs ks
end
end Go.Proofs.YtihbmgpjihgodaaDoor
