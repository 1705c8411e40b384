/- Is a list of ranges a set? martelloref02.Right. Has a tree just the fields of its Op? The document's question and the number of Kids are the program's one question. (Printed by gen_reffields.py.) -/
import Derived.Test.YtihbmgpjihgodaaGreatDoorBase
import Derived.Test.YtihbmgpjihgodaaGreatDoorQBlk
import Derived.Test.YtihbmgpjihgodaaGreatDoorSetsPure
import Derived.Test.YtihbmgpjihgodaaGreatDoorProg
import Derived.WalkKit
import Derived.Lib.Hide
import Derived.WalkSpells
import Derived.WalkLawsBesides
import Derived.LoopTactic
import Derived.Deep.QuietTactic
import Derived.BigQuiet
import Derived.Test.YtihbmgpjihgodaaGreatDoorRefTree
import Derived.Test.YtihbmgpjihgodaaGreatDoorRefNameT
namespace Go.Proofs.YtihbmgpjihgodaaGreatDoor
open Go Go.RowKit Go.Proofs

theorem setFrom_append (a b : List (Int × Int)) (l0 : Int) : setFrom l0 (a ++ b) = (setFrom l0 a && setFrom (lastH l0 a) b) := by
  induction a generalizing l0 with
  | nil => simp [setFrom, lastH]
  | cons x a ih =>
    obtain ⟨p, q⟩ := x
    simp only [List.cons_append, setFrom, lastH, ih, Bool.and_assoc]
theorem setRight_take {rs : List (Int × Int)} (k : Nat) (h : setRight (rs.take k) = false) : setRight rs = false := by
  have := setFrom_append (rs.take k) (rs.drop k) (-2)
  rw [List.take_append_drop] at this
  unfold setRight at *
  rw [this, h]; rfl
set_option maxRecDepth 100000 in
set_option maxHeartbeats 8000000 in
theorem ref02_Right (rs : List (Int × Int)) (sa : Option Addr) (sn sc B : Nat) (w : World) (h : RangesV w B rs sa sn sc) (hB : B ≤ w.heap.size) :
    Calls Tryz.prog 59 #[.slice sa sn sc] w fun e w' => e = .returned (.bool (setRight rs)) ∧ Below w.heap.size w w' := by
  have H := Lib.hid h.2.2
  have hsn := h.1
  have h2 := h.2.1
  subst hsn
  clear h
  go_enter Tryz.func59, Tryz.ntmps59
  go_wp2_with fail
  go_loopw [3] (fun iv wr => ∃ k : Nat, k ≤ rs.length ∧ iv = .int .i64 k ∧ setRight (rs.take k) = true ∧ Below w.heap.size w wr) (fun iv _ => rs.length - (intOf iv).toNat)
  case atStart => exact ⟨0, Nat.zero_le _, rfl, rfl, Below.refl _ _⟩
  case round =>
    obtain ⟨k, hk, rfl, hI, hbw⟩ := hrel
    have HI := Lib.hid hI; have HB := Lib.hid hbw
    clear hI hbw
    by_cases hlt : k < rs.length
    · obtain ⟨b, o, rfl, hb, hr⟩ : ∃ b o, sa = some ⟨b, o, none⟩ ∧ b < B ∧ RangesAt w rs b o := by
        rcases H.out with h0 | h0
        · omega
        · exact h0
      have hr' := hr.below (B := w.heap.size) HB.out (by omega)
      obtain ⟨g1, g2⟩ := hr'.get k hlt
      obtain ⟨l, hl⟩ : ∃ l, rs[k].1 = l := ⟨_, rfl⟩
      obtain ⟨h, hh⟩ : ∃ h, rs[k].2 = h := ⟨_, rfl⟩
      rw [hl] at g1; rw [hh] at g2
      have hs := setFrom_snoc rs[k] (rs.take k) (-2)
      rw [← List.take_succ_eq_append_getElem hlt, show setFrom (-2) (rs.take k) = true from HI.out, Bool.true_and, hl, hh] at hs
      have HSN := Lib.hid (show setRight (rs.take (k + 1)) = _ from hs)
      have HNO := Lib.hid (setRight_take (rs := rs) (k + 1))
      have HLH := Lib.hid (lastH_snoc)
      clear hl hh hs
      have lo0 : -2 ≤ lastH (-2) (rs.take k) := lastH_ge HI.out
      by_cases t1 : l < 0
      · have HF := Lib.hid (HNO.out (by rw [HSN.out, decide_eq_false (by omega)]; rfl))
        have d1 : decide (l < 0) = true := decide_eq_true t1
        go_wp2_with fail
        go_quiet (fail)
        go_wp2_with fail
        go_ret
        exact ⟨by rw [HF.out]; rfl, below_drewN HB.out _⟩
      have d1 : decide (l < 0) = false := decide_eq_false t1
      by_cases t2 : h > 1114111
      · have HF := Lib.hid (HNO.out (by rw [HSN.out, decide_eq_false (p := h ≤ 1114111) (by omega), Bool.and_false]))
        have d2 : decide (1114111 < h) = true := decide_eq_true t2
        go_wp2_with fail
        go_quiet (fail)
        go_wp2_with fail
        go_ret
        exact ⟨by rw [HF.out]; rfl, below_drewN HB.out _⟩
      have d2 : decide (1114111 < h) = false := decide_eq_false t2
      by_cases t3 : l > h
      · have HF := Lib.hid (HNO.out (by rw [HSN.out, decide_eq_false (p := l ≤ h) (by omega), Bool.and_false]; rfl))
        have d3 : decide (h < l) = true := decide_eq_true t3
        go_wp2_with fail
        go_quiet (fail)
        go_wp2_with fail
        go_ret
        exact ⟨by rw [HF.out]; rfl, below_drewN HB.out _⟩
      have d3 : decide (h < l) = false := decide_eq_false t3
      by_cases hk0 : k = 0
      · have HT := Lib.hid (show setRight (rs.take (k + 1)) = true by
          rw [HSN.out, hk0]
          simp only [List.take_zero, lastH]
          rw [decide_eq_true (by omega), decide_eq_true (by omega), decide_eq_true (by omega)]; rfl)
        have d4 : decide (0 < k) = false := by simp; omega
        clear hk0
        go_wp2_with fail
        go_quiet (fail)
        go_wp2_with fail
        go_quiet (fail)
        go_wp2_with fail
        go_roundw
        case rel => exact ⟨k + 1, hlt, by go_num, HT.out, below_drewN HB.out _⟩
        case measure => simp [intOf]; omega
      · obtain ⟨p, hp⟩ : ∃ p, k = p + 1 := ⟨k - 1, by omega⟩
        have hpk : p < rs.length := by omega
        obtain ⟨g3, g4⟩ := hr'.get p hpk
        obtain ⟨q, hq⟩ : ∃ q, rs[p].2 = q := ⟨_, rfl⟩
        rw [hq] at g4
        have hlast : lastH (-2) (rs.take k) = q := by rw [hp, List.take_succ_eq_append_getElem hpk, lastH_snoc, hq]
        have hq2 : q ≤ 1114111 := by
          have := setFrom_snoc rs[p] (rs.take p) (-2)
          rw [← List.take_succ_eq_append_getElem hpk, ← hp, show setFrom (-2) (rs.take k) = true from HI.out] at this
          have h2 := this.symm
          simp only [Bool.and_eq_true, decide_eq_true_eq] at h2
          omega
        rw [hlast] at lo0
        have HSN2 := Lib.hid (show setRight (rs.take (k + 1)) = (decide (q + 2 ≤ l) && decide (l ≤ h) && decide (h ≤ 1114111)) by rw [HSN.out, hlast])
        have hpi : (k : Int) - 1 = (p : Int) := by omega
        have d4 : decide (0 < k) = true := by simp; omega
        have d4' : 0 < k := by omega
        have HP := Lib.hid hp
        clear hq hlast HSN hr' hr g3 hp hk0
        by_cases t4 : l ≤ q
        · have HF := Lib.hid (HNO.out (by rw [HSN2.out, decide_eq_false (p := q + 2 ≤ l) (by omega)]; rfl))
          have d5 : decide (l ≤ q) = true := decide_eq_true t4
          go_wp2_with fail
          go_quiet (fail)
          go_wp2_with fail
          go_quiet (fail)
          go_wp2_with fail
          go_ret
          exact ⟨by rw [HF.out]; rfl, below_drewN (below_drewN HB.out _) _⟩
        have d5 : decide (l ≤ q) = false := decide_eq_false t4
        by_cases t5 : l - q < 2
        · have HF := Lib.hid (HNO.out (by rw [HSN2.out, decide_eq_false (p := q + 2 ≤ l) (by omega)]; rfl))
          have d6 : decide (l - q < 2) = true := decide_eq_true t5
          go_wp2_with fail
          go_quiet (fail)
          go_wp2_with fail
          go_quiet (fail)
          go_wp2_with fail
          go_ret
          exact ⟨by rw [HF.out]; rfl, below_drewN (below_drewN HB.out _) _⟩
        · have HT := Lib.hid (show setRight (rs.take (k + 1)) = true by rw [HSN2.out, decide_eq_true (by omega), decide_eq_true (by omega), decide_eq_true (by omega)]; rfl)
          have d6 : decide (l - q < 2) = false := decide_eq_false t5
          go_wp2_with fail
          go_quiet (fail)
          go_wp2_with fail
          go_quiet (fail)
          go_wp2_with fail
          go_roundw
          case rel => exact ⟨k + 1, hlt, by go_num, HT.out, below_drewN HB.out _⟩
          case measure => simp [intOf]; omega
    · have HT := Lib.hid (show setRight rs = true by
        have : k = rs.length := by omega
        have := HI.out
        rwa [show rs.take k = rs by rw [‹k = rs.length›, List.take_length]] at this)
      go_wp2_with fail
      go_ret
      exact ⟨by rw [HT.out]; rfl, HB.out⟩
end Go.Proofs.YtihbmgpjihgodaaGreatDoor

namespace Go.Proofs.YtihbmgpjihgodaaGreatDoor
open Go Go.RowKit Go.Proofs

/-- What a part's own field may be. -/
def ownB (op rune : Int) (sn : Nat) (so : Bool) (pl : Int) (name : ByteArray) (mn mx : Int) : Bool :=
  if op = 3 then decide (0 ≤ rune) && decide (rune ≤ 1114111)
  else if op = 4 then so && decide (0 < sn)
  else if op = 5 then decide (pl = 1 ∨ pl = 2 ∨ pl = 4 ∨ pl = 8 ∨ pl = 16 ∨ pl = 32)
  else if op = 6 then decide (name.size = 0) || nameB name
  else if op = 10 then decide (0 ≤ mn) && decide (mn ≤ 1000) && (decide (mx = -1) || (decide (mn ≤ mx) && decide (mx ≤ 1000)))
  else true
def fieldsB (op rune : Int) (sn : Nat) (so : Bool) (pl cap : Int) (name : ByteArray) (mn mx : Int) (lz : Bool) : Bool :=
  decide (1 ≤ op ∧ op ≤ 12) && bareOk op rune sn pl cap name mn mx lz && ownB op rune sn so pl name mn mx
theorem fields_plain (op : Int) (kids : List T) (rune : Int) (set : List (Int × Int)) (pl cap : Int) (name : ByteArray) (mn mx : Int) (lz : Bool) :
    (fieldsB op rune set.length (setRight set) pl cap name mn mx lz && kidsB op kids.length) = plainT (.mk op kids rune set pl cap name mn mx lz) := by
  unfold fieldsB plainT
  simp only [T.op, T.rune, T.set, T.pl, T.cap, T.name, T.mn, T.mx, T.lz, T.kids]
  cases bareOk op rune set.length pl cap name mn mx lz with
  | false => simp
  | true =>
    simp only [Bool.and_true, Bool.true_and]
    by_cases hr : 1 ≤ op ∧ op ≤ 12
    · rw [decide_eq_true hr, Bool.true_and]
      have : op = 1 ∨ op = 2 ∨ op = 3 ∨ op = 4 ∨ op = 5 ∨ op = 6 ∨ op = 7 ∨ op = 8 ∨ op = 9 ∨ op = 10 ∨ op = 11 ∨ op = 12 := by omega
      rcases this with rfl | rfl | rfl | rfl | rfl | rfl | rfl | rfl | rfl | rfl | rfl | rfl
      all_goals simp only [ownB, kidsB, kindOk]
      all_goals simp only [Int.reduceEq, reduceIte, or_self, or_true, or_false, Bool.true_and, Bool.and_true]
      · rw [Bool.and_comm, Bool.and_assoc]
      · rw [Bool.and_comm, Bool.and_assoc]; congr 1; rw [Bool.and_comm]
      · rw [Bool.and_comm]
      · rw [Bool.and_comm]
      · cases decide (0 ≤ mn) <;> cases decide (mn ≤ 1000) <;> cases decide (kids.length = 1) <;> simp
      · exact decide_eq_decide.2 (by omega)
    · rw [decide_eq_false hr, Bool.false_and, Bool.false_and]
      unfold kindOk
      have a1 : ¬ (op = 1 ∨ op = 2) := by omega
      have a3 : ¬ op = 3 := by omega
      have a4 : ¬ op = 4 := by omega
      have a5 : ¬ op = 5 := by omega
      have a6 : ¬ op = 6 := by omega
      have a7 : ¬ (op = 7 ∨ op = 8 ∨ op = 9) := by omega
      have a10 : ¬ op = 10 := by omega
      have a11 : ¬ op = 11 := by omega
      have a12 : ¬ op = 12 := by omega
      rw [if_neg a1, if_neg a3, if_neg a4, if_neg a5, if_neg a6, if_neg a7, if_neg a10, if_neg a11, if_neg a12]
end Go.Proofs.YtihbmgpjihgodaaGreatDoor
