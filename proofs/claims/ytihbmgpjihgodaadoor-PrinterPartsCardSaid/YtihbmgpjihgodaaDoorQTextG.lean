/- A right tree's text: the program's: printer.text. (Printed by gen_textg.py.) What is told of a tree: printer.Print. The printer's live question: martellolaw09.head: of any letter behind a star, and of no tree. -/
import Derived.Test.YtihbmgpjihgodaaDoorTextGA
import Derived.Test.YtihbmgpjihgodaaDoorTextG6
import Derived.Test.YtihbmgpjihgodaaDoorTextG7
import Derived.Test.YtihbmgpjihgodaaDoorTextG8
import Derived.Test.YtihbmgpjihgodaaDoorTextG9
import Derived.Test.YtihbmgpjihgodaaDoorTextG10
import Derived.Test.YtihbmgpjihgodaaDoorTextG11
import Derived.Test.YtihbmgpjihgodaaDoorTextG12
import Derived.Test.YtihbmgpjihgodaaDoorRightSame
import Derived.Test.YtihbmgpjihgodaaDoorSetsRightAt
import Derived.Test.YtihbmgpjihgodaaDoorOpenTree
import Derived.Test.YtihbmgpjihgodaaDoorPrintPure
import Derived.Test.YtihbmgpjihgodaaDoorTextAid
namespace Go.Proofs.YtihbmgpjihgodaaDoor
open Go Go.RowKit Go.Proofs Go.Shelf

theorem printer_text : ∀ (n : Nat), ∀ (t : T), SizeOf.sizeOf t ≤ n → ∀ (cs : List Value) (B : Nat) (w : World), TreeV w B t cs → B ≤ w.heap.size → PlainAll t → pcT t ≤ 1000000 → Tb w →
    Calls Tryd.prog 9 #[.agg cs.toArray] w fun e w' => e = .returned (.string ⟨(textT t).toArray⟩) ∧ Below w.heap.size w w' := by
  intro n
  induction n with
  | zero => intro t ht; cases t; simp at ht
  | succ n ih =>
    intro t hsz cs B w h hB hP hpc hT
    have hp := hP.through.self
    obtain ⟨u, hu⟩ : ∃ u, u = throughT t := ⟨_, rfl⟩
    have hop : 1 ≤ (throughT t).op ∧ (throughT t).op ≤ 12 := by
      rw [← hu] at hp ⊢
      obtain ⟨op, kids, rune, set, pl, cap, name, mn, mx, lz⟩ := u
      exact (plainT_is hp).op1
    have hc : (throughT t).op = 1 ∨ (throughT t).op = 2 ∨ (throughT t).op = 3 ∨ (throughT t).op = 4 ∨ (throughT t).op = 5 ∨ (throughT t).op = 6 ∨ (throughT t).op = 7 ∨ (throughT t).op = 8 ∨ (throughT t).op = 9 ∨ (throughT t).op = 10 ∨ (throughT t).op = 11 ∨ (throughT t).op = 12 := by omega
    rcases hc with e | e | e | e | e | e | e | e | e | e | e | e
    · exact printer_text_1 n ih t hsz e cs B w h hB hP hpc hT
    · exact printer_text_2 n ih t hsz e cs B w h hB hP hpc hT
    · exact printer_text_3 n ih t hsz e cs B w h hB hP hpc hT
    · exact printer_text_4 n ih t hsz e cs B w h hB hP hpc hT
    · exact printer_text_5 n ih t hsz e cs B w h hB hP hpc hT
    · exact printer_text_6 n ih t hsz e cs B w h hB hP hpc hT
    · exact printer_text_7 n ih t hsz e cs B w h hB hP hpc hT
    · exact printer_text_8 n ih t hsz e cs B w h hB hP hpc hT
    · exact printer_text_9 n ih t hsz e cs B w h hB hP hpc hT
    · exact printer_text_10 n ih t hsz e cs B w h hB hP hpc hT
    · exact printer_text_11 n ih t hsz e cs B w h hB hP hpc hT
    · exact printer_text_12 n ih t hsz e cs B w h hB hP hpc hT
end Go.Proofs.YtihbmgpjihgodaaDoor

namespace Go.Proofs.YtihbmgpjihgodaaDoor
open Go Go.RowKit Go.Proofs Go.Shelf

/-- What is told of a tree. -/
def printTx (t : T) : List UInt8 := if rightB t = true then textT t else []
def printE (t : T) : Int := if rightB t = true then 0 else 51
theorem right_plainAll {t : T} (h : rightB t = true) : PlainAll t := by
  have h3 := (shapedT_iff t).1 ((rightB_iff t).1 h).2.2.1
  intro p hp
  have := h3 p hp
  unfold shapedP at this
  simp only [Bool.and_eq_true] at this
  exact this.1

set_option maxHeartbeats 1000000 in
theorem printer_Print (t : T) (cs : List Value) (B : Nat) (w : World) (h : TreeV w B t cs) (hB : B ≤ w.heap.size) (hpc : pcT t ≤ 1000000) (hT : Tb w) :
    Calls Tryd.prog 7 #[.agg cs.toArray] w fun e w' => e = .returned (.tuple #[.string ⟨(printTx t).toArray⟩, .int .i64 (printE t)]) ∧ Below w.heap.size w w' := by
  have HB0 := Lib.hid (fun o => (Below.refl _ w).alloc (Nat.le_refl _) o)
  have hpl := parts_le_pc t
  have HR := Lib.hid (fun W (hW : Below w.heap.size w W) => right_any sets_Right t cs B W (h.below (hW.mono hB)) (Nat.le_trans hB hW.size) (fun p hp _ => by have := set_le_pc t p hp; omega) (by omega))
  have HTX := Lib.hid (fun (hr : rightB t = true) W (hW : Below w.heap.size w W) => printer_text _ t (Nat.le_refl _) cs B W (h.below (hW.mono hB)) (Nat.le_trans hB hW.size) (right_plainAll hr) hpc (hT.below hW))
  have hz := Lib.hid (Blk.new w cs 27)
  obtain ⟨op, ka, kn, kc, rune, sa, sn, sc, pl, cap, name, mn, mx, lz, rfl⟩ := h.form
  clear h hpl
  go_enter Tryd.func7, Tryd.ntmps7
  go_wp2_with fail
  refine (HR.out _ (HB0.out _)).mono ?_
  rintro e w1 ⟨rfl, hb1⟩
  have HB1 := Lib.hid ((HB0.out _).trans (hb1.mono (by simp)))
  have hz1 := hz.out.below hb1 (by simp)
  have z0 := hz1.cell (j := 0) rfl; have z1 := hz1.cell (j := 1) rfl; have z2 := hz1.cell (j := 2) rfl; have z3 := hz1.cell (j := 3) rfl; have z4 := hz1.cell (j := 4) rfl
  have z5 := hz1.cell (j := 5) rfl; have z6 := hz1.cell (j := 6) rfl; have z7 := hz1.cell (j := 7) rfl; have z8 := hz1.cell (j := 8) rfl; have z9 := hz1.cell (j := 9) rfl
  clear hb1 hz1
  cases hr : rightB t with
  | true =>
    have HRR := Lib.hid hr
    clear hr
    go_wp2_with fail
    refine (HTX.out HRR.out _ HB1.out).mono ?_
    rintro e w2 ⟨rfl, hb2⟩
    go_wp2_with fail
    refine bodyPost_ret (v := .tuple #[.string ⟨(textT t).toArray⟩, .int .i64 0]) (by simp [results, Tryd.results7, go_sem]) rfl ⟨?_, HB1.out.trans (hb2.mono HB1.out.size)⟩
    unfold printTx printE
    rw [if_pos HRR.out, if_pos HRR.out]
  | false =>
    have HRR := Lib.hid hr
    clear hr
    go_wp2_with fail
    refine bodyPost_ret (v := .tuple #[.string ⟨#[]⟩, .int .i64 51]) (by simp [results, Tryd.results7, go_sem]) rfl ⟨?_, HB1.out⟩
    unfold printTx printE
    rw [if_neg (by rw [HRR.out]; simp), if_neg (by rw [HRR.out]; simp)]
end Go.Proofs.YtihbmgpjihgodaaDoor

namespace Go.Proofs.YtihbmgpjihgodaaDoor
open Go Go.RowKit Go.Proofs Go.Shelf

def treeA : T := .mk 3 [] 97 [] 0 0 ⟨#[]⟩ 0 0 false
def treeStar : T := .mk 7 [treeA] 0 [] 0 0 ⟨#[]⟩ 0 0 false
def treeNo : T := .mk 0 [] 0 [] 0 0 ⟨#[]⟩ 0 0 false
theorem star_right : rightB treeStar = true := by decide +kernel
theorem no_right : rightB treeNo = false := by decide +kernel
theorem star_text : textT treeStar = [97, 42] := by decide +kernel
abbrev cellsA : List Value := [.int .i64 3, .slice none 0 0, .int .i32 97, .slice none 0 0, .int .i64 0, .int .i64 0, .string ⟨#[]⟩, .int .i64 0, .int .i64 0, .bool false]
theorem treeA_at (w : World) : TreeV w 0 treeA cellsA := TreeV.mk ⟨rfl, ⟨Nat.le_refl _, by omega⟩, .inl rfl⟩ ⟨rfl, ⟨Nat.le_refl _, by omega⟩, .inl rfl⟩
theorem treeNo_at (w : World) (B : Nat) : TreeV w B treeNo [.int .i64 0, .slice none 0 0, .int .i32 0, .slice none 0 0, .int .i64 0, .int .i64 0, .string ⟨#[]⟩, .int .i64 0, .int .i64 0, .bool false] :=
  TreeV.mk ⟨rfl, ⟨Nat.le_refl _, by omega⟩, .inl rfl⟩ ⟨rfl, ⟨Nat.le_refl _, by omega⟩, .inl rfl⟩
theorem treeStar_at (w : World) : TreeV (w.alloc (.cells cellsA.toArray 27)) (w.heap.size + 1) treeStar [.int .i64 7, .slice (some ⟨w.heap.size, 0, none⟩) 1 1, .int .i32 0, .slice none 0 0, .int .i64 0, .int .i64 0, .string ⟨#[]⟩, .int .i64 0, .int .i64 0, .bool false] := by
  refine TreeV.mk ⟨rfl, ⟨Nat.le_refl _, by omega⟩, .inr ⟨w.heap.size, 0, rfl, Nat.lt_succ_self _, KidsAt.cons.2 ⟨⟨cellsA, (treeA_at _).mono (Nat.zero_le _), ?_⟩, KidsAt.nil⟩⟩⟩ ⟨rfl, ⟨Nat.le_refl _, by omega⟩, .inl rfl⟩
  intro j hj
  rw [Nat.zero_add]
  rw [List.getElem?_eq_getElem hj]
  exact (Blk.new w cellsA 27).cell (List.getElem?_eq_getElem hj)

set_option maxHeartbeats 1000000 in
theorem head09 (w : World) (hT : Tb w) : Calls Tryd.prog 4 #[] w fun e w' => e = .returned (.bool true) ∧ Below w.heap.size w w' := by
  have HT := Lib.hid (fun W (hW : Below w.heap.size w W) => hT.below hW)
  have HB0 := Lib.hid (fun o => (Below.refl _ w).alloc (Nat.le_refl _) o)
  have H1 := Lib.hid (printer_Print treeStar _ (w.heap.size + 1) (w.alloc (.cells cellsA.toArray 27)) (treeStar_at w) (by simp) (by decide) (HT.out _ (HB0.out _)))
  have e1 : printTx treeStar = [97, 42] := by unfold printTx; rw [if_pos star_right, star_text]
  have e2 : printE treeStar = 0 := by unfold printE; rw [if_pos star_right]
  have e3 : printTx treeNo = [] := by unfold printTx; rw [if_neg (by rw [no_right]; simp)]
  have e4 : printE treeNo = 51 := by unfold printE; rw [if_neg (by rw [no_right]; simp)]
  rw [e1, e2] at H1
  have HE := Lib.hid (And.intro e3 e4)
  clear hT e1 e2 e3 e4
  go_enter Tryd.func4, Tryd.ntmps4
  go_wp2_with fail
  refine (H1.out).mono ?_
  rintro e w1 ⟨rfl, hb1⟩
  have HB1 := Lib.hid ((HB0.out _).trans (hb1.mono (by simp)))
  clear hb1
  go_wp2_with fail
  refine (printer_Print treeNo _ 0 w1 (treeNo_at w1 0) (Nat.zero_le _) (by decide) (HT.out _ HB1.out)).mono ?_
  rintro e w2 ⟨rfl, hb2⟩
  rw [HE.out.1, HE.out.2]
  have HB2 := Lib.hid (HB1.out.trans (hb2.mono HB1.out.size))
  clear hb2
  go_wp2_with fail
  go_ret
  exact ⟨rfl, HB2.out⟩
end Go.Proofs.YtihbmgpjihgodaaDoor
