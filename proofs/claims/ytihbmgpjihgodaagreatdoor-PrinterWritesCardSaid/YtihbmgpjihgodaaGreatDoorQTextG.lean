/- A right tree's text: the program's: printer.text. (Printed by gen_textg.py.) What is told of a tree: printer.Print. The printer's live question: martellolaw09.head: of any letter behind a star, and of no tree. A repeat's sign: the document's repeat. -/
import Derived.Test.YtihbmgpjihgodaaGreatDoorTextGA
import Derived.Test.YtihbmgpjihgodaaGreatDoorTextG6
import Derived.Test.YtihbmgpjihgodaaGreatDoorTextG7
import Derived.Test.YtihbmgpjihgodaaGreatDoorTextG8
import Derived.Test.YtihbmgpjihgodaaGreatDoorTextG9
import Derived.Test.YtihbmgpjihgodaaGreatDoorTextG10
import Derived.Test.YtihbmgpjihgodaaGreatDoorTextG11
import Derived.Test.YtihbmgpjihgodaaGreatDoorTextG12
import Derived.Test.YtihbmgpjihgodaaGreatDoorRightSame
import Derived.Test.YtihbmgpjihgodaaGreatDoorQSetsOps
import Derived.Test.YtihbmgpjihgodaaGreatDoorOpenTree
import Derived.Test.YtihbmgpjihgodaaGreatDoorPrintPure
import Derived.Test.YtihbmgpjihgodaaGreatDoorQTextAid
import Derived.Test.YtihbmgpjihgodaaGreatDoorQPrintAid
namespace Go.Proofs.YtihbmgpjihgodaaGreatDoor
open Go Go.RowKit Go.Proofs Go.Shelf

theorem printer_text : ∀ (n : Nat), ∀ (t : T), SizeOf.sizeOf t ≤ n → ∀ (cs : List Value) (B : Nat) (w : World), TreeV w B t cs → B ≤ w.heap.size → PlainAll t → pcT t ≤ 1000000 → Tb w →
    Calls Tryz.prog 9 #[.agg cs.toArray] w fun e w' => e = .returned (.string ⟨(textT t).toArray⟩) ∧ Below w.heap.size w w' := by
  intro n
  induction n with
  | zero => intro t ht; cases t; simp at ht
  | succ n ih =>
    intro t hsz cs B w h hB hP hpc hT
    have hp := hP.through.self
    obtain ⟨u, hu⟩ : ∃ u, u = throughT t := ⟨_, rfl⟩
    have hop : 1 ≤ (throughT t).op ∧ (throughT t).op ≤ 12 := by
      rw [← hu] at hp ⊢
      obtain ⟨op, kids, rune, set, pl, cap, name, mn, mx, lz⟩ := u
      exact (plainT_is hp).op1
    have hc : (throughT t).op = 1 ∨ (throughT t).op = 2 ∨ (throughT t).op = 3 ∨ (throughT t).op = 4 ∨ (throughT t).op = 5 ∨ (throughT t).op = 6 ∨ (throughT t).op = 7 ∨ (throughT t).op = 8 ∨ (throughT t).op = 9 ∨ (throughT t).op = 10 ∨ (throughT t).op = 11 ∨ (throughT t).op = 12 := by omega
    rcases hc with e | e | e | e | e | e | e | e | e | e | e | e
    · exact printer_text_1 n ih t hsz e cs B w h hB hP hpc hT
    · exact printer_text_2 n ih t hsz e cs B w h hB hP hpc hT
    · exact printer_text_3 n ih t hsz e cs B w h hB hP hpc hT
    · exact printer_text_4 n ih t hsz e cs B w h hB hP hpc hT
    · exact printer_text_5 n ih t hsz e cs B w h hB hP hpc hT
    · exact printer_text_6 n ih t hsz e cs B w h hB hP hpc hT
    · exact printer_text_7 n ih t hsz e cs B w h hB hP hpc hT
    · exact printer_text_8 n ih t hsz e cs B w h hB hP hpc hT
    · exact printer_text_9 n ih t hsz e cs B w h hB hP hpc hT
    · exact printer_text_10 n ih t hsz e cs B w h hB hP hpc hT
    · exact printer_text_11 n ih t hsz e cs B w h hB hP hpc hT
    · exact printer_text_12 n ih t hsz e cs B w h hB hP hpc hT
end Go.Proofs.YtihbmgpjihgodaaGreatDoor

namespace Go.Proofs.YtihbmgpjihgodaaGreatDoor
open Go Go.RowKit Go.Proofs Go.Shelf

/-- What is told of a tree. -/
def printTx (t : T) : List UInt8 := if rightB t = true then textT t else []
def printE (t : T) : Int := if rightB t = true then 0 else 51
theorem right_plainAll {t : T} (h : rightB t = true) : PlainAll t := by
  have h3 := (shapedT_iff t).1 ((rightB_iff t).1 h).2.2.1
  intro p hp
  have := h3 p hp
  unfold shapedP at this
  simp only [Bool.and_eq_true] at this
  exact this.1

set_option maxHeartbeats 1000000 in
theorem printer_Print (t : T) (cs : List Value) (B : Nat) (w : World) (h : TreeV w B t cs) (hB : B ≤ w.heap.size) (hpc : pcT t ≤ 1000000) (hT : Tb w) :
    Calls Tryz.prog 6 #[.agg cs.toArray] w fun e w' => e = .returned (.tuple #[.string ⟨(printTx t).toArray⟩, .int .i64 (printE t)]) ∧ Below w.heap.size w w' := by
  have HB0 := Lib.hid (fun o => (Below.refl _ w).alloc (Nat.le_refl _) o)
  have hpl := parts_le_pc t
  have HR := Lib.hid (fun W (hW : Below w.heap.size w W) => right_any sets_Right t cs B W (h.below (hW.mono hB)) (Nat.le_trans hB hW.size) (fun p hp _ => by have := set_le_pc t p hp; omega) (by omega))
  have HTX := Lib.hid (fun (hr : rightB t = true) W (hW : Below w.heap.size w W) => printer_text _ t (Nat.le_refl _) cs B W (h.below (hW.mono hB)) (Nat.le_trans hB hW.size) (right_plainAll hr) hpc (hT.below hW))
  have hz := Lib.hid (Blk.new w cs 27)
  obtain ⟨op, ka, kn, kc, rune, sa, sn, sc, pl, cap, name, mn, mx, lz, rfl⟩ := h.form
  clear h hpl
  go_enter Tryz.func6, Tryz.ntmps6
  go_wp2_with fail
  refine (HR.out _ (HB0.out _)).mono ?_
  rintro e w1 ⟨rfl, hb1⟩
  have HB1 := Lib.hid ((HB0.out _).trans (hb1.mono (by simp)))
  have hz1 := hz.out.below hb1 (by simp)
  have z0 := hz1.cell (j := 0) rfl; have z1 := hz1.cell (j := 1) rfl; have z2 := hz1.cell (j := 2) rfl; have z3 := hz1.cell (j := 3) rfl; have z4 := hz1.cell (j := 4) rfl
  have z5 := hz1.cell (j := 5) rfl; have z6 := hz1.cell (j := 6) rfl; have z7 := hz1.cell (j := 7) rfl; have z8 := hz1.cell (j := 8) rfl; have z9 := hz1.cell (j := 9) rfl
  clear hb1 hz1
  cases hr : rightB t with
  | true =>
    have HRR := Lib.hid hr
    clear hr
    go_wp2_with fail
    refine (HTX.out HRR.out _ HB1.out).mono ?_
    rintro e w2 ⟨rfl, hb2⟩
    go_wp2_with fail
    refine bodyPost_ret (v := .tuple #[.string ⟨(textT t).toArray⟩, .int .i64 0]) (by simp [results, Tryz.results6, go_sem]) rfl ⟨?_, HB1.out.trans (hb2.mono HB1.out.size)⟩
    unfold printTx printE
    rw [if_pos HRR.out, if_pos HRR.out]
  | false =>
    have HRR := Lib.hid hr
    clear hr
    go_wp2_with fail
    refine bodyPost_ret (v := .tuple #[.string ⟨#[]⟩, .int .i64 51]) (by simp [results, Tryz.results6, go_sem]) rfl ⟨?_, HB1.out⟩
    unfold printTx printE
    rw [if_neg (by rw [HRR.out]; simp), if_neg (by rw [HRR.out]; simp)]
end Go.Proofs.YtihbmgpjihgodaaGreatDoor

namespace Go.Proofs.YtihbmgpjihgodaaGreatDoor
open Go Go.RowKit Go.Proofs Go.Shelf

def treeA : T := .mk 3 [] 97 [] 0 0 ⟨#[]⟩ 0 0 false
def treeStar : T := .mk 7 [treeA] 0 [] 0 0 ⟨#[]⟩ 0 0 false
def treeNo : T := .mk 0 [] 0 [] 0 0 ⟨#[]⟩ 0 0 false
theorem star_right : rightB treeStar = true := by decide +kernel
theorem no_right : rightB treeNo = false := by decide +kernel
theorem star_text : textT treeStar = [97, 42] := by decide +kernel
abbrev cellsA : List Value := [.int .i64 3, .slice none 0 0, .int .i32 97, .slice none 0 0, .int .i64 0, .int .i64 0, .string ⟨#[]⟩, .int .i64 0, .int .i64 0, .bool false]
theorem treeA_at (w : World) : TreeV w 0 treeA cellsA := TreeV.mk ⟨rfl, ⟨Nat.le_refl _, by omega⟩, .inl rfl⟩ ⟨rfl, ⟨Nat.le_refl _, by omega⟩, .inl rfl⟩
theorem treeNo_at (w : World) (B : Nat) : TreeV w B treeNo [.int .i64 0, .slice none 0 0, .int .i32 0, .slice none 0 0, .int .i64 0, .int .i64 0, .string ⟨#[]⟩, .int .i64 0, .int .i64 0, .bool false] :=
  TreeV.mk ⟨rfl, ⟨Nat.le_refl _, by omega⟩, .inl rfl⟩ ⟨rfl, ⟨Nat.le_refl _, by omega⟩, .inl rfl⟩
theorem treeStar_at (w : World) : TreeV (w.alloc (.cells cellsA.toArray 27)) (w.heap.size + 1) treeStar [.int .i64 7, .slice (some ⟨w.heap.size, 0, none⟩) 1 1, .int .i32 0, .slice none 0 0, .int .i64 0, .int .i64 0, .string ⟨#[]⟩, .int .i64 0, .int .i64 0, .bool false] := by
  refine TreeV.mk ⟨rfl, ⟨Nat.le_refl _, by omega⟩, .inr ⟨w.heap.size, 0, rfl, Nat.lt_succ_self _, KidsAt.cons.2 ⟨⟨cellsA, (treeA_at _).mono (Nat.zero_le _), ?_⟩, KidsAt.nil⟩⟩⟩ ⟨rfl, ⟨Nat.le_refl _, by omega⟩, .inl rfl⟩
  intro j hj
  rw [Nat.zero_add]
  rw [List.getElem?_eq_getElem hj]
  exact (Blk.new w cellsA 27).cell (List.getElem?_eq_getElem hj)

set_option maxHeartbeats 1000000 in
theorem head09 (w : World) (hT : Tb w) : Calls Tryz.prog 4 #[] w fun e w' => e = .returned (.bool true) ∧ Below w.heap.size w w' := by
  have HT := Lib.hid (fun W (hW : Below w.heap.size w W) => hT.below hW)
  have HB0 := Lib.hid (fun o => (Below.refl _ w).alloc (Nat.le_refl _) o)
  have H1 := Lib.hid (printer_Print treeStar _ (w.heap.size + 1) (w.alloc (.cells cellsA.toArray 27)) (treeStar_at w) (by simp) (by decide) (HT.out _ (HB0.out _)))
  have e1 : printTx treeStar = [97, 42] := by unfold printTx; rw [if_pos star_right, star_text]
  have e2 : printE treeStar = 0 := by unfold printE; rw [if_pos star_right]
  have e3 : printTx treeNo = [] := by unfold printTx; rw [if_neg (by rw [no_right]; simp)]
  have e4 : printE treeNo = 51 := by unfold printE; rw [if_neg (by rw [no_right]; simp)]
  rw [e1, e2] at H1
  have HE := Lib.hid (And.intro e3 e4)
  clear hT e1 e2 e3 e4
  go_enter Tryz.func4, Tryz.ntmps4
  go_wp2_with fail
  refine (H1.out).mono ?_
  rintro e w1 ⟨rfl, hb1⟩
  have HB1 := Lib.hid ((HB0.out _).trans (hb1.mono (by simp)))
  clear hb1
  go_wp2_with fail
  refine (printer_Print treeNo _ 0 w1 (treeNo_at w1 0) (Nat.zero_le _) (by decide) (HT.out _ HB1.out)).mono ?_
  rintro e w2 ⟨rfl, hb2⟩
  rw [HE.out.1, HE.out.2]
  have HB2 := Lib.hid (HB1.out.trans (hb2.mono HB1.out.size))
  clear hb2
  go_wp2_with fail
  go_ret
  exact ⟨rfl, HB2.out⟩
end Go.Proofs.YtihbmgpjihgodaaGreatDoor

namespace Go.Proofs.YtihbmgpjihgodaaGreatDoor
open Go Go.RowKit Go.Proofs Go.Shelf

set_option maxRecDepth 100000 in
set_option maxHeartbeats 4000000 in
theorem ref09_repeat (op : Int) (ka : Option Addr) (kn kc : Nat) (rune : Int) (sa : Option Addr) (sn sc : Nat) (pl cap : Int) (name : ByteArray) (n : Nat) (mx : Int) (lz : Bool) (w : World)
    (ho : op = 7 ∨ op = 8 ∨ op = 9 ∨ op = 10) (hn : n ≤ 1000) (hx : -1 ≤ mx ∧ mx ≤ 1000) (hP : Pow w) :
    Calls Tryz.prog 32 #[.agg (cellsT op ka kn kc rune sa sn sc pl cap name n mx lz).toArray] w fun e w' => e = .returned (.string ⟨(signTx op n mx lz).toArray⟩) ∧ Below w.heap.size w w' := by
  have hPB := Lib.tabBelow_of_tabIs hP
  have HP := Lib.hid hPB
  clear hP hPB
  have B0 : ∀ o, Below w.heap.size w (w.alloc o) := fun o => (Below.refl _ w).alloc (Nat.le_refl _) o
  have HB0 := Lib.hid B0
  clear B0
  rcases ho with rfl | rfl | rfl | rfl
  · go_enter Tryz.func32, Tryz.ntmps32
    cases lz with
    | true =>
      go_wp2_with fail
      go_ret
      exact ⟨rfl, HB0.out _⟩
    | false =>
      go_wp2_with fail
      go_ret
      exact ⟨rfl, HB0.out _⟩
  · go_enter Tryz.func32, Tryz.ntmps32
    cases lz with
    | true =>
      go_wp2_with fail
      go_ret
      exact ⟨rfl, HB0.out _⟩
    | false =>
      go_wp2_with fail
      go_ret
      exact ⟨rfl, HB0.out _⟩
  · go_enter Tryz.func32, Tryz.ntmps32
    cases lz with
    | true =>
      go_wp2_with fail
      go_ret
      exact ⟨rfl, HB0.out _⟩
    | false =>
      go_wp2_with fail
      go_ret
      exact ⟨rfl, HB0.out _⟩
  · go_enter Tryz.func32, Tryz.ntmps32
    go_wp2_with fail
    refine (itoa_any n _ hn (HP.out _ (HB0.out _))).mono ?_
    rintro e w1 ⟨rfl, hB⟩
    have HB1 := Lib.hid ((HB0.out _).trans (hB.mono (by simp)))
    have hz := (Blk.new w (cellsT 10 ka kn kc rune sa sn sc pl cap name n mx lz) 27).below hB (by simp)
    have HZ := Lib.hid hz
    have z7 := hz.cell (j := 7) rfl
    have z8 := hz.cell (j := 8) rfl
    have z9 := hz.cell (j := 9) rfl
    have hwz : w.heap.size < w1.heap.size := hz.lt
    have hln := decTx_len n hn
    generalize hA : (⟨(decTx n).toArray⟩ : ByteArray) = A
    have hAs : A.size ≤ 20 := by rw [← hA]; exact hln
    have HA := Lib.hid hA
    clear hB hz hA hln
    by_cases h0 : mx = -1
    · subst h0
      have HS := Lib.hid (show signBare 10 n (-1) = [123] ++ decTx n ++ [44, 125] by simp [signBare])
      cases lz with
      | true =>
        go_wp2_with fail
        go_ret
        refine ⟨?_, HB1.out⟩
        rw [signTx_eq, HS.out, ← HA.out]
        show Ending.returned (.string (⟨[123].toArray⟩ ++ ⟨(decTx n).toArray⟩ ++ ⟨[44].toArray⟩ ++ ⟨[125].toArray⟩ ++ ⟨[63].toArray⟩)) = _
        simp only [ba_app]
        simp
      | false =>
        go_wp2_with fail
        go_ret
        refine ⟨?_, HB1.out⟩
        rw [signTx_eq, HS.out, ← HA.out]
        show Ending.returned (.string (⟨[123].toArray⟩ ++ ⟨(decTx n).toArray⟩ ++ ⟨[44].toArray⟩ ++ ⟨[125].toArray⟩)) = _
        simp only [ba_app]
        simp
    · have d0 : (mx == -1) = false := by simpa using h0
      by_cases h1 : mx = n
      · have HS := Lib.hid (show signBare 10 n mx = [123] ++ decTx n ++ [125] by simp [signBare, h1])
        have d1 : (mx == (n : Int)) = true := by simpa using h1
        clear h0
        subst h1
        cases lz with
        | true =>
          go_wp2_with fail
          go_ret
          refine ⟨?_, HB1.out⟩
          rw [signTx_eq, HS.out, ← HA.out]
          show Ending.returned (.string (⟨[123].toArray⟩ ++ ⟨(decTx n).toArray⟩ ++ ⟨[125].toArray⟩ ++ ⟨[63].toArray⟩)) = _
          simp only [ba_app]
          simp
        | false =>
          go_wp2_with fail
          go_ret
          refine ⟨?_, HB1.out⟩
          rw [signTx_eq, HS.out, ← HA.out]
          show Ending.returned (.string (⟨[123].toArray⟩ ++ ⟨(decTx n).toArray⟩ ++ ⟨[125].toArray⟩)) = _
          simp only [ba_app]
          simp
      · have d1 : (mx == (n : Int)) = false := by simpa using h1
        obtain ⟨m, rfl⟩ : ∃ m : Nat, mx = m := ⟨mx.toNat, by omega⟩
        have HS := Lib.hid (show signBare 10 n m = [123] ++ decTx n ++ [44] ++ decTx m ++ [125] by simp [signBare, h1]; intro h; omega)
        clear h1 h0
        go_wp2_with fail
        refine (itoa_any m _ (by omega) (HP.out _ HB1.out)).mono ?_
        rintro e w2 ⟨rfl, hB2⟩
        have HB2 := Lib.hid (HB1.out.trans (hB2.mono HB1.out.size))
        have y9 := (HZ.out.below hB2 hwz).cell (j := 9) rfl
        have hlm := decTx_len m (by omega)
        generalize hD : (⟨(decTx m).toArray⟩ : ByteArray) = D
        have hDs : D.size ≤ 20 := by rw [← hD]; exact hlm
        have HD := Lib.hid hD
        clear hB2 hD hlm
        cases lz with
        | true =>
          go_wp2_with fail
          go_ret
          refine ⟨?_, HB2.out⟩
          rw [signTx_eq, HS.out, ← HA.out, ← HD.out]
          show Ending.returned (.string (⟨[123].toArray⟩ ++ ⟨(decTx n).toArray⟩ ++ ⟨[44].toArray⟩ ++ ⟨(decTx m).toArray⟩ ++ ⟨[125].toArray⟩ ++ ⟨[63].toArray⟩)) = _
          simp only [ba_app]
          simp
        | false =>
          go_wp2_with fail
          go_ret
          refine ⟨?_, HB2.out⟩
          rw [signTx_eq, HS.out, ← HA.out, ← HD.out]
          show Ending.returned (.string (⟨[123].toArray⟩ ++ ⟨(decTx n).toArray⟩ ++ ⟨[44].toArray⟩ ++ ⟨(decTx m).toArray⟩ ++ ⟨[125].toArray⟩)) = _
          simp only [ba_app]
          simp
end Go.Proofs.YtihbmgpjihgodaaGreatDoor
