/- The document's way to print a tree: martelloref09.Print. How many parts a tree has, up to a bound: martelloref05.Parts. -/
import Derived.Test.YtihbmgpjihgodaaGreatDoorQTextG
import Derived.Test.YtihbmgpjihgodaaGreatDoorTextR
import Derived.Test.YtihbmgpjihgodaaGreatDoorRefRight
import Derived.Test.YtihbmgpjihgodaaGreatDoorPrintPure
namespace Go.Proofs.YtihbmgpjihgodaaGreatDoor
open Go Go.RowKit Go.Proofs Go.Shelf

set_option maxHeartbeats 1000000 in
theorem ref09_Print (t : T) (cs : List Value) (B : Nat) (w : World) (h : TreeV w B t cs) (hB : B ≤ w.heap.size) (hpc : pcT t ≤ 1000000) (hT : Tb w) :
    Calls Tryz.prog 7 #[.agg cs.toArray] w fun e w' => e = .returned (.tuple #[.string ⟨(printTx t).toArray⟩, .int .i64 (printE t)]) ∧ Below w.heap.size w w' := by
  have HB0 := Lib.hid (fun o => (Below.refl _ w).alloc (Nat.le_refl _) o)
  have hpl := parts_le_pc t
  have HR := Lib.hid (fun W (hW : Below w.heap.size w W) => ref05_Right t cs B W (h.below (hW.mono hB)) (Nat.le_trans hB hW.size) (by omega))
  have HTX := Lib.hid (fun (hr : rightB t = true) W (hW : Below w.heap.size w W) => ref09_text _ t (Nat.le_refl _) cs B W (h.below (hW.mono hB)) (Nat.le_trans hB hW.size) (right_plainAll hr) hpc (hT.below hW))
  have hz := Lib.hid (Blk.new w cs 27)
  obtain ⟨op, ka, kn, kc, rune, sa, sn, sc, pl, cap, name, mn, mx, lz, rfl⟩ := h.form
  clear h hpl
  go_enter Tryz.func7, Tryz.ntmps7
  go_wp2_with fail
  refine (HR.out _ (HB0.out _)).mono ?_
  rintro e w1 ⟨rfl, hb1⟩
  have HB1 := Lib.hid ((HB0.out _).trans (hb1.mono (by simp)))
  have hz1 := hz.out.below hb1 (by simp)
  have z0 := hz1.cell (j := 0) rfl; have z1 := hz1.cell (j := 1) rfl; have z2 := hz1.cell (j := 2) rfl; have z3 := hz1.cell (j := 3) rfl; have z4 := hz1.cell (j := 4) rfl
  have z5 := hz1.cell (j := 5) rfl; have z6 := hz1.cell (j := 6) rfl; have z7 := hz1.cell (j := 7) rfl; have z8 := hz1.cell (j := 8) rfl; have z9 := hz1.cell (j := 9) rfl
  clear hb1 hz1
  cases hr : rightB t with
  | true =>
    have HRR := Lib.hid hr
    clear hr
    go_wp2_with fail
    refine (HTX.out HRR.out _ HB1.out).mono ?_
    rintro e w2 ⟨rfl, hb2⟩
    go_wp2_with fail
    refine bodyPost_ret (v := .tuple #[.string ⟨(textT t).toArray⟩, .int .i64 0]) (by simp [results, Tryz.results7, go_sem]) rfl ⟨?_, HB1.out.trans (hb2.mono HB1.out.size)⟩
    unfold printTx printE
    rw [if_pos HRR.out, if_pos HRR.out]
  | false =>
    have HRR := Lib.hid hr
    clear hr
    go_wp2_with fail
    refine bodyPost_ret (v := .tuple #[.string ⟨#[]⟩, .int .i64 51]) (by simp [results, Tryz.results7, go_sem]) rfl ⟨?_, HB1.out⟩
    unfold printTx printE
    rw [if_neg (by rw [HRR.out]; simp), if_neg (by rw [HRR.out]; simp)]
end Go.Proofs.YtihbmgpjihgodaaGreatDoor

namespace Go.Proofs.YtihbmgpjihgodaaGreatDoor
open Go Go.RowKit Go.Proofs Go.Shelf

theorem partsF_append (n most : Int) (a b : List T) : partsF n most (a ++ b) = partsF (partsF n most a) most b := by
  induction a generalizing n with
  | nil => rfl
  | cons k a ih =>
    simp only [List.cons_append, partsF]
    by_cases h : n ≤ most
    · rw [if_pos h, if_pos h, ih]
    · rw [if_neg h, if_neg h, partsF_stop h]
theorem partsF_pos (l : List T) (most : Int) : ∀ n, 1 ≤ n → 1 ≤ partsF n most l := by
  induction l with
  | nil => intro n h; simpa [partsF] using h
  | cons a l ih =>
    intro n hn
    rw [partsF]
    split
    · have := partsN_pos a (most - n)
      exact ih _ (by omega)
    · exact hn
theorem partsF_le {M : Nat} (l : List T) (hM : ∀ p ∈ partsL l, p.set.length ≤ M) (most : Int) : ∀ n, n ≤ most + 1 + M → partsF n most l ≤ most + 1 + M := by
  induction l with
  | nil => intro n h; simpa [partsF] using h
  | cons a l ih =>
    intro n hn
    rw [partsF]
    split
    · have := partsN_le (M := M) a (fun p hp => hM p (by simp [partsL, hp])) (most - n) (by omega)
      exact ih (fun p hp => hM p (by simp [partsL, hp])) _ (by omega)
    · exact hn

set_option maxHeartbeats 1000000 in
theorem ref05_Parts (t : T) : ∀ (cs : List Value) (B : Nat) (w : World) (most : Int), TreeV w B t cs → B ≤ w.heap.size → (∀ p ∈ parts t, p.set.length ≤ 17592186044000) → 0 ≤ most → most ≤ 1000000 →
    Calls Tryz.prog 5 #[.agg cs.toArray, .int .i64 most] w fun e w' => e = .returned (.int .i64 (partsN t most)) ∧ Below w.heap.size w w' := by
  induction t using T.ind with
  | h op kids rune set pl cap name mn mx lz ih =>
    intro cs B w most h hB hM hm0 hm1
    obtain ⟨ka, kn, kc, sa, sn, sc, rfl, ⟨rfl, h2, h3⟩, h4⟩ := h.open
    have hsn := h4.1
    have hss : set.length ≤ 17592186044000 := hM _ (mem_parts_self _)
    have IH := Lib.hid ih; clear ih
    have H3 := Lib.hid h3; clear h3
    have HM := Lib.hid (show ∀ p ∈ partsL kids, p.set.length ≤ 17592186044000 from fun p hp => hM p (by simp [parts, hp])); clear hM
    clear h h4
    subst hsn
    have HP := Lib.hid (show partsN (.mk op kids rune set pl cap name mn mx lz) most = partsF (1 + (set.length : Int)) most kids by simp [partsN])
    go_enter Tryz.func5, Tryz.ntmps5
    go_wp2_with fail
    go_loopw [5, 6] (fun n i wr => ∃ k : Nat, k ≤ kids.length ∧ i = .int .i64 k ∧ n = .int .i64 (partsF (1 + (set.length : Int)) most (kids.take k)) ∧ Below w.heap.size w wr ∧
      Blk wr w.heap.size (cellsT op ka kids.length kc rune sa set.length sc pl cap name mn mx lz) 27) (fun _ i _ => kids.length - (intOf i).toNat)
    case atStart => exact ⟨0, Nat.zero_le _, rfl, by simp [partsF], (Below.refl _ _).alloc (Nat.le_refl _) _, Blk.new w (cellsT op ka kids.length kc rune sa set.length sc pl cap name mn mx lz) 27⟩
    case round =>
      obtain ⟨k, hk, rfl, rfl, hb, hbox⟩ := hrel
      have c1 := hbox.cell (j := 1) rfl
      have HBox := Lib.hid hbox
      have HB := Lib.hid hb
      clear hbox hb
      have hN1 := partsF_pos (kids.take k) most (1 + (set.length : Int)) (by omega)
      have hN2 := partsF_le (M := 17592186044000) (kids.take k) (fun p hp => HM.out p ((partsL_take_prefix kids k).subset hp)) most (1 + (set.length : Int)) (by omega)
      have HD := Lib.hid (partsF_append (1 + (set.length : Int)) most (kids.take k) (kids.drop k))
      obtain ⟨N, hN⟩ : ∃ N, N = partsF (1 + (set.length : Int)) most (kids.take k) := ⟨_, rfl⟩
      rw [← hN] at hN1 hN2 ⊢
      have HN := Lib.hid hN; clear hN
      by_cases hlt : k < kids.length
      · by_cases hnm : N ≤ most
        · rcases H3.out with h0 | ⟨b, o, rfl, hbB, hK⟩
          · omega
          obtain ⟨cs, hc, hr⟩ := (hK.get k hlt)
          have hc' := hc.below (HB.out.mono hB)
          have hr' := hr.below (HB.out.mono hB) hbB
          have hMk : ∀ p ∈ parts kids[k], p.set.length ≤ 17592186044000 := fun p hp => HM.out p (mem_partsL hlt hp)
          have IHk := Lib.hid (IH.out _ (List.getElem_mem hlt) cs B)
          obtain ⟨op1, ka1, kn1, kc1, rune1, sa1, sn1, sc1, pl1, cap1, name1, mn1, mx1, lz1, rfl⟩ := hc.form
          obtain ⟨g0, g1, g2, g3, g4, g5, g6, g7, g8, g9⟩ := hr'.ten
          have HC := Lib.hid hc'
          have HS := Lib.hid HB.out.size
          have HMk := Lib.hid hMk
          have hV1 := partsN_pos kids[k] (most - N)
          have hV2 := partsN_le (M := 17592186044000) kids[k] hMk (most - N) (by omega)
          clear hr hr' hc hc' hMk
          obtain ⟨D, hD⟩ : ∃ D, D = most - N := ⟨_, rfl⟩
          rw [← hD] at hV1 hV2
          have HQ := Lib.hid (show partsF (1 + (set.length : Int)) most (kids.take (k + 1)) = N + partsN kids[k] D by
            rw [List.take_succ_eq_append_getElem hlt, partsF_append, ← HN.out]
            simp only [partsF]
            rw [if_pos hnm, hD])
          have hD0 : 0 ≤ D := by omega
          have hD1 : D ≤ 1000000 := by omega
          have HDD := Lib.hid hD
          clear hD
          go_wp2_with fail
          rw [← HDD.out]
          refine (IHk.out _ D HC.out (by have := HS.out; omega) HMk.out hD0 hD1).mono ?_
          rintro e w2 ⟨rfl, hb2⟩
          have HB2 := Lib.hid hb2; clear hb2
          obtain ⟨V, hV⟩ : ∃ V, V = partsN kids[k] D := ⟨_, rfl⟩
          rw [← hV] at hV1 hV2 ⊢
          have HV := Lib.hid hV; clear hV
          go_wp2_with fail
          go_roundw
          case rel =>
            refine ⟨k + 1, hlt, by go_num, ?_, HB.out.trans (HB2.out.mono HS.out), HBox.out.below HB2.out HBox.out.lt⟩
            rw [HQ.out, ← HV.out]
          case measure => simp [intOf]; omega
        · have HQ := Lib.hid (show partsN (.mk op kids rune set pl cap name mn mx lz) most = N by
            rw [HP.out]
            have := HD.out
            rw [List.take_append_drop, ← HN.out, partsF_stop hnm] at this
            exact this)
          have hnm2 : decide (N ≤ most) = false := decide_eq_false hnm
          clear hnm
          go_wp2_with fail
          go_ret
          exact ⟨by rw [HQ.out]; rfl, HB.out⟩
      · have hk' : k = kids.length := by omega
        have HQ := Lib.hid (show partsN (.mk op kids rune set pl cap name mn mx lz) most = N by
          rw [HP.out, HN.out, hk', List.take_length])
        clear hk'
        go_wp2_with fail
        go_ret
        exact ⟨by rw [HQ.out]; rfl, HB.out⟩
end Go.Proofs.YtihbmgpjihgodaaGreatDoor
