/- The document's trees: how deep, how great, how many parts, how many Kids: martelloref05.Depth, clip, Weight, Parts, kids. -/
import Derived.Test.YtihbmgpjihgodaaGreatDoorPrintPure
import Derived.Test.YtihbmgpjihgodaaGreatDoorQDepth
namespace Go.Proofs.YtihbmgpjihgodaaGreatDoor
open Go Go.RowKit Go.Proofs

set_option maxHeartbeats 400000 in
theorem ref05_Depth (t : T) : ∀ (cs : List Value) (B : Nat) (w : World), TreeV w B t cs → B ≤ w.heap.size → depth t ≤ 1000000 →
    Calls Tryz.prog 24 #[.agg cs.toArray] w fun e w' => e = .returned (.int .i64 (depth t)) ∧ Below w.heap.size w w' := by
  induction t using T.ind with
  | h op kids rune set pl cap name mn mx lz ih =>
    intro cs B w h hB hd
    obtain ⟨ka, kn, kc, sa, sn, sc, rfl, ⟨rfl, h2, h3⟩, h4⟩ := h.open
    have IH := Lib.hid ih; clear ih
    have H3 := Lib.hid h3; clear h3
    clear h h4
    have hd0 : depth (.mk op kids rune set pl cap name mn mx lz) = depthL kids + 1 := by simp [depth]
    rw [hd0] at hd ⊢
    clear hd0
    go_enter Tryz.func24, Tryz.ntmps24
    go_wp2_with fail
    go_loopw [3, 4] (fun n i wr => ∃ k : Nat, k ≤ kids.length ∧ i = .int .i64 k ∧ n = .int .i64 (depthL (kids.take k)) ∧ Below w.heap.size w wr ∧
      Blk wr w.heap.size (cellsT op ka kids.length kc rune sa sn sc pl cap name mn mx lz) 27) (fun _ i _ => kids.length - (intOf i).toNat)
    case atStart => exact ⟨0, Nat.zero_le _, rfl, by simp [depthL], (Below.refl _ _).alloc (Nat.le_refl _) _, Blk.new w (cellsT op ka kids.length kc rune sa sn sc pl cap name mn mx lz) 27⟩
    case round =>
      obtain ⟨k, hk, rfl, rfl, hb, hbox⟩ := hrel
      have c1 := hbox.cell (j := 1) rfl
      have HBox := Lib.hid hbox
      clear hbox
      by_cases hlt : k < kids.length
      · rcases H3.out with h0 | ⟨b, o, rfl, hbB, hK⟩
        · omega
        obtain ⟨cs, hc, hr⟩ := (hK.get k hlt)
        have hc' := hc.below (hb.mono hB)
        have hr' := hr.below (hb.mono hB) hbB
        have IHk := Lib.hid (IH.out _ (List.getElem_mem hlt) cs B)
        obtain ⟨op1, ka1, kn1, kc1, rune1, sa1, sn1, sc1, pl1, cap1, name1, mn1, mx1, lz1, rfl⟩ := hc.form
        obtain ⟨g0, g1, g2, g3, g4, g5, g6, g7, g8, g9⟩ := hr'.ten
        have HC := Lib.hid hc'
        have HB := Lib.hid hb
        have HS := Lib.hid hb.size
        clear hr hr' hc hc' hb
        go_wp2_with fail
        refine (IHk.out _ HC.out (by have := HS.out; omega) ?hd).mono ?_
        case hd => have := depth_le_depthL hlt; omega
        rintro e w2 ⟨rfl, hb2⟩
        have HB2 := Lib.hid hb2; clear hb2
        have hq := depthL_take_succ kids k hlt
        have HQ := Lib.hid hq; clear hq
        go_wp2_with fail
        go_roundw
        case rel =>
          refine ⟨k + 1, hlt, by go_num, ?_, HB.out.trans (HB2.out.mono HS.out), HBox.out.below HB2.out HBox.out.lt⟩
          rw [HQ.out]; go_num
        case measure => simp [intOf]; omega
      · have hk' : k = kids.length := by omega
        have ht := depthL_take_le kids k
        have hq : depthL (kids.take k) = depthL kids := by rw [hk', List.take_length]
        have HQ := Lib.hid hq; clear hq
        have HK := Lib.hid hk'; clear hk'
        go_wp2_with fail
        go_ret
        exact ⟨by rw [HQ.out]; go_num, hb⟩

theorem ref05_clip (n : Int) (w : World) : Calls Tryz.prog 46 #[.int .i64 n] w fun e w' => e = .returned (.int .i64 (min n 4001)) ∧ w' = w := by
  go_enter Tryz.func46, Tryz.ntmps46
  go_wp2_with fail
  go_ret
  exact ⟨rfl, rfl⟩

set_option maxHeartbeats 2000000 in
theorem ref05_Weight (t : T) : ∀ (cs : List Value) (B : Nat) (w : World), TreeV w B t cs → B ≤ w.heap.size →
    Calls Tryz.prog 25 #[.agg cs.toArray] w fun e w' => e = .returned (.int .i64 (weight t)) ∧ Below w.heap.size w w' := by
  induction t using T.ind with
  | h op kids rune set pl cap name mn mx lz ih =>
    intro cs B w h hB
    obtain ⟨ka, kn, kc, sa, sn, sc, rfl, ⟨rfl, h2, h3⟩, h4⟩ := h.open
    have IH := Lib.hid ih; clear ih
    have H3 := Lib.hid h3; clear h3
    clear h h4
    have HW := Lib.hid (show weight (.mk op kids rune set pl cap name mn mx lz) = weightK op (weightF 0 kids) kids.length mn mx by simp [weight])
    go_enter Tryz.func25, Tryz.ntmps25
    go_wp2_with fail
    go_loopw [3, 4] (fun n i wr => ∃ k : Nat, k ≤ kids.length ∧ i = .int .i64 k ∧ n = .int .i64 (weightF 0 (kids.take k)) ∧ Below w.heap.size w wr ∧
      Blk wr w.heap.size (cellsT op ka kids.length kc rune sa sn sc pl cap name mn mx lz) 27) (fun _ i _ => kids.length - (intOf i).toNat)
    case atStart => exact ⟨0, Nat.zero_le _, rfl, by simp [weightF], (Below.refl _ _).alloc (Nat.le_refl _) _, Blk.new w (cellsT op ka kids.length kc rune sa sn sc pl cap name mn mx lz) 27⟩
    case round =>
      obtain ⟨k, hk, rfl, rfl, hb, hbox⟩ := hrel
      have HBox := Lib.hid hbox
      have c1 := hbox.cell (j := 1) rfl
      by_cases hlt : k < kids.length
      · rcases H3.out with h0 | ⟨b, o, rfl, hbB, hK⟩
        · omega
        obtain ⟨cs, hc, hr⟩ := (hK.get k hlt)
        have hc' := hc.below (hb.mono hB)
        have hr' := hr.below (hb.mono hB) hbB
        have IHk := Lib.hid (IH.out _ (List.getElem_mem hlt) cs B)
        obtain ⟨op1, ka1, kn1, kc1, rune1, sa1, sn1, sc1, pl1, cap1, name1, mn1, mx1, lz1, rfl⟩ := hc.form
        obtain ⟨g0, g1, g2, g3, g4, g5, g6, g7, g8, g9⟩ := hr'.ten
        have HC := Lib.hid hc'
        have HB := Lib.hid hb
        have HS := Lib.hid hb.size
        have hn := weightF_le (kids.take k)
        have hq := weightF_take kids k hlt
        have hw := weight_le kids[k]
        have HQ := Lib.hid hq; clear hq
        clear hr hr' hc hc' hbox
        obtain ⟨hn1, hn2⟩ := hn
        obtain ⟨hw1, hw2⟩ := hw
        obtain ⟨N, hN⟩ : ∃ N, N = weightF 0 (kids.take k) := ⟨_, rfl⟩
        rw [← hN] at hn1 hn2 ⊢
        have HN := Lib.hid hN; clear hN
        go_wp2_with fail
        refine (IHk.out _ HC.out (by have := HS.out; omega)).mono ?_
        rintro e w2 ⟨rfl, hb2⟩
        have HB2 := Lib.hid hb2; clear hb2
        obtain ⟨V, hV⟩ : ∃ V, V = weight kids[k] := ⟨_, rfl⟩
        rw [← hV] at hw1 hw2 ⊢
        have HV := Lib.hid hV; clear hV
        go_wp2_with fail
        refine (ref05_clip _ _).mono ?_
        rintro e w3 ⟨rfl, rfl⟩
        go_wp2_with fail
        go_roundw
        case rel =>
          refine ⟨k + 1, hlt, by go_num, ?_, HB.out.trans (HB2.out.mono HS.out), HBox.out.below HB2.out HBox.out.lt⟩
          rw [HQ.out, ← HN.out, ← HV.out]
        case measure => simp [intOf]; omega
      · have hk' : k = kids.length := by omega
        have hq : weightF 0 (kids.take k) = weightF 0 kids := by rw [hk', List.take_length]
        rw [hq]
        have hn := weightF_le kids
        obtain ⟨hn1, hn2⟩ := hn
        obtain ⟨N, hN⟩ : ∃ N, N = weightF 0 kids := ⟨_, rfl⟩
        rw [← hN] at hn1 hn2 ⊢
        have HN := Lib.hid hN; clear hN hq
        have HW2 := Lib.hid (show weight (.mk op kids rune set pl cap name mn mx lz) = weightK op N kids.length mn mx by rw [HW.out, HN.out])
        clear hk'
        have t0 := Blk.cell hbox (j := 0) rfl; have t7 := Blk.cell hbox (j := 7) rfl; have t8 := Blk.cell hbox (j := 8) rfl
        have HB := Lib.hid hb
        clear hbox hb
        by_cases o6 : op = 6
        · subst o6
          go_wp2_with fail
          refine (ref05_clip _ _).mono ?_
          rintro e w3 ⟨rfl, rfl⟩
          go_wp2_with fail
          go_ret
          refine ⟨?_, HB.out⟩
          rw [HW2.out]
          refine congrArg (fun z => Ending.returned (Value.int .i64 z)) (?_ : _ = weightK _ _ _ _ _)
          simp [weightK]
          try omega
        · by_cases o12 : op = 12
          · subst o12
            go_wp2_with fail
            refine (ref05_clip _ _).mono ?_
            rintro e w3 ⟨rfl, rfl⟩
            obtain ⟨K, hK⟩ : ∃ K : Int, K = min (kids.length : Int) 4001 := ⟨_, rfl⟩
            have hK0 : 0 ≤ K := by omega
            have hK1 : K ≤ 4001 := by omega
            rw [← hK]
            have HK := Lib.hid hK; clear hK
            go_wp2_with fail
            refine (ref05_clip _ _).mono ?_
            rintro e w3 ⟨rfl, rfl⟩
            go_wp2_with fail
            go_ret
            refine ⟨?_, HB.out⟩
            rw [HW2.out]
            refine congrArg (fun z => Ending.returned (Value.int .i64 z)) (?_ : _ = weightK _ _ _ _ _)
            have := HK.out
            simp [weightK]
            omega
          · by_cases o10 : op = 10
            · subst o10
              have HP := Lib.hid (fun (K : Int) (hK : K = min (max (max mn mx) 1) 4001) => (show weightK 10 N kids.length mn mx = min (K * N + K + 1) 4001 by unfold weightK; rw [if_neg (by decide), if_neg (by decide), if_pos rfl, ← hK, Int.mul_comm]))
              rcases (show mn < mx ∨ mx ≤ mn by omega) with c1 | c1
              · by_cases c2 : mx < 1
                · skip
                  go_wp2_with fail
                  refine (ref05_clip _ _).mono ?_
                  rintro e w3 ⟨rfl, rfl⟩
                  obtain ⟨K, hK⟩ : ∃ K : Int, K = min 1 4001 := ⟨_, rfl⟩
                  rw [← hK]
                  have HK := Lib.hid (HP.out K (by omega))
                  have hK1 : 1 ≤ K := by omega
                  have hK2 : K ≤ 4001 := by omega
                  obtain ⟨P, hP⟩ : ∃ P, K * N = P := ⟨_, rfl⟩
                  have hP1 : 0 ≤ P := by rw [← hP]; exact Int.mul_nonneg (by omega) hn1
                  have hP2 : P ≤ 16008001 := by
                    rw [← hP]
                    have := Int.mul_le_mul hK2 hn2 hn1 (by omega)
                    omega
                  rw [hP] at HK
                  clear hK
                  go_wp2_with fail
                  refine (ref05_clip _ _).mono ?_
                  rintro e w3 ⟨rfl, rfl⟩
                  go_wp2_with fail
                  go_ret
                  exact ⟨by rw [HW2.out, HK.out]; rfl, HB.out⟩
                · skip
                  go_wp2_with fail
                  refine (ref05_clip _ _).mono ?_
                  rintro e w3 ⟨rfl, rfl⟩
                  obtain ⟨K, hK⟩ : ∃ K : Int, K = min mx 4001 := ⟨_, rfl⟩
                  rw [← hK]
                  have HK := Lib.hid (HP.out K (by omega))
                  have hK1 : 1 ≤ K := by omega
                  have hK2 : K ≤ 4001 := by omega
                  obtain ⟨P, hP⟩ : ∃ P, K * N = P := ⟨_, rfl⟩
                  have hP1 : 0 ≤ P := by rw [← hP]; exact Int.mul_nonneg (by omega) hn1
                  have hP2 : P ≤ 16008001 := by
                    rw [← hP]
                    have := Int.mul_le_mul hK2 hn2 hn1 (by omega)
                    omega
                  rw [hP] at HK
                  clear hK
                  go_wp2_with fail
                  refine (ref05_clip _ _).mono ?_
                  rintro e w3 ⟨rfl, rfl⟩
                  go_wp2_with fail
                  go_ret
                  exact ⟨by rw [HW2.out, HK.out]; rfl, HB.out⟩
              · have c1' : ¬ mn < mx := by omega
                by_cases c2 : mn < 1
                · skip
                  go_wp2_with fail
                  refine (ref05_clip _ _).mono ?_
                  rintro e w3 ⟨rfl, rfl⟩
                  obtain ⟨K, hK⟩ : ∃ K : Int, K = min 1 4001 := ⟨_, rfl⟩
                  rw [← hK]
                  have HK := Lib.hid (HP.out K (by omega))
                  have hK1 : 1 ≤ K := by omega
                  have hK2 : K ≤ 4001 := by omega
                  obtain ⟨P, hP⟩ : ∃ P, K * N = P := ⟨_, rfl⟩
                  have hP1 : 0 ≤ P := by rw [← hP]; exact Int.mul_nonneg (by omega) hn1
                  have hP2 : P ≤ 16008001 := by
                    rw [← hP]
                    have := Int.mul_le_mul hK2 hn2 hn1 (by omega)
                    omega
                  rw [hP] at HK
                  clear hK
                  go_wp2_with fail
                  refine (ref05_clip _ _).mono ?_
                  rintro e w3 ⟨rfl, rfl⟩
                  go_wp2_with fail
                  go_ret
                  exact ⟨by rw [HW2.out, HK.out]; rfl, HB.out⟩
                · skip
                  go_wp2_with fail
                  refine (ref05_clip _ _).mono ?_
                  rintro e w3 ⟨rfl, rfl⟩
                  obtain ⟨K, hK⟩ : ∃ K : Int, K = min mn 4001 := ⟨_, rfl⟩
                  rw [← hK]
                  have HK := Lib.hid (HP.out K (by omega))
                  have hK1 : 1 ≤ K := by omega
                  have hK2 : K ≤ 4001 := by omega
                  obtain ⟨P, hP⟩ : ∃ P, K * N = P := ⟨_, rfl⟩
                  have hP1 : 0 ≤ P := by rw [← hP]; exact Int.mul_nonneg (by omega) hn1
                  have hP2 : P ≤ 16008001 := by
                    rw [← hP]
                    have := Int.mul_le_mul hK2 hn2 hn1 (by omega)
                    omega
                  rw [hP] at HK
                  clear hK
                  go_wp2_with fail
                  refine (ref05_clip _ _).mono ?_
                  rintro e w3 ⟨rfl, rfl⟩
                  go_wp2_with fail
                  go_ret
                  exact ⟨by rw [HW2.out, HK.out]; rfl, HB.out⟩
            · by_cases o7 : op = 7 ∨ op = 8 ∨ op = 9 ∨ op = 11
              · have HK := Lib.hid (show weightK op N kids.length mn mx = min (1 + N) 4001 by unfold weightK; rw [if_neg o6, if_neg o12, if_neg o10, if_pos o7, Int.add_comm])
                clear o6 o12 o10
                rcases o7 with rfl | rfl | rfl | rfl
                all_goals
                  go_wp2_with fail
                  refine (ref05_clip _ _).mono ?_
                  rintro e w3 ⟨rfl, rfl⟩
                  go_wp2_with fail
                  go_ret
                  exact ⟨by rw [HW2.out, HK.out]; rfl, HB.out⟩
              · have e6 : (op == 6) = false := by simpa using o6
                have e12 : (op == 12) = false := by simpa using o12
                have e10 : (op == 10) = false := by simpa using o10
                have e7 : (op == 7) = false := by simp; omega
                have e8 : (op == 8) = false := by simp; omega
                have e9 : (op == 9) = false := by simp; omega
                have e11 : (op == 11) = false := by simp; omega
                have HK := Lib.hid (show weightK op N kids.length mn mx = 1 by unfold weightK; rw [if_neg o6, if_neg o12, if_neg o10, if_neg o7]; rfl)
                clear o6 o12 o10 o7
                go_wp2_with fail
                go_ret
                exact ⟨by rw [HW2.out, HK.out]; rfl, HB.out⟩

/-- As many Kids as its Op has. -/
def kidsB (op : Int) (kn : Nat) : Bool := if op = 6 ∨ op = 7 ∨ op = 8 ∨ op = 9 ∨ op = 10 then decide (kn = 1) else if op = 11 then true else if op = 12 then decide (1 ≤ kn) else decide (kn = 0)
set_option maxHeartbeats 1000000 in
theorem ref05_kids (op : Int) (ka : Option Addr) (kn kc : Nat) (rune : Int) (sa : Option Addr) (sn sc : Nat) (pl cap : Int) (name : ByteArray) (mn mx : Int) (lz : Bool) (w : World) :
    Calls Tryz.prog 48 #[.agg (cellsT op ka kn kc rune sa sn sc pl cap name mn mx lz).toArray] w fun e w' => e = .returned (.bool (kidsB op kn)) ∧ Below w.heap.size w w' := by
  have HB := Lib.hid (fun o => (Below.refl _ w).alloc (Nat.le_refl _) o)
  by_cases o6 : op = 6 ∨ op = 7 ∨ op = 8 ∨ op = 9 ∨ op = 10
  · have HK := Lib.hid (show kidsB op kn = decide ((kn : Int) = 1) by unfold kidsB; rw [if_pos o6]; exact decide_eq_decide.2 (by omega))
    rcases o6 with rfl | rfl | rfl | rfl | rfl
    all_goals
      go_enter Tryz.func48, Tryz.ntmps48
      go_wp2_with fail
      go_ret
      exact ⟨by rw [HK.out]; rfl, HB.out _⟩
  · by_cases o11 : op = 11
    · subst o11
      go_enter Tryz.func48, Tryz.ntmps48
      go_wp2_with fail
      go_ret
      exact ⟨rfl, HB.out _⟩
    · by_cases o12 : op = 12
      · subst o12
        have HK := Lib.hid (show kidsB 12 kn = decide ((1 : Int) ≤ (kn : Int)) by unfold kidsB; rw [if_neg (by decide), if_neg (by decide), if_pos rfl]; exact decide_eq_decide.2 (by omega))
        go_enter Tryz.func48, Tryz.ntmps48
        go_wp2_with fail
        go_ret
        exact ⟨by rw [HK.out]; rfl, HB.out _⟩
      · have HK := Lib.hid (show kidsB op kn = decide ((kn : Int) = 0) by unfold kidsB; rw [if_neg o6, if_neg o11, if_neg o12]; exact decide_eq_decide.2 (by omega))
        have e6 : (op == 6) = false := by simp; omega
        have e7 : (op == 7) = false := by simp; omega
        have e8 : (op == 8) = false := by simp; omega
        have e9 : (op == 9) = false := by simp; omega
        have e10 : (op == 10) = false := by simp; omega
        have e11 : (op == 11) = false := by simp; omega
        have e12 : (op == 12) = false := by simp; omega
        clear o6 o11 o12
        go_enter Tryz.func48, Tryz.ntmps48
        go_wp2_with fail
        go_ret
        exact ⟨by rw [HK.out]; rfl, HB.out _⟩
end Go.Proofs.YtihbmgpjihgodaaGreatDoor
