/- Is it a tree? The document's: martelloref05.Shaped, Groups, Right: what the program's trees.Right says. -/
import Derived.Test.YtihbmgpjihgodaaGreatDoorQRefFieldsC
import Derived.Test.YtihbmgpjihgodaaGreatDoorRightSame
import Derived.Test.YtihbmgpjihgodaaGreatDoorRefGroups
import Derived.Laws.AppendOwnNone
import Derived.Maps.AppendAt
import Derived.Lib.SmallJoins
namespace Go.Proofs.YtihbmgpjihgodaaGreatDoor
open Go Go.RowKit Go.Proofs Go.Shelf

theorem shapedL_take (l : List T) (k : Nat) (h : k < l.length) : shapedL (l.take (k + 1)) = (shapedL (l.take k) && shapedT l[k]) := by
  rw [List.take_succ_eq_append_getElem h, shapedL_all, shapedL_all, List.all_append]; simp
theorem shapedL_no (l : List T) (k : Nat) (h : k < l.length) (hs : shapedT l[k] = false) : shapedL l = false := by
  rw [shapedL_all, List.all_eq_false]
  exact ⟨l[k], List.getElem_mem h, by simp [hs]⟩

set_option maxHeartbeats 2000000 in
theorem ref05_Shaped (t : T) : ∀ (cs : List Value) (B : Nat) (w : World), TreeV w B t cs → B ≤ w.heap.size →
    Calls Tryz.prog 26 #[.agg cs.toArray] w fun e w' => e = .returned (.bool (shapedT t)) ∧ Below w.heap.size w w' := by
  induction t using T.ind with
  | h op kids rune set pl cap name mn mx lz ih =>
    intro cs B w h hB
    obtain ⟨ka, kn, kc, sa, sn, sc, rfl, ⟨rfl, h2, h3⟩, h4⟩ := h.open
    obtain rfl := h4.1
    have IH := Lib.hid ih; clear ih
    have H3 := Lib.hid h3; clear h3
    have HF := Lib.hid (fun W (hW : Below w.heap.size w W) => ref05_fields op ka kids.length kc rune set sa sc pl cap name mn mx lz W B (h4.below (hW.mono hB)) (Nat.le_trans hB hW.size))
    clear h h4
    have HP := Lib.hid (fields_plain op kids rune set pl cap name mn mx lz)
    have HS := Lib.hid (show shapedT (.mk op kids rune set pl cap name mn mx lz) = (plainT (.mk op kids rune set pl cap name mn mx lz) && (decide (op ≠ 6) || decide (1 ≤ cap)) && shapedL kids) by simp only [shapedT]; rfl)
    have HB0 := Lib.hid (fun o => (Below.refl _ w).alloc (Nat.le_refl _) o)
    have hz := Lib.hid (Blk.new w (cellsT op ka kids.length kc rune sa set.length sc pl cap name mn mx lz) 27)
    go_enter Tryz.func26, Tryz.ntmps26
    go_wp2_with fail
    refine (HF.out _ (HB0.out _)).mono ?_
    rintro e w1 ⟨rfl, hb1⟩
    obtain ⟨fb, hfb⟩ : ∃ fb, fb = fieldsB op rune set.length (setRight set) pl cap name mn mx lz := ⟨_, rfl⟩
    rw [← hfb]
    have HFB := Lib.hid hfb; clear hfb
    have hz1 := hz.out.below hb1 (by simp)
    have HB1 := Lib.hid ((HB0.out _).trans (hb1.mono (by simp)))
    have HZ1 := Lib.hid hz1
    have z0 := hz1.cell (j := 0) rfl; have z1 := hz1.cell (j := 1) rfl; have z2 := hz1.cell (j := 2) rfl; have z3 := hz1.cell (j := 3) rfl; have z4 := hz1.cell (j := 4) rfl
    have z5 := hz1.cell (j := 5) rfl; have z6 := hz1.cell (j := 6) rfl; have z7 := hz1.cell (j := 7) rfl; have z8 := hz1.cell (j := 8) rfl; have z9 := hz1.cell (j := 9) rfl
    clear hb1 hz1
    go_wp2_with fail
    refine (ref05_kids op ka kids.length kc rune sa set.length sc pl cap name mn mx lz w1).mono ?_
    rintro e w2 ⟨rfl, hb2⟩
    obtain ⟨kb, hkb⟩ : ∃ kb, kb = kidsB op kids.length := ⟨_, rfl⟩
    rw [← hkb]
    have HKB := Lib.hid hkb; clear hkb
    clear z0 z1 z2 z3 z4 z5 z6 z7 z8 z9
    have hz2 := HZ1.out.below hb2 HZ1.out.lt
    have HB2 := Lib.hid (HB1.out.trans (hb2.mono HB1.out.size))
    have HZ2 := Lib.hid hz2
    have z0 := hz2.cell (j := 0) rfl; have z5 := hz2.cell (j := 5) rfl
    clear hb2 hz2
    have HPL := Lib.hid (show plainT (.mk op kids rune set pl cap name mn mx lz) = (fb && kb) by rw [← HP.out, HFB.out, HKB.out])
    cases fb with
    | false =>
      have HR := Lib.hid (show shapedT (.mk op kids rune set pl cap name mn mx lz) = false by rw [HS.out, HPL.out]; rfl)
      go_wp2_with fail
      go_ret
      exact ⟨by rw [HR.out]; rfl, HB2.out⟩
    | true =>
      cases kb with
      | false =>
        have HR := Lib.hid (show shapedT (.mk op kids rune set pl cap name mn mx lz) = false by rw [HS.out, HPL.out]; rfl)
        go_wp2_with fail
        go_ret
        exact ⟨by rw [HR.out]; rfl, HB2.out⟩
      | true =>
        by_cases hc : op = 6 ∧ cap < 1
        · obtain ⟨rfl, hc⟩ := hc
          have HR := Lib.hid (show shapedT (.mk 6 kids rune set pl cap name mn mx lz) = false by rw [HS.out, HPL.out, decide_eq_false (show ¬ (1 : Int) ≤ cap by omega)]; rfl)
          go_wp2_with fail
          go_ret
          exact ⟨by rw [HR.out]; rfl, HB2.out⟩
        · have HR := Lib.hid (show shapedT (.mk op kids rune set pl cap name mn mx lz) = shapedL kids by
            rw [HS.out, HPL.out]
            by_cases h6 : op = 6
            · rw [decide_eq_true (show (1 : Int) ≤ cap by omega)]; simp
            · rw [decide_eq_true (show op ≠ 6 from h6)]; simp)
          have hcase : (op == 6) = false ∨ ((op == 6) = true ∧ ¬ cap < 1) := by
            by_cases h6 : op = 6
            · exact .inr ⟨by simpa using h6, fun h => hc ⟨h6, h⟩⟩
            · exact .inl (by simpa using h6)
          clear hc
          rcases hcase with h6 | ⟨h6, hc⟩
          all_goals
            go_wp2_with fail
            go_loopw [3, 5] (fun fv iv wr => ∃ k : Nat, k ≤ kids.length ∧ iv = .int .i64 k ∧ fv = .bool true ∧ shapedL (kids.take k) = true ∧ Below w.heap.size w wr ∧
              Blk wr w.heap.size (cellsT op ka kids.length kc rune sa set.length sc pl cap name mn mx lz) 27) (fun _ iv _ => kids.length - (intOf iv).toNat)
            case atStart => exact ⟨0, Nat.zero_le _, rfl, rfl, rfl, HB2.out, HZ2.out⟩
            case round =>
              obtain ⟨k, hk, rfl, rfl, hI, hb, hbox⟩ := hrel
              have c1 := hbox.cell (j := 1) rfl
              have HBox := Lib.hid hbox
              have HB := Lib.hid hb
              have HI := Lib.hid hI
              clear hbox hb hI z0 z5
              by_cases hlt : k < kids.length
              · rcases H3.out with h0 | ⟨b, o, rfl, hbB, hK⟩
                · omega
                obtain ⟨cs, hc, hr⟩ := (hK.get k hlt)
                have hc' := hc.below (HB.out.mono hB)
                have hr' := hr.below (HB.out.mono hB) hbB
                have IHk := Lib.hid (IH.out _ (List.getElem_mem hlt) cs B)
                obtain ⟨op1, ka1, kn1, kc1, rune1, sa1, sn1, sc1, pl1, cap1, name1, mn1, mx1, lz1, rfl⟩ := hc.form
                obtain ⟨g0, g1, g2, g3, g4, g5, g6, g7, g8, g9⟩ := hr'.ten
                have HC := Lib.hid hc'
                have HSZ := Lib.hid HB.out.size
                have HT := Lib.hid (shapedL_take kids k hlt)
                have HNO := Lib.hid (shapedL_no kids k hlt)
                clear hr hr' hc hc'
                go_wp2_with fail
                refine (IHk.out _ HC.out (by have := HSZ.out; omega)).mono ?_
                rintro e w3 ⟨rfl, hb3⟩
                have HB3 := Lib.hid (HB.out.trans (hb3.mono HSZ.out))
                have HBox3 := Lib.hid (HBox.out.below hb3 HBox.out.lt)
                clear hb3
                obtain ⟨V, hV⟩ : ∃ V, V = shapedT kids[k] := ⟨_, rfl⟩
                rw [← hV]
                have HV := Lib.hid hV; clear hV
                cases V with
                | true =>
                  go_wp2_with fail
                  go_roundw
                  case rel => exact ⟨k + 1, hlt, by go_num, rfl, by rw [HT.out, HI.out, ← HV.out]; rfl, HB3.out, HBox3.out⟩
                  case measure => simp [intOf]; omega
                | false =>
                  go_wp2_with fail
                  go_ret
                  exact ⟨by rw [HR.out, HNO.out HV.out.symm]; rfl, HB3.out⟩
              · have HT := Lib.hid (show shapedL kids = true by
                  have hk' : k = kids.length := by omega
                  have := HI.out
                  rwa [hk', List.take_length] at this)
                go_wp2_with fail
                go_ret
                exact ⟨by rw [HR.out, HT.out]; rfl, HB.out⟩

theorem GOk_no_cap {g : List T} {i : Nat} (hi : i < g.length) (h : g[i].cap ≠ (i : Int) + 1) : ¬ GOk g := fun hg => h (hg i hi).1
theorem GOk_no_name {g : List T} {i k : Nat} (hi : i < g.length) (hk : k < i) (h1 : (g[k]'(by omega)).name = g[i].name) (h2 : g[i].name.size ≠ 0) : ¬ GOk g := fun hg => (hg i hi).2 k hk ⟨h1, h2⟩
theorem GOk_take_succ {g : List T} {i : Nat} (hi : i < g.length) (h : GOk (g.take i)) (hc : g[i].cap = (i : Int) + 1) (hn : ∀ (k : Nat) (hk : k < i), ¬ ((g[k]'(by omega)).name = g[i].name ∧ g[i].name.size ≠ 0)) : GOk (g.take (i + 1)) := by
  rw [List.take_succ_eq_append_getElem hi, GOk_snoc]
  refine ⟨h, by rw [List.length_take, Nat.min_eq_left (by omega)]; exact hc, fun q hq => ?_⟩
  obtain ⟨k, hk, rfl⟩ := List.mem_iff_getElem.1 hq
  rw [List.length_take] at hk
  rw [List.getElem_take]
  exact hn k (by omega)

set_option maxRecDepth 100000 in
set_option maxHeartbeats 4000000 in
theorem ref05_Right (t : T) (cs : List Value) (B : Nat) (w : World) (h : TreeV w B t cs) (hB : B ≤ w.heap.size) (hN : (parts t).length ≤ 1000000) :
    Calls Tryz.prog 10 #[.agg cs.toArray] w fun e w' => e = .returned (.bool (rightB t)) ∧ Below w.heap.size w w' := by
  have hdp := depth_le_parts t
  have HD := Lib.hid (fun W (hW : Below w.heap.size w W) => ref05_Depth t cs B W (h.below (hW.mono hB)) (Nat.le_trans hB hW.size) (by omega))
  have HW := Lib.hid (fun W (hW : Below w.heap.size w W) => ref05_Weight t cs B W (h.below (hW.mono hB)) (Nat.le_trans hB hW.size))
  have HS := Lib.hid (fun W (hW : Below w.heap.size w W) => ref05_Shaped t cs B W (h.below (hW.mono hB)) (Nat.le_trans hB hW.size))
  have HG := Lib.hid (fun W (hW : Below w.heap.size w W) => ref05_Groups t cs B W (h.below (hW.mono hB)) (Nat.le_trans hB hW.size) hN)
  have HB0 := Lib.hid (fun o => (Below.refl _ w).alloc (Nat.le_refl _) o)
  have HYES := Lib.hid (rightB_yes (t := t)); have HNO := Lib.hid (rightB_no (t := t))
  have hgl := groupsL_len (parts t)
  have hgN : (groupsL (parts t)).length ≤ 1000000 := by omega
  have hz := Lib.hid (Blk.new w cs 27)
  have hwl := weight_le t
  obtain ⟨op, ka, kn, kc, rune, sa, sn, sc, pl, cap, name, mn, mx, lz, rfl⟩ := h.form
  clear h hgl
  go_enter Tryz.func10, Tryz.ntmps10
  go_wp2_with fail
  refine (HD.out _ (HB0.out _)).mono ?_
  rintro e w1 ⟨rfl, hb1⟩
  have HB1 := Lib.hid ((HB0.out _).trans (hb1.mono (by simp)))
  have HZ1 := Lib.hid (hz.out.below hb1 (by simp))
  obtain ⟨dp, hdp2⟩ : ∃ dp, dp = depth t := ⟨_, rfl⟩
  rw [← hdp2]
  have HDP := Lib.hid hdp2
  have hdn : dp ≤ 1000000 := by omega
  clear hdp hdp2 hb1
  by_cases c1 : dp > 50
  · have HF := Lib.hid (HNO.out fun hh => by have := hh.1; have := HDP.out; omega)
    have c1' : (50 : Int) < (dp : Int) := by omega
    go_wp2_with fail
    go_ret
    exact ⟨by rw [HF.out]; rfl, HB1.out⟩
  have c1' : ¬ (50 : Int) < (dp : Int) := by omega
  have z0 := HZ1.out.cell (j := 0) rfl; have z1 := HZ1.out.cell (j := 1) rfl; have z2 := HZ1.out.cell (j := 2) rfl; have z3 := HZ1.out.cell (j := 3) rfl; have z4 := HZ1.out.cell (j := 4) rfl
  have z5 := HZ1.out.cell (j := 5) rfl; have z6 := HZ1.out.cell (j := 6) rfl; have z7 := HZ1.out.cell (j := 7) rfl; have z8 := HZ1.out.cell (j := 8) rfl; have z9 := HZ1.out.cell (j := 9) rfl
  go_wp2_with fail
  refine (HW.out _ HB1.out).mono ?_
  rintro e w2 ⟨rfl, hb2⟩
  have HB2 := Lib.hid (HB1.out.trans (hb2.mono HB1.out.size))
  have HZ2 := Lib.hid (HZ1.out.below hb2 HZ1.out.lt)
  obtain ⟨wt, hwt⟩ : ∃ wt, wt = weight t := ⟨_, rfl⟩
  rw [← hwt] at hwl ⊢
  have HWT := Lib.hid hwt
  clear hwt hb2 z0 z1 z2 z3 z4 z5 z6 z7 z8 z9
  obtain ⟨hw1, hw2⟩ := hwl
  have z0 := HZ2.out.cell (j := 0) rfl; have z1 := HZ2.out.cell (j := 1) rfl; have z2 := HZ2.out.cell (j := 2) rfl; have z3 := HZ2.out.cell (j := 3) rfl; have z4 := HZ2.out.cell (j := 4) rfl
  have z5 := HZ2.out.cell (j := 5) rfl; have z6 := HZ2.out.cell (j := 6) rfl; have z7 := HZ2.out.cell (j := 7) rfl; have z8 := HZ2.out.cell (j := 8) rfl; have z9 := HZ2.out.cell (j := 9) rfl
  by_cases c2 : wt > 4000
  · have HF := Lib.hid (HNO.out fun hh => by have := hh.2.1; have := HWT.out; omega)
    have c2' : 4000 < wt := c2
    go_wp2_with fail
    go_ret
    exact ⟨by rw [HF.out]; rfl, HB2.out⟩
  have c2' : ¬ 4000 < wt := c2
  go_wp2_with fail
  refine (HS.out _ HB2.out).mono ?_
  rintro e w3 ⟨rfl, hb3⟩
  have HB3 := Lib.hid (HB2.out.trans (hb3.mono HB2.out.size))
  have HZ3 := Lib.hid (HZ2.out.below hb3 HZ2.out.lt)
  obtain ⟨sh, hsh⟩ : ∃ sh, sh = shapedT t := ⟨_, rfl⟩
  rw [← hsh]
  have HSH := Lib.hid hsh
  clear hsh hb3 z0 z1 z2 z3 z4 z5 z6 z7 z8 z9
  have z0 := HZ3.out.cell (j := 0) rfl; have z1 := HZ3.out.cell (j := 1) rfl; have z2 := HZ3.out.cell (j := 2) rfl; have z3 := HZ3.out.cell (j := 3) rfl; have z4 := HZ3.out.cell (j := 4) rfl
  have z5 := HZ3.out.cell (j := 5) rfl; have z6 := HZ3.out.cell (j := 6) rfl; have z7 := HZ3.out.cell (j := 7) rfl; have z8 := HZ3.out.cell (j := 8) rfl; have z9 := HZ3.out.cell (j := 9) rfl
  cases sh with
  | false =>
    have HF := Lib.hid (HNO.out fun hh => by have := hh.2.2.1; rw [← HSH.out] at this; cases this)
    go_wp2_with fail
    go_ret
    exact ⟨by rw [HF.out]; rfl, HB3.out⟩
  | true =>
    have HY := Lib.hid (fun (hg : GOk (groupsL (parts t))) => HYES.out (by have := HDP.out; omega) (by have := HWT.out; omega) HSH.out.symm hg)
    have HN := Lib.hid (fun (hg : ¬ GOk (groupsL (parts t))) => HNO.out fun hh => hg hh.2.2.2)
    go_wp2_with fail
    refine (HG.out _ HB3.out).mono ?_
    rintro e w4 ⟨v, xs, rfl, ho, hf, hb4⟩
    have HB4 := Lib.hid (HB3.out.trans (hb4.mono HB3.out.size))
    obtain ⟨g, hg⟩ : ∃ g, g = groupsL (parts t) := ⟨_, rfl⟩
    rw [← hg] at hgN HY HN hf ho
    obtain ⟨va, vc, rfl⟩ : ∃ va vc, v = .slice va g.length vc := by
      rcases ho.2 with ⟨rfl, h0⟩ | ⟨g', cap', cur, rfl, _⟩
      · exact ⟨none, 0, by rw [h0]⟩
      · exact ⟨_, _, rfl⟩
    have HO := Lib.hid ho; have HFL := Lib.hid hf
    clear hb4 hg ho hf z0 z1 z2 z3 z4 z5 z6 z7 z8 z9
    -- one group's number and name
    have HCELL := Lib.hid (show ∀ i (hi : i < g.length), ∃ b, va = some ⟨b, 0, none⟩ ∧ (i : Int) < (vc : Int) ∧ ∀ n, (w4.drewN n).cell? ⟨b, i * 10 + 5, none⟩ = some (.int .i64 g[i].cap) ∧ (w4.drewN n).cell? ⟨b, i * 10 + 6, none⟩ = some (.string g[i].name) from by
      intro i hi
      rcases HO.out.2 with ⟨_, h0⟩ | ⟨b, cap', cur, hv, _, _, hcap, _⟩
      · omega
      · simp only [Value.slice.injEq, true_and] at hv
        obtain ⟨rfl, rfl⟩ := hv
        obtain ⟨cs', ht, hj⟩ := HFL.out.get i hi
        obtain ⟨op1, ka1, kn1, kc1, rune1, sa1, sn1, sc1, pl1, cap1, name1, mn1, mx1, lz1, rfl⟩ := ht.form
        obtain ⟨e1, e2, e3⟩ := TreeV.fields ht
        refine ⟨b, rfl, by omega, fun n => ⟨?_, ?_⟩⟩
        · have := HO.out.cellAt (i * 10 + 5) (by omega)
          rw [hj 5 (by omega)] at this
          rw [e2]; exact this
        · have := HO.out.cellAt (i * 10 + 6) (by omega)
          rw [hj 6 (by omega)] at this
          rw [e3]; exact this)
    go_wp2_with fail
    go_loopw [5] (fun iv wr => ∃ i : Nat, i ≤ g.length ∧ iv = .int .i64 i ∧ GOk (g.take i) ∧ ∃ n, wr = w4.drewN n) (fun iv _ => g.length - (intOf iv).toNat)
    case atStart => exact ⟨0, Nat.zero_le _, rfl, fun i hi => by simp at hi, 0, rfl⟩
    case round =>
      obtain ⟨i, hi, rfl, hG, nd, rfl⟩ := hrel
      have HGT := Lib.hid hG; clear hG
      by_cases hlt : i < g.length
      · obtain ⟨b, rfl, hvc, hc⟩ := HCELL.out i hlt
        have hci := (hc nd).1
        have HCI := Lib.hid hc
        obtain ⟨ci, hcie⟩ : ∃ ci, ci = g[i].cap := ⟨_, rfl⟩
        obtain ⟨ni, hnie⟩ : ∃ ni, ni = g[i].name := ⟨_, rfl⟩
        rw [← hcie] at hci
        have HCIE := Lib.hid hcie; have HNIE := Lib.hid hnie
        have HLT := Lib.hid hlt
        clear hcie hnie hc
        by_cases k1 : ci = (i : Int) + 1
        rotate_left
        · have HF := Lib.hid (HN.out (GOk_no_cap hlt (by rw [← HCIE.out]; exact k1)))
          have k2 : (ci != (i : Int) + 1) = true := by simpa using k1
          clear k1
          go_wp2_with fail
          go_ret
          exact ⟨by rw [HF.out]; rfl, below_drewN HB4.out _⟩
        have k2 : (ci != (i : Int) + 1) = false := by simpa using k1
        have HK1 := Lib.hid k1
        clear k1
        go_wp2_with fail
        go_loopw [6] (fun kv wr => ∃ k : Nat, k ≤ i ∧ kv = .int .i64 k ∧ (∀ (j : Nat) (hj : j < k) (hj2 : j < g.length), ¬ ((g[j]).name = ni ∧ ni.size ≠ 0)) ∧ ∃ n, wr = w4.drewN n) (fun kv _ => i - (intOf kv).toNat)
        case atStart => exact ⟨0, Nat.zero_le _, rfl, fun j hj => by omega, nd, rfl⟩
        case round =>
          obtain ⟨k, hk, rfl, hA, nd2, rfl⟩ := hrel
          have HA := Lib.hid hA; clear hA hci
          by_cases hlk : k < i
          · obtain ⟨b2, hbe, hvk, hck⟩ := HCELL.out k (by omega)
            obtain rfl : b2 = b := by simpa using hbe.symm
            have hni := (HCI.out nd2).2
            have hnk := (hck nd2).2
            obtain ⟨nk, hnke⟩ : ∃ nk, nk = (g[k]'(by omega)).name := ⟨_, rfl⟩
            rw [← HNIE.out] at hni; rw [← hnke] at hnk
            have HNKE := Lib.hid hnke
            clear hnke hbe hck
            have hkl : k < g.length := by omega
            have hni4 : w4.cell? ⟨b2, i * 10 + 6, none⟩ = some (.string ni) := hni
            have hnk4 : w4.cell? ⟨b2, k * 10 + 6, none⟩ = some (.string nk) := hnk
            have hkl2 : (k : Int) < (g.length : Int) := by omega
            by_cases s1 : nk = ni
            · subst s1
              by_cases s2 : nk.size = 0
              · have HNX := Lib.hid (show ∀ (j : Nat) (hj : j < k + 1) (hj2 : j < g.length), ¬ ((g[j]).name = nk ∧ nk.size ≠ 0) from fun j _ _ hh => hh.2 s2)
                obtain rfl := size_zero s2
                clear s2
                go_wp2_with fail
                go_quiet (fail)
                go_wp2_with fail
                go_roundw
                case rel => exact ⟨k + 1, by omega, by go_num, HNX.out, _, rfl⟩
                case measure => simp [intOf]; omega
              · have HF := Lib.hid (HN.out (GOk_no_name HLT.out hlk (by rw [← HNKE.out, ← HNIE.out]) (by rw [← HNIE.out]; exact s2)))
                have s3 := list_ne s2
                have s4 := list_nil s2
                clear s2
                go_wp2_with fail
                go_quiet (fail)
                go_wp2_with fail
                go_ret
                exact ⟨by rw [HF.out]; rfl, below_drewN (below_drewN HB4.out _) _⟩
            · have HNX := Lib.hid (show ∀ (j : Nat) (hj : j < k + 1) (hj2 : j < g.length), ¬ ((g[j]).name = ni ∧ ni.size ≠ 0) from fun j hj hj2 hh => by
                by_cases e : j = k
                · subst e; exact s1 (by rw [HNKE.out]; exact hh.1)
                · exact HA.out j (by omega) hj2 hh)
              have s2 : ¬ nk.toList = ni.toList := toList_ne s1
              clear s1
              go_wp2_with fail
              go_quiet (fail)
              go_wp2_with fail
              go_roundw
              case rel => exact ⟨k + 1, by omega, by go_num, HNX.out, _, rfl⟩
              case measure => simp [intOf]; omega
          · have hki : k = i := by omega
            have HNX := Lib.hid (GOk_take_succ HLT.out HGT.out (by rw [← HCIE.out]; exact HK1.out) (fun j hj => by rw [← HNIE.out]; exact HA.out j (by omega) (by have := HLT.out; omega)))
            clear hki
            go_wp2_with fail
            go_roundw
            case rel => exact ⟨i + 1, HLT.out, by go_num, HNX.out, _, rfl⟩
            case measure => simp [intOf]; omega
      · have HF := Lib.hid (HY.out (by
          have := HGT.out
          rwa [show i = g.length by omega, List.take_length] at this))
        go_wp2_with fail
        go_ret
        exact ⟨by rw [HF.out]; rfl, below_drewN HB4.out _⟩
end Go.Proofs.YtihbmgpjihgodaaGreatDoor
