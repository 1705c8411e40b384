/- The document's Norm: martelloref02.Norm's contract, for every list. -/
import Derived.Test.YtnafemcholkmlaaGreatDoorQNormPure
import Derived.Test.YtnafemcholkmlaaGreatDoorQSetsNot
import Derived.Test.YtnafemcholkmlaaGreatDoorQNext
import Derived.Laws.AppendOwnNone
import Derived.Maps.AppendAt
namespace Go.Proofs.YtnafemcholkmlaaGreatDoor
open Go Go.RowKit Go.Proofs Go.Shelf

theorem own_congr {W : World} {base n n' k : Nat} {e : TypeId} {v : Value} {xs xs' : List Value} (h : W.ownsRow base e k v n xs) (hn : n = n') (hx : xs = xs') : W.ownsRow base e k v n' xs' := by subst hn hx; exact h
theorem flatR_one (L : List (Int × Int)) : ∀ u ∈ flatR L, u.oneCell' = true := by
  induction L with
  | nil => intro u hu; simp [flatR] at hu
  | cons x L ih =>
    intro u hu
    rw [show flatR (x :: L) = .int .i32 x.1 :: .int .i32 x.2 :: flatR L by simp [flatR]] at hu
    simp only [List.mem_cons] at hu
    rcases hu with rfl | rfl | hu
    · rfl
    · rfl
    · exact ih u hu
theorem add_at (g o j : Nat) : (⟨g, o, none⟩ : Addr).add j = ⟨g, o + j, none⟩ := by
  unfold Addr.add; split <;> simp_all
theorem ownsRow_drewR {w : World} {base n k : Nat} {e : TypeId} {v : Value} {xs : List Value} (h : w.ownsRow base e k v n xs) : w.drew.ownsRow base e k v n xs := h
theorem lies_take {W : World} {base : Nat} {e : TypeId} {g n cap : Nat} {L : List (Int × Int)} (h : W.ownsRow base e 2 (.slice (some ⟨g, 0, none⟩) n cap) n (flatR L)) (hn : n = L.length) (a : Nat) :
    ∀ j u, (flatR (L.take a))[j]? = some u → W.cell? ((⟨g, 0, none⟩ : Addr).add j) = some u := by
  intro j u hu
  rw [add_at]
  have hj : j < (flatR (L.take a)).length := (List.getElem?_eq_some_iff.1 hu).1
  rw [flatR_length] at hj
  have hl : (L.take a).length ≤ L.length := by simp; omega
  have e1 : flatR L = flatR (L.take a) ++ flatR (L.drop a) := by rw [← flatR_append, List.take_append_drop]
  rw [Nat.zero_add, h.cellAt j (by omega), e1, List.getElem?_append_left (by rw [flatR_length]; exact hj)]
  exact hu
theorem lies_drop {W : World} {base : Nat} {e : TypeId} {g n cap : Nat} {L : List (Int × Int)} (h : W.ownsRow base e 2 (.slice (some ⟨g, 0, none⟩) n cap) n (flatR L)) (hn : n = L.length) (a : Nat) (ha : a ≤ L.length) :
    ∀ j u, (flatR (L.drop a))[j]? = some u → W.cell? ((⟨g, a * 2, none⟩ : Addr).add j) = some u := by
  intro j u hu
  rw [add_at]
  have hj : j < (flatR (L.drop a)).length := (List.getElem?_eq_some_iff.1 hu).1
  rw [flatR_length, List.length_drop] at hj
  have e1 : flatR L = flatR (L.take a) ++ flatR (L.drop a) := by rw [← flatR_append, List.take_append_drop]
  have e2 : (flatR (L.take a)).length = a * 2 := by rw [flatR_length, List.length_take]; omega
  rw [h.cellAt (a * 2 + j) (by omega), e1, List.getElem?_append_right (by omega), e2, show a * 2 + j - a * 2 = j by omega]
  exact hu
set_option maxHeartbeats 4000000 in
set_option maxRecDepth 100000 in
theorem ref02_Norm (rs : List (Int × Int)) (sa : Option Addr) (sn sc B : Nat) (w : World) (h : RangesV w B rs sa sn sc) (hB : B ≤ w.heap.size) (hN : rs.length ≤ 1000000000000) :
    Calls Tryz.prog 15 #[.slice sa sn sc] w (SetOf w (fun c => memR rs c) rs.length) := by
  obtain ⟨i0, hi, hz0, hz1, hz2⟩ := info_parts infoRange
  have H := Lib.hid h
  have hsn := h.1
  subst hsn
  clear h
  go_enter Tryz.func15, Tryz.ntmps15
  go_wp2_with fail
  go_loopw [3, 4] (fun v i wr => ∃ (k : Nat) (L : List (Int × Int)), k ≤ rs.length ∧ i = .int .i64 k ∧ NormInv (rs.take k) L ∧ wr.ownsRow w.heap.size 43 2 v L.length (flatR L) ∧ Below w.heap.size w wr) (fun _ i _ => rs.length - (intOf i).toNat)
  case atStart => exact ⟨0, [], Nat.zero_le _, rfl, NormInv.nil, World.ownsRow_nil _ _ _ _, Below.refl _ _⟩
  case round =>
    obtain ⟨k, L, hk, rfl, hI, ho, hbw⟩ := hrel
    by_cases hlt : k < rs.length
    · obtain ⟨b, o, rfl, hb, hr⟩ : ∃ b o, sa = some ⟨b, o, none⟩ ∧ b < B ∧ RangesAt w rs b o := by
        rcases H.out.2.2 with h0 | h0
        · omega
        · exact h0
      obtain ⟨g1, g2⟩ := (hr.below hbw (by omega)).get k hlt
      obtain ⟨l, hl⟩ : ∃ l, rs[k].1 = l := ⟨_, rfl⟩
      obtain ⟨h, hh⟩ : ∃ h, rs[k].2 = h := ⟨_, rfl⟩
      have HT := Lib.hid (show rs.take (k + 1) = rs.take k ++ [(l, h)] by rw [take_snoc' _ _ hlt, ← hl, ← hh])
      rw [hl] at g1; rw [hh] at g2
      have g1a := cell_lift (Below.alloc (Below.refl wr.heap.size wr) (Nat.le_refl _) (.cells #[.int .i32 0, .int .i32 0] 43)) (cell_lt g1) g1
      have g2a := cell_lift (Below.alloc (Below.refl wr.heap.size wr) (Nat.le_refl _) (.cells #[.int .i32 0, .int .i32 0] 43)) (cell_lt g2) g2
      have HO := Lib.hid ho; have HB := Lib.hid hbw; have HI := Lib.hid hI; have HR := Lib.hid hr
      clear hl hh ho hbw hI hr
      go_wp2_with fail
      go_region
      obtain ⟨W1, hW1⟩ : ∃ W1, W1 = (wr.alloc (Obj.cells #[.int .i32 (max l 0), .int .i32 (min h 1114111)] 43)).drew := ⟨_, rfl⟩
      have HX := Lib.hid (show Blk W1 wr.heap.size [.int .i32 (max l 0), .int .i32 (min h 1114111)] 43 by rw [hW1]; exact (Blk.new wr [.int .i32 (max l 0), .int .i32 (min h 1114111)] 43).drew)
      have HO1 := Lib.hid (show W1.ownsRow w.heap.size 43 2 u3 L.length (flatR L) by rw [hW1]; exact (HO.out.alloc _).kept (grownBy_drew _ none) (by cases u3.ownBlock <;> simp))
      have HB1 := Lib.hid (show Below w.heap.size w W1 by rw [hW1]; exact (HB.out.alloc HB.out.size _).drew)
      have HS1 := Lib.hid (show wr.heap.size < W1.heap.size by rw [hW1]; simp [World.drew])
      rw [← hW1]
      clear hW1 g1 g2 g1a g2a
      obtain ⟨XB, hXB⟩ : ∃ XB, XB = wr.heap.size := ⟨_, rfl⟩
      rw [← hXB] at HX HS1 ⊢
      have HXW := Lib.hid (show w.heap.size ≤ XB by rw [hXB]; exact HB.out.size)
      clear hXB
      have x0 := Blk.cell HX.out (j := 0) rfl; have x1 := Blk.cell HX.out (j := 1) rfl
      obtain ⟨lo, hlo⟩ : ∃ lo, lo = max l 0 := ⟨_, rfl⟩
      obtain ⟨hi', hhi⟩ : ∃ hi', hi' = min h 1114111 := ⟨_, rfl⟩
      rw [← hlo] at x0 HX; rw [← hhi] at x1 HX
      rw [← hlo, ← hhi]
      have HLO := Lib.hid hlo; have HHI := Lib.hid hhi
      clear hlo hhi
      by_cases hsk : hi' < lo
      · have HSK := Lib.hid (norm_skip HI.out (l := l) (r := h) (by rw [← HLO.out, ← HHI.out]; exact hsk))
        go_wp2_with fail
        go_roundw
        case rel => exact ⟨k + 1, L, hlt, by go_num, by rw [HT.out]; exact HSK.out, HO1.out, HB1.out⟩
        case measure => simp [intOf]; omega
      · have hsk' : ¬ lo > hi' := by omega
        obtain ⟨va, vc, rfl⟩ : ∃ va vc, u3 = .slice va L.length vc := by
          rcases HO1.out.2 with ⟨rfl, h0⟩ | ⟨g, cap, cur, rfl, _⟩
          · exact ⟨none, 0, by rw [h0]⟩
          · exact ⟨_, _, rfl⟩
        go_wp2_with fail
        go_loopw [6] (fun av wr => ∃ (a : Nat) , a ≤ L.length ∧ av = .int .i64 a ∧ (∀ j (hj : j < L.length), a ≤ j → lo < L[j].1) ∧ Blk wr XB [.int .i32 lo, .int .i32 hi'] 43 ∧ wr.ownsRow w.heap.size 43 2 (.slice va L.length vc) L.length (flatR L) ∧ Below w.heap.size w wr) (fun av _ => (intOf av).toNat)
        case atStart => exact ⟨L.length, Nat.le_refl _, rfl, fun j hj h => by omega, HX.out, HO1.out, HB1.out⟩
        case round =>
          obtain ⟨a, ha, rfl, hgt, hx2, ho2, hb2⟩ := hrel
          have HGT := Lib.hid hgt; have HX2 := Lib.hid hx2; have HO2 := Lib.hid ho2; have HB2 := Lib.hid hb2
          clear hgt hx2 ho2 hb2 x0 x1
          have x0d := Blk.cell HX2.out (j := 0) rfl; have x1d := Blk.cell HX2.out (j := 1) rfl
          have hL : L.length ≤ 1000000000000 := by have := HI.out.len; simp at this; omega
          rcases HO2.out.2 with ⟨hv0, hL0⟩ | ⟨g, cap, cur, hv0, hg0, hg1, hg2, hg3, hg4, hg5⟩
          · obtain rfl : L = [] := List.eq_nil_of_length_eq_zero hL0
            obtain rfl : a = 0 := by simpa using ha
            cases hv0
            rw [show ((0 : Nat) : Int) = 0 from rfl]
            go_wp2_with fail
            go_quiet (fail)
            obtain ⟨W3, hW3⟩ : ∃ W3, W3 = wr.drewN nq := ⟨_, rfl⟩
            have HX3 := Lib.hid (show Blk W3 XB [.int .i32 lo, .int .i32 hi'] 43 by rw [hW3]; exact HX2.out.drewN nq)
            have HO3 := Lib.hid (show W3.ownsRow w.heap.size 43 2 (.slice none 0 0) 0 (flatR []) by rw [hW3]; exact HO2.out.kept (grownBy_drewN _ nq none) (by simp [Value.ownBlock]))
            have HB3 := Lib.hid (show Below w.heap.size w W3 by rw [hW3]; exact below_drewN HB2.out nq)
            rw [← hW3]
            clear hW3
            have hz3 := HB3.out.size
            have hxl3 := HX3.out.lt
            have xa := HX3.out.alloc (.cells #[] 43)
            have xa0 := Blk.cell xa (j := 0) rfl; have xa1 := Blk.cell xa (j := 1) rfl
            have HE := Lib.hid (World.ownsRow_made (base := w.heap.size) (e := 43) (size := 2) W3 #[] 0 hz3 (Nat.zero_le _) rfl)
            have HOE := Lib.hid (HO3.out.alloc (.cells #[] 43))
            clear xa
            go_upto_region 12 with (at_builtin; (refine wpList_append_own _ rfl _ _ 24 rfl w.heap.size 43 i0 (.agg #[.int .i32 0, .int .i32 0]) 2 8 Tryz.underlying24 hi hz0 hz1 hz2 rfl (by decide) (.slice (some ⟨W3.heap.size, 0, none⟩) 0 0) _ _ rfl ((HE.out).alloc _) ⟨W3.heap.size + 1, 0, none⟩ 1 1 [.int .i32 lo, .int .i32 hi'] rfl rfl (cells_two_at _ _ (by simp) _ _ _) (fun x hx => by simp at hx; rcases hx with rfl | rfl <;> rfl) (by unfold maxLen; omega) (by omega) (by simp; omega) ?_; intro v4 w4 hown4 hgrow4 hnil4))
            go_wp2_with (at_builtin; refine wpList_append_own_none rfl _ _ 24 rfl w.heap.size 43 i0 2 Tryz.underlying24 hi _ _ _ rfl hown4 rfl ?_)
            go_roundw
            case rel =>
              refine ⟨k + 1, ([] : List (Int × Int)).take 0 ++ (lo, hi') :: ([] : List (Int × Int)).drop 0, hlt, by go_num, ?_, own_congr hown4 ?_ ?_, (((HB3.out.alloc hz3 _).alloc (by simp; omega) _).grown hgrow4 (by simp; omega) (fun j hj => ((HE.out.alloc (.cells #[.int .i32 lo, .int .i32 hi'] 43)).lt j hj).1))⟩
              · rw [HT.out, HLO.out, HHI.out]
                exact norm_ins HI.out (by rw [← HLO.out, ← HHI.out]; omega) (Nat.le_refl _) (by rw [← HLO.out]; exact HGT.out) (by rw [← HLO.out]; exact (fun j hj => by simp at hj))
              · simp; try omega
              · simp [flatR]
            case measure => simp [intOf]; omega
          · cases hv0
            have hcap : (L.length : Int) ≤ (vc : Int) := by omega
            have hale : (a : Int) ≤ (L.length : Int) := by omega
            have halv : (a : Int) ≤ (vc : Int) := by omega
            rcases Nat.eq_zero_or_pos a with ha0 | hpos
            · have hap : decide ((a : Int) > 0) = false := by simp; omega
              have hapn : ¬ 0 < (a : Int) := by omega
              go_wp2_with fail
              go_quiet (fail)
              obtain ⟨W3, hW3⟩ : ∃ W3, W3 = wr.drewN nq := ⟨_, rfl⟩
              have HX3 := Lib.hid (show Blk W3 XB [.int .i32 lo, .int .i32 hi'] 43 by rw [hW3]; exact HX2.out.drewN nq)
              have HO3 := Lib.hid (show W3.ownsRow w.heap.size 43 2 (.slice (some ⟨g, 0, none⟩) L.length vc) L.length (flatR L) by rw [hW3]; exact HO2.out.kept (grownBy_drewN _ nq none) (by simp [Value.ownBlock]))
              have HB3 := Lib.hid (show Below w.heap.size w W3 by rw [hW3]; exact below_drewN HB2.out nq)
              rw [← hW3]
              clear hW3
              have hz3 := HB3.out.size
              have hxl3 := HX3.out.lt
              have xa := HX3.out.alloc (.cells #[] 43)
              have xa0 := Blk.cell xa (j := 0) rfl; have xa1 := Blk.cell xa (j := 1) rfl
              have HE := Lib.hid (World.ownsRow_made (base := w.heap.size) (e := 43) (size := 2) W3 #[] 0 hz3 (Nat.zero_le _) rfl)
              have HOE := Lib.hid (HO3.out.alloc (.cells #[] 43))
              clear xa
              have hg3 : g < W3.heap.size := (HO3.out.lt g rfl).2
              go_upto_region 12 with (at_builtin; (refine wpList_append_own_at _ rfl _ _ 24 rfl w.heap.size 43 i0 (.agg #[.int .i32 0, .int .i32 0]) 2 8 Tryz.underlying24 hi hz0 hz1 hz2 rfl (by decide) (.slice (some ⟨W3.heap.size, 0, none⟩) 0 0) _ _ rfl ((HE.out).alloc _) ⟨W3.heap.size + 1, 0, none⟩ 1 1 [.int .i32 lo, .int .i32 hi'] rfl rfl (cells_two_at _ _ (by simp) _ _ _) (fun x hx => by simp at hx; rcases hx with rfl | rfl <;> rfl) (by unfold maxLen; omega) (by omega) (by simp; omega) ?_; intro v4 w4 hown4 hgrow4 hnil4 hat4))
              have HC4 := Lib.hid ((HOE.out.alloc (.cells #[.int .i32 lo, .int .i32 hi'] 43)).kept hgrow4 (.inr (by simp [Value.ownBlock]; omega)))
              have hs4 := Lib.hid (show W3.heap.size ≤ w4.heap.size by have := hgrow4.size; simp at this; omega)
              go_wp2_with (at_builtin; refine wpList_append_own _ rfl _ _ 24 rfl w.heap.size 43 i0 (.agg #[.int .i32 0, .int .i32 0]) 2 8 Tryz.underlying24 hi hz0 hz1 hz2 rfl (by decide) v4 _ _ rfl hown4 ⟨g, 0, none⟩ L.length vc (flatR L) rfl (flatR_length L) (HC4.out.cells (g := g) rfl) (flatR_one L) (by unfold maxLen; omega) (by omega) (by have := hs4.out; omega) ?_; intro v5 w5 hown5 hgrow5 hnil5)
              subst ha0
              go_roundw
              case rel =>
                refine ⟨k + 1, L.take 0 ++ (lo, hi') :: L.drop 0, hlt, by go_num, ?_, own_congr hown5 ?_ ?_, ((((HB3.out.alloc hz3 _).alloc (by simp; omega) _).grown hgrow4 (by simp; omega) (fun j hj => ((HE.out.alloc (.cells #[.int .i32 lo, .int .i32 hi'] 43)).lt j hj).1)).grown hgrow5 (by have := hs4.out; simp; omega) (fun j hj => (hown4.lt j hj).1))⟩
                · rw [HT.out, HLO.out, HHI.out]
                  exact norm_ins HI.out (by rw [← HLO.out, ← HHI.out]; omega) (Nat.zero_le _) (by rw [← HLO.out]; exact HGT.out) (by rw [← HLO.out]; exact (fun j hj h => by omega))
                · simp; try omega
                · simp [flatR]
              case measure => simp [intOf]; omega
            · obtain ⟨c, rfl⟩ : ∃ c, a = c + 1 := ⟨a - 1, by omega⟩
              have hc : c < L.length := by omega
              have cg := (HO2.out.cellAt (c * 2) (by omega)).trans (flatR_get L c hc).1
              obtain ⟨lc, hlc⟩ : ∃ lc, L[c].1 = lc := ⟨_, rfl⟩
              rw [hlc] at cg
              have HLC := Lib.hid hlc; clear hlc
              have hix : (c : Int) < (L.length : Int) := by omega
              have hwr : IntKind.i64.wrap (c : Int) = (c : Int) := by rw [IntKind.wrap_i64]; omega
              have hwr : IntKind.i64.wrap ((c : Int) + 1 - 1) = (c : Int) := by rw [IntKind.wrap_i64]; omega
              by_cases hcl : lc > lo
              · have HGT2 := Lib.hid (show ∀ j (hj : j < L.length), c ≤ j → lo < L[j].1 from fun j hj h => by
                  rcases Nat.lt_or_ge c j with h1 | h1
                  · exact HGT.out j hj h1
                  · obtain rfl : j = c := by omega
                    rw [HLC.out]; exact hcl)
                go_wp2_with fail
                go_quiet (fail)
                go_wp2_with fail
                go_roundw
                case rel => exact ⟨c, by omega, by go_num, HGT2.out, HX2.out.drewN nq, HO2.out.kept (grownBy_drewN _ nq none) (by simp [Value.ownBlock]), below_drewN HB2.out nq⟩
                case measure => simp [intOf]
              · have HLE := Lib.hid (show L[c].1 ≤ lo by rw [HLC.out]; omega)
                have HLEJ := Lib.hid (show ∀ j (hj : j < L.length), j + 1 = c + 1 → L[j].1 ≤ lo from fun j hj h => by
                  obtain rfl : j = c := by omega
                  exact HLE.out)
                go_wp2_with fail
                go_quiet (fail)
                obtain ⟨W3, hW3⟩ : ∃ W3, W3 = wr.drewN nq := ⟨_, rfl⟩
                have HX3 := Lib.hid (show Blk W3 XB [.int .i32 lo, .int .i32 hi'] 43 by rw [hW3]; exact HX2.out.drewN nq)
                have HO3 := Lib.hid (show W3.ownsRow w.heap.size 43 2 (.slice (some ⟨g, 0, none⟩) L.length vc) L.length (flatR L) by rw [hW3]; exact HO2.out.kept (grownBy_drewN _ nq none) (by simp [Value.ownBlock]))
                have HB3 := Lib.hid (show Below w.heap.size w W3 by rw [hW3]; exact below_drewN HB2.out nq)
                rw [← hW3]
                clear hW3
                have hz3 := HB3.out.size
                have hxl3 := HX3.out.lt
                have xa := HX3.out.alloc (.cells #[] 43)
                have xa0 := Blk.cell xa (j := 0) rfl; have xa1 := Blk.cell xa (j := 1) rfl
                have HE := Lib.hid (World.ownsRow_made (base := w.heap.size) (e := 43) (size := 2) W3 #[] 0 hz3 (Nat.zero_le _) rfl)
                have HOE := Lib.hid (HO3.out.alloc (.cells #[] 43))
                clear xa
                have hg3 : g < W3.heap.size := (HO3.out.lt g rfl).2
                have hlc1 : c + 1 ≤ L.length := hc
                go_upto_region 11 with (at_builtin; refine wpList_append_own_at _ rfl _ _ 24 rfl w.heap.size 43 i0 (.agg #[.int .i32 0, .int .i32 0]) 2 8 Tryz.underlying24 hi hz0 hz1 hz2 rfl (by decide) (.slice (some ⟨W3.heap.size, 0, none⟩) 0 0) _ _ rfl HE.out ⟨g, 0, none⟩ (c + 1) vc (flatR (L.take (c + 1))) rfl (by rw [flatR_length, List.length_take]; omega) (lies_take HOE.out rfl (c + 1)) (flatR_one _) (by unfold maxLen; omega) (by omega) (by simp; omega) ?_; intro v4 w4 hown4 hgrow4 hnil4 hat4)
                have hs4 := Lib.hid (show W3.heap.size < w4.heap.size by have := hgrow4.size; simp at this; omega)
                have hq4 := Lib.hid (show v4.ownBlock ≠ some g ∧ v4.ownBlock ≠ some XB by rcases hat4 with h | h <;> rw [h] <;> simp [Value.ownBlock] <;> omega)
                have xb := (HX3.out.alloc (.cells #[] 43)).grown hgrow4 (by simp [Value.ownBlock]; omega)
                have xb0 := Blk.cell xb (j := 0) rfl; have xb1 := Blk.cell xb (j := 1) rfl
                have HC4 := Lib.hid ((HOE.out).kept hgrow4 (.inr (by simp [Value.ownBlock]; omega)))
                have HB4 := Lib.hid ((HB3.out.alloc hz3 _).grown hgrow4 (by simp; omega) (fun j hj => (HE.out.lt j hj).1))
                clear xb hat4
                go_upto_region 12 with (at_builtin; (refine wpList_append_own _ rfl _ _ 24 rfl w.heap.size 43 i0 (.agg #[.int .i32 0, .int .i32 0]) 2 8 Tryz.underlying24 hi hz0 hz1 hz2 rfl (by decide) v4 _ _ rfl (hown4.alloc _) ⟨w4.heap.size, 0, none⟩ 1 1 [.int .i32 lo, .int .i32 hi'] rfl rfl (cells_two_at _ _ (by simp) _ _ _) (fun x hx => by simp at hx; rcases hx with rfl | rfl <;> rfl) (by unfold maxLen; omega) (by omega) (by have := hs4.out; simp; omega) ?_; intro v5 w5 hown5 hgrow5 hnil5))
                have HC5 := Lib.hid ((HC4.out.alloc (.cells #[.int .i32 lo, .int .i32 hi'] 43)).kept hgrow5 (.inr (fun e => hq4.out.1 (by rw [← e]; simp [Value.ownBlock]))))
                have hs5 := Lib.hid (show w4.heap.size < w5.heap.size by have := hgrow5.size; simp at this; omega)
                have HB5 := Lib.hid ((HB4.out.alloc (by have := hs4.out; omega) _).grown hgrow5 (by have := hs4.out; simp; omega) (fun j hj => (hown4.lt j hj).1))
                rcases Nat.lt_or_ge (c + 1) vc with hvc | hvc
                · have hvn1 : ¬ vc = c + 1 := by omega
                  have hvn2 : ¬ c + 1 = vc := by omega
                  go_wp2_with (at_builtin; refine wpList_append_own _ rfl _ _ 24 rfl w.heap.size 43 i0 (.agg #[.int .i32 0, .int .i32 0]) 2 8 Tryz.underlying24 hi hz0 hz1 hz2 rfl (by decide) v5 _ _ rfl hown5 ⟨g, (c + 1) * 2, none⟩ (L.length - (c + 1)) (vc - (c + 1)) (flatR (L.drop (c + 1))) rfl (by rw [flatR_length, List.length_drop]) (lies_drop HC5.out rfl (c + 1) hlc1) (flatR_one _) (by unfold maxLen; omega) (by omega) (by have := hs5.out; have := hs4.out; omega) ?_; intro v6 w6 hown6 hgrow6 hnil6)
                  go_roundw
                  case rel =>
                    refine ⟨k + 1, L.take (c + 1) ++ (lo, hi') :: L.drop (c + 1), hlt, by go_num, ?_, own_congr hown6 ?_ ?_, (HB5.out.grown hgrow6 (by have := hs5.out; have := hs4.out; omega) (fun j hj => (hown5.lt j hj).1))⟩
                    · rw [HT.out, HLO.out, HHI.out]
                      exact norm_ins HI.out (by rw [← HLO.out, ← HHI.out]; omega) hlc1 (by rw [← HLO.out]; exact HGT.out) (by rw [← HLO.out]; exact HLEJ.out)
                    · simp; try omega
                    · simp [flatR]
                  case measure => simp [intOf]; omega
                · have hvc' : vc = c + 1 := by omega
                  have HLc := Lib.hid (show L.length = c + 1 by omega)
                  have HSM := Lib.hid (show 0 + (c + 1) + 1 + 0 ≤ maxLen ∧ (0 + (c + 1) + 1 + 0) * 8 ≤ 140737488355328 by unfold maxLen; omega)
                  have HSZ := Lib.hid (show w.heap.size ≤ w5.heap.size by have := hs5.out; have := hs4.out; omega)
                  subst hvc'
                  go_wp2_with (at_builtin; refine wpList_append_own _ rfl _ _ 24 rfl w.heap.size 43 i0 (.agg #[.int .i32 0, .int .i32 0]) 2 8 Tryz.underlying24 hi hz0 hz1 hz2 rfl (by decide) v5 _ _ rfl hown5 ⟨g, 0, none⟩ 0 0 [] rfl rfl (fun j u h => by simp at h) (fun u h => by simp at h) HSM.out.1 HSM.out.2 HSZ.out ?_; intro v6 w6 hown6 hgrow6 hnil6)
                  go_roundw
                  case rel =>
                    refine ⟨k + 1, L.take (c + 1) ++ (lo, hi') :: L.drop (c + 1), hlt, by go_num, ?_, own_congr hown6 ?_ ?_, (HB5.out.grown hgrow6 (by have := hs5.out; have := hs4.out; omega) (fun j hj => (hown5.lt j hj).1))⟩
                    · rw [HT.out, HLO.out, HHI.out]
                      exact norm_ins HI.out (by rw [← HLO.out, ← HHI.out]; omega) hlc1 (by rw [← HLO.out]; exact HGT.out) (by rw [← HLO.out]; exact HLEJ.out)
                    · have h9 := HLc.out; simp; omega
                    · rw [List.drop_of_length_le (by have := HLc.out; omega)]; simp [flatR]
                  case measure => simp [intOf]; omega
    · obtain rfl : k = rs.length := by omega
      rw [List.take_length] at hI
      have HO := Lib.hid ho; have HB := Lib.hid hbw; have HI := Lib.hid hI; clear ho hbw hI
      have HLN := Lib.hid (show L.length ≤ 1000000000000 by have := HI.out.len; omega)
      go_wp2_with fail
      go_loopw [8, 9] (fun v iv wz => ∃ (i : Nat) (O : List (Int × Int)), i ≤ L.length ∧ iv = .int .i64 i ∧ MergeInv L i O ∧ wz.ownsRow w.heap.size 43 2 v O.length (flatR O) ∧ wz.ownsRow w.heap.size 43 2 u3 L.length (flatR L) ∧ (v.ownBlock = none ∨ v.ownBlock ≠ u3.ownBlock) ∧ Below w.heap.size w wz) (fun _ iv _ => L.length - (intOf iv).toNat)
      case atStart => exact ⟨0, [], Nat.zero_le _, rfl, MergeInv.nil L, World.ownsRow_nil _ _ _ _, HO.out, .inl rfl, HB.out⟩
      case round =>
        obtain ⟨i, O, hi', rfl, hM, ho8, ho3, hap, hbz⟩ := hrel
        have hln := HLN.out
        obtain ⟨va, vc, rfl⟩ : ∃ va vc, u3 = .slice va L.length vc := by
          rcases ho3.2 with ⟨rfl, h0⟩ | ⟨g, cap, cur, rfl, _⟩
          · exact ⟨none, 0, by rw [h0]⟩
          · exact ⟨_, _, rfl⟩
        by_cases hlt : i < L.length
        · obtain ⟨g, rfl⟩ : ∃ g, va = some ⟨g, 0, none⟩ := by
            rcases ho3.2 with ⟨_, h0⟩ | ⟨g, cap, cur, h, _⟩
            · omega
            · cases h; exact ⟨g, rfl⟩
          have cl := (ho3.cellAt (i * 2) (by omega)).trans (flatR_get L i hlt).1
          have ch := (ho3.cellAt (i * 2 + 1) (by omega)).trans (flatR_get L i hlt).2
          obtain ⟨lo, hlo⟩ : ∃ lo, L[i].1 = lo := ⟨_, rfl⟩
          obtain ⟨hx, hhx⟩ : ∃ hx, L[i].2 = hx := ⟨_, rfl⟩
          rw [hlo] at cl; rw [hhx] at ch
          have HLI := Lib.hid (show L[i] = (lo, hx) by rw [← hlo, ← hhx])
          clear hlo hhx
          have HM := Lib.hid hM; have H8 := Lib.hid ho8; have H3 := Lib.hid ho3; have HAP := Lib.hid hap; have HBZ := Lib.hid hbz
          have HOL := Lib.hid (show O.length ≤ 1000000000000 by have := hM.len; have := HLN.out; omega)
          have hz := hbz.size
          clear hM ho8 ho3 hap hbz
          rcases snoc_cases O with rfl | ⟨O, ⟨ol, oh⟩, rfl⟩
          · have HNW := Lib.hid (merge_app HI.out HM.out hlt (by rw [HLI.out]; have h9 := (HI.out.ok _ (List.getElem_mem hlt)).1; rw [HLI.out] at h9; simp only [lastH]; omega))
            have HSM := Lib.hid (show 0 + 1 ≤ maxLen ∧ (0 + 1) * 8 ≤ 140737488355328 by unfold maxLen; omega)
            have hnil0 : (([] : List (Int × Int)).length : Int) = 0 := rfl
            rcases H8.out.2 with ⟨rfl, _⟩ | ⟨g8, c8, cur8, rfl, _⟩
            · go_wp2_with fail
              go_quiet (fail)
              obtain ⟨W5, hW5⟩ : ∃ W5, W5 = wr.drewN nq := ⟨_, rfl⟩
              have H85 := Lib.hid (show W5.ownsRow w.heap.size 43 2 (.slice none 0 0) ([] : List (Int × Int)).length (flatR ([] : List (Int × Int))) by rw [hW5]; exact H8.out.kept (grownBy_drewN _ nq none) (by simp [Value.ownBlock]))
              have H35 := Lib.hid (show W5.ownsRow w.heap.size 43 2 (.slice (some ⟨g, 0, none⟩) L.length vc) L.length (flatR L) by rw [hW5]; exact H3.out.kept (grownBy_drewN _ nq none) (by simp [Value.ownBlock]))
              have HB5 := Lib.hid (show Below w.heap.size w W5 by rw [hW5]; exact below_drewN HBZ.out nq)
              have cl5 : W5.cell? ⟨g, i * 2, none⟩ = some (.int .i32 lo) := by rw [hW5]; exact cl
              have ch5 : W5.cell? ⟨g, i * 2 + 1, none⟩ = some (.int .i32 hx) := by rw [hW5]; exact ch
              rw [← hW5]
              clear hW5 cl ch
              have hz5 := Lib.hid HB5.out.size
              have HG5 := Lib.hid (show g < W5.heap.size from (H35.out.lt g rfl).2)
              go_wp2_with (at_builtin; refine wpList_append_own_at _ rfl _ _ 24 rfl w.heap.size 43 i0 (.agg #[.int .i32 0, .int .i32 0]) 2 8 Tryz.underlying24 hi hz0 hz1 hz2 rfl (by decide) (.slice none 0 0) _ _ rfl (H85.out.alloc _) ⟨W5.heap.size, 0, none⟩ 1 1 [.int .i32 lo, .int .i32 hx] rfl rfl (cells_two_at _ _ rfl _ _ _) (fun x hx => by simp at hx; rcases hx with rfl | rfl <;> rfl) HSM.out.1 HSM.out.2 (by have := hz5.out; simp; omega) ?_; intro v6 w6 hown6 hgrow6 hnil6 hat6)
              go_roundw
              case rel =>
                refine ⟨i + 1, ([] : List (Int × Int)) ++ [(lo, hx)], hlt, by go_num, by rw [← HLI.out]; exact HNW.out, own_congr hown6 (by simp) (by simp [flatR]), (H35.out.alloc _).kept hgrow6 (.inr ?_), .inr ?_, (HB5.out.alloc hz5.out _).grown hgrow6 (by have := hz5.out; simp; omega) (fun j hj => (H85.out.lt j hj).1)⟩
                · simp [Value.ownBlock]
                · have h9 := HG5.out; rcases hat6 with h | h <;> rw [h]
                  · simp [Value.ownBlock]
                  · simp [Value.ownBlock]; omega
              case measure => simp [intOf]; omega
            · have HGG := Lib.hid (show g8 ≠ g by rcases HAP.out with h | h <;> simp [Value.ownBlock] at h; exact h)
              go_wp2_with fail
              go_quiet (fail)
              obtain ⟨W5, hW5⟩ : ∃ W5, W5 = wr.drewN nq := ⟨_, rfl⟩
              have H85 := Lib.hid (show W5.ownsRow w.heap.size 43 2 (.slice (some ⟨g8, 0, none⟩) 0 c8) ([] : List (Int × Int)).length (flatR ([] : List (Int × Int))) by rw [hW5]; exact H8.out.kept (grownBy_drewN _ nq none) (by simp [Value.ownBlock]))
              have H35 := Lib.hid (show W5.ownsRow w.heap.size 43 2 (.slice (some ⟨g, 0, none⟩) L.length vc) L.length (flatR L) by rw [hW5]; exact H3.out.kept (grownBy_drewN _ nq none) (by simp [Value.ownBlock]))
              have HB5 := Lib.hid (show Below w.heap.size w W5 by rw [hW5]; exact below_drewN HBZ.out nq)
              have cl5 : W5.cell? ⟨g, i * 2, none⟩ = some (.int .i32 lo) := by rw [hW5]; exact cl
              have ch5 : W5.cell? ⟨g, i * 2 + 1, none⟩ = some (.int .i32 hx) := by rw [hW5]; exact ch
              rw [← hW5]
              clear hW5 cl ch
              have hz5 := Lib.hid HB5.out.size
              have HG5 := Lib.hid (show g < W5.heap.size from (H35.out.lt g rfl).2)
              go_wp2_with (at_builtin; refine wpList_append_own_at _ rfl _ _ 24 rfl w.heap.size 43 i0 (.agg #[.int .i32 0, .int .i32 0]) 2 8 Tryz.underlying24 hi hz0 hz1 hz2 rfl (by decide) (.slice (some ⟨g8, 0, none⟩) 0 c8) _ _ rfl (H85.out.alloc _) ⟨W5.heap.size, 0, none⟩ 1 1 [.int .i32 lo, .int .i32 hx] rfl rfl (cells_two_at _ _ rfl _ _ _) (fun x hx => by simp at hx; rcases hx with rfl | rfl <;> rfl) HSM.out.1 HSM.out.2 (by have := hz5.out; simp; omega) ?_; intro v6 w6 hown6 hgrow6 hnil6 hat6)
              go_roundw
              case rel =>
                refine ⟨i + 1, ([] : List (Int × Int)) ++ [(lo, hx)], hlt, by go_num, by rw [← HLI.out]; exact HNW.out, own_congr hown6 (by simp) (by simp [flatR]), (H35.out.alloc _).kept hgrow6 (.inr ?_), .inr ?_, (HB5.out.alloc hz5.out _).grown hgrow6 (by have := hz5.out; simp; omega) (fun j hj => (H85.out.lt j hj).1)⟩
                · exact fun e => by simp [Value.ownBlock] at e; exact HGG.out e.symm
                · have h9 := HG5.out; rcases hat6 with h | h <;> rw [h]
                  · exact fun e => by simp [Value.ownBlock] at e; exact HGG.out e
                  · simp [Value.ownBlock]; omega
              case measure => simp [intOf]; omega
          · have hlb : (O ++ [(ol, oh)]).length = O.length + 1 := by simp
            obtain ⟨g8, c8, rfl⟩ : ∃ g8 c8, u8 = .slice (some ⟨g8, 0, none⟩) (O.length + 1) c8 := by
              rcases H8.out.2 with ⟨_, h0⟩ | ⟨g8, c8, cur8, h, _⟩
              · rw [hlb] at h0; omega
              · exact ⟨g8, c8, by rw [h, hlb]⟩
            have H8' := Lib.hid (show World.ownsRow wr w.heap.size 43 2 (.slice (some ⟨g8, 0, none⟩) (O.length + 1) c8) (O.length + 1) (flatR (O ++ [(ol, oh)])) by rw [← hlb]; have h9 := H8.out; rw [← hlb] at h9; exact h9)
            have co := (H8'.out.cellAt (O.length * 2 + 1) (by omega)).trans (flatR_snoc1 O (ol, oh))
            have fo := H8'.out.frozenAt (O.length * 2 + 1)
            have HGG := Lib.hid (show g8 ≠ g by rcases HAP.out with h | h <;> simp [Value.ownBlock] at h; exact h)
            have hol : O.length + 1 ≤ 1000000000000 := by have := HOL.out; rw [hlb] at this; exact this
            have hr := HM.out.right
            unfold setRight at hr
            rw [setFrom_snoc] at hr
            simp only [Bool.and_eq_true, decide_eq_true_eq] at hr
            have hoh1 : oh ≤ 1114111 := hr.2.2
            have hoh0 : 0 ≤ oh := by have h1 := hr.2.1.2; have h2 := hr.2.1.1; have h3 := lastH_ge hr.1; omega
            clear hr
            have HOKX := Lib.hid (HI.out.ok _ (List.getElem_mem hlt))
            have hwo : IntKind.i32.wrap (oh + 1) = oh + 1 := IntWalk.i32_in _ (by omega)
            have hwl : IntKind.i64.wrap (O.length : Int) = (O.length : Int) := by rw [IntKind.wrap_i64]; omega
            have hwl2 : IntKind.i64.wrap ((O.length : Int) + 1 - 1) = (O.length : Int) := by rw [IntKind.wrap_i64]; omega
            have c78 : Tryz.prog.cellsOf 43 = 2 := by kernel_rfl
            have hg0 : (O.length : Int) + 1 > 0 := by omega
            have hix1 : (O.length : Int) < (O.length : Int) + 1 := by omega
            have hix2 : (O.length : Int) < ((O.length + 1 : Nat) : Int) := by omega
            have hix3 : O.length < O.length + 1 := by omega
            have hix4 : (i : Int) < (L.length : Int) := by omega
            clear hlb
            by_cases hle : lo ≤ oh + 1
            · have HNW := Lib.hid (merge_join HI.out HM.out hlt (by rw [HLI.out]; exact hle))
              rw [HLI.out] at HNW
              go_wp2_with fail
              go_quiet (fail)
              obtain ⟨W5, hW5⟩ : ∃ W5, W5 = wr.drewN nq := ⟨_, rfl⟩
              have H85 := Lib.hid (show W5.ownsRow w.heap.size 43 2 (.slice (some ⟨g8, 0, none⟩) (O.length + 1) c8) (O.length + 1) (flatR (O ++ [(ol, oh)])) by rw [hW5]; exact H8'.out.kept (grownBy_drewN _ nq none) (by simp [Value.ownBlock]))
              have H35 := Lib.hid (show W5.ownsRow w.heap.size 43 2 (.slice (some ⟨g, 0, none⟩) L.length vc) L.length (flatR L) by rw [hW5]; exact H3.out.kept (grownBy_drewN _ nq none) (by simp [Value.ownBlock]))
              have HB5 := Lib.hid (show Below w.heap.size w W5 by rw [hW5]; exact below_drewN HBZ.out nq)
              have cl5 : W5.cell? ⟨g, i * 2, none⟩ = some (.int .i32 lo) := by rw [hW5]; exact cl
              have ch5 : W5.cell? ⟨g, i * 2 + 1, none⟩ = some (.int .i32 hx) := by rw [hW5]; exact ch
              have co5 : W5.cell? ⟨g8, O.length * 2 + 1, none⟩ = some (.int .i32 oh) := by rw [hW5]; exact co
              have fo5 : W5.frozen? ⟨g8, O.length * 2 + 1, none⟩ = false := by rw [hW5]; exact fo
              rw [← hW5]
              clear hW5 cl ch co fo
              have hz5 := Lib.hid HB5.out.size
              have HG5 := Lib.hid (show g < W5.heap.size from (H35.out.lt g rfl).2)
              go_wp2_with fail
              go_region
              go_wp2_with fail
              go_roundw
              case rel =>
                have h9 := ownsRow_setIn H85.out (O.length * 2 + 1) (.int .i32 (max oh hx))
                rw [flatR_set] at h9
                refine ⟨i + 1, O ++ [(ol, max oh hx)], hlt, by go_num, HNW.out, own_congr h9 (by simp) rfl, ?_, .inr ?_, ?_⟩
                · exact ownsRow_drewR (H35.out.kept (grownBy_setCell W5 g8 _ _) (.inr (fun e => by simp [Value.ownBlock] at e; exact HGG.out e.symm)))
                · exact fun e => by simp [Value.ownBlock] at e; exact HGG.out e
                · exact (HB5.out.setCell (H85.out.lt g8 rfl).1 _).drew
              case measure => simp [intOf]; omega
            · have hle' : ¬ lo ≤ oh + 1 := hle
              have HNW := Lib.hid (merge_app HI.out HM.out hlt (by rw [HLI.out, lastH_one]; omega))
              have HSM := Lib.hid (show O.length + 1 + 1 ≤ maxLen ∧ (O.length + 1 + 1) * 8 ≤ 140737488355328 by unfold maxLen; omega)
              go_wp2_with fail
              go_quiet (fail)
              obtain ⟨W5, hW5⟩ : ∃ W5, W5 = wr.drewN nq := ⟨_, rfl⟩
              have H85 := Lib.hid (show W5.ownsRow w.heap.size 43 2 (.slice (some ⟨g8, 0, none⟩) (O.length + 1) c8) (O.length + 1) (flatR (O ++ [(ol, oh)])) by rw [hW5]; exact H8'.out.kept (grownBy_drewN _ nq none) (by simp [Value.ownBlock]))
              have H35 := Lib.hid (show W5.ownsRow w.heap.size 43 2 (.slice (some ⟨g, 0, none⟩) L.length vc) L.length (flatR L) by rw [hW5]; exact H3.out.kept (grownBy_drewN _ nq none) (by simp [Value.ownBlock]))
              have HB5 := Lib.hid (show Below w.heap.size w W5 by rw [hW5]; exact below_drewN HBZ.out nq)
              have cl5 : W5.cell? ⟨g, i * 2, none⟩ = some (.int .i32 lo) := by rw [hW5]; exact cl
              have ch5 : W5.cell? ⟨g, i * 2 + 1, none⟩ = some (.int .i32 hx) := by rw [hW5]; exact ch
              have co5 : W5.cell? ⟨g8, O.length * 2 + 1, none⟩ = some (.int .i32 oh) := by rw [hW5]; exact co
              have fo5 : W5.frozen? ⟨g8, O.length * 2 + 1, none⟩ = false := by rw [hW5]; exact fo
              rw [← hW5]
              clear hW5 cl ch co fo
              have hz5 := Lib.hid HB5.out.size
              have HG5 := Lib.hid (show g < W5.heap.size from (H35.out.lt g rfl).2)
              go_wp2_with (at_builtin; refine wpList_append_own_at _ rfl _ _ 24 rfl w.heap.size 43 i0 (.agg #[.int .i32 0, .int .i32 0]) 2 8 Tryz.underlying24 hi hz0 hz1 hz2 rfl (by decide) (.slice (some ⟨g8, 0, none⟩) (O.length + 1) c8) _ _ rfl (H85.out.alloc _) ⟨W5.heap.size, 0, none⟩ 1 1 [.int .i32 lo, .int .i32 hx] rfl rfl (cells_two_at _ _ rfl _ _ _) (fun x hx => by simp at hx; rcases hx with rfl | rfl <;> rfl) HSM.out.1 HSM.out.2 (by have := hz5.out; simp; omega) ?_; intro v6 w6 hown6 hgrow6 hnil6 hat6)
              go_roundw
              case rel =>
                refine ⟨i + 1, O ++ [(ol, oh)] ++ [(lo, hx)], hlt, by go_num, by rw [← HLI.out]; exact HNW.out, own_congr hown6 (by simp) (by simp [flatR]), (H35.out.alloc _).kept hgrow6 (.inr ?_), .inr ?_, (HB5.out.alloc hz5.out _).grown hgrow6 (by have := hz5.out; simp; omega) (fun j hj => (H85.out.lt j hj).1)⟩
                · exact fun e => by simp [Value.ownBlock] at e; exact HGG.out e.symm
                · have h9 := HG5.out; rcases hat6 with h | h <;> rw [h]
                  · exact fun e => by simp [Value.ownBlock] at e; exact HGG.out e
                  · simp [Value.ownBlock]; omega
              case measure => simp [intOf]; omega
        · obtain rfl : i = L.length := by omega
          have HM := Lib.hid hM; have H8 := Lib.hid ho8; have HBZ := Lib.hid hbz
          clear hM ho8 ho3 hap hbz
          go_wp2_with fail
          go_ret
          refine ⟨_, O, rfl, H8.out, HM.out.right, fun c => ?_, ?_, HBZ.out⟩
          · rw [HM.out.mem, List.take_length, HI.out.mem]
          · have := HM.out.len; have := HI.out.len; omega
end Go.Proofs.YtnafemcholkmlaaGreatDoor
