/- The document's Not: martelloref02.Not's contract, for every list. -/
import Derived.Test.YtjmgboegipeijaaGreatDoorNormWalk
import Derived.Test.YtjmgboegipeijaaGreatDoorNotPure
namespace Go.Proofs.YtjmgboegipeijaaGreatDoor
open Go Go.RowKit Go.Proofs Go.Shelf

theorem apart_of {v u : Value} {g : Nat} (hu : u.ownBlock = some g) (h : v.ownBlock = none ∨ v.ownBlock ≠ u.ownBlock) : u.ownBlock = none ∨ u.ownBlock ≠ v.ownBlock := by
  refine .inr fun e => ?_
  rcases h with h | h
  · rw [hu, h] at e; cases e
  · exact h e.symm

set_option maxHeartbeats 4000000 in
set_option maxRecDepth 100000 in
theorem ref02_Not (rs : List (Int × Int)) (sa : Option Addr) (sn sc B : Nat) (w : World) (h : RangesV w B rs sa sn sc) (hB : B ≤ w.heap.size) (hN : rs.length ≤ 1000000000000) :
    Calls Tryz.prog 58 #[.slice sa sn sc] w (SetOf w (fun c => !memR rs c) (rs.length + 1)) := by
  obtain ⟨i0, hi, hz0, hz1, hz2⟩ := info_parts infoRange
  have HNC := Lib.hid (ref02_Norm rs sa sn sc B w h hB hN)
  clear h
  go_enter Tryz.func58, Tryz.ntmps58
  go_wp2_with fail
  refine (HNC.out).mono ?_
  rintro e w1 ⟨v3, N, rfl, hl, hr, hm, hlen, hb⟩
  have HR := Lib.hid hr; have HM := Lib.hid hm; have HLN := Lib.hid (show N.length ≤ 1000000000000 by omega); have HLE := Lib.hid hlen
  have hl3 : w1.ownsRow w.heap.size 78 2 v3 N.length (flatR N) := hl
  obtain ⟨va, vc, rfl⟩ : ∃ va vc, v3 = .slice va N.length vc := by
    rcases hl3.2 with ⟨rfl, h0⟩ | ⟨g, cap, cur, rfl, _⟩
    · exact ⟨none, 0, by rw [h0]⟩
    · exact ⟨_, _, rfl⟩
  have H3 := Lib.hid hl3; have HB1 := Lib.hid hb
  have hz1' := hb.size
  clear hr hm hlen hl hl3 hb
  go_wp2_with fail
  go_loopw [4, 5, 6] (fun v fv iv wz => ∃ (i : Nat) (O : List (Int × Int)) (f : Int), i ≤ N.length ∧ iv = .int .i64 i ∧ fv = .int .i32 f ∧ NotInv N i O f ∧ wz.ownsRow w.heap.size 78 2 v O.length (flatR O) ∧ wz.ownsRow w.heap.size 78 2 (.slice va N.length vc) N.length (flatR N) ∧ (v.ownBlock = none ∨ v.ownBlock ≠ (Value.slice va N.length vc).ownBlock) ∧ Below w.heap.size w wz) (fun _ _ iv _ => N.length - (intOf iv).toNat)
  case atStart => exact ⟨0, [], 0, Nat.zero_le _, rfl, rfl, NotInv.nil N, World.ownsRow_nil _ _ _ _, H3.out, .inl rfl, HB1.out⟩
  case round =>
    obtain ⟨i, O, f, hi', rfl, rfl, hI, ho4, ho3, hap, hbz⟩ := hrel
    have hln := HLN.out
    have HI := Lib.hid hI; have H4 := Lib.hid ho4; have H3' := Lib.hid ho3; have HAP := Lib.hid hap; have HBZ := Lib.hid hbz
    have hz := hbz.size
    clear hI ho4 ho3 hap hbz
    have HOL := Lib.hid (show O.length ≤ 1000000000000 by have := HI.out.len; omega)
    by_cases hlt : i < N.length
    · obtain ⟨g, rfl⟩ : ∃ g, va = some ⟨g, 0, none⟩ := by
        rcases H3'.out.2 with ⟨_, h0⟩ | ⟨g, cap, cur, h, _⟩
        · omega
        · cases h; exact ⟨g, rfl⟩
      have cl := (H3'.out.cellAt (i * 2) (by omega)).trans (flatR_get N i hlt).1
      have ch := (H3'.out.cellAt (i * 2 + 1) (by omega)).trans (flatR_get N i hlt).2
      have hfr := not_from HR.out HI.out hlt
      obtain ⟨lo, hlo⟩ : ∃ lo, N[i].1 = lo := ⟨_, rfl⟩
      obtain ⟨hx, hhx⟩ : ∃ hx, N[i].2 = hx := ⟨_, rfl⟩
      rw [hlo] at cl hfr; rw [hhx] at ch hfr
      have HLO := Lib.hid hlo; have HHX := Lib.hid hhx
      clear hlo hhx
      obtain ⟨hf1, hf2, hf3, hf4⟩ := hfr
      have htop := HI.out.top.1
      have hw1 : IntKind.i32.wrap (lo - 1) = lo - 1 := IntWalk.i32_in _ (by omega)
      have hw2 : IntKind.i32.wrap (hx + 1) = hx + 1 := IntWalk.i32_in _ (by omega)
      have HG := Lib.hid (show g < wr.heap.size from (H3'.out.lt g rfl).2)
      by_cases hfl : f < lo
      · have HNW := Lib.hid (not_step HR.out HI.out hlt (by rw [HLO.out]; exact hfl))
        rw [HLO.out, HHX.out] at HNW
        have HSM := Lib.hid (show O.length + 1 ≤ maxLen ∧ (O.length + 1) * 8 ≤ 140737488355328 by have := HOL.out; unfold maxLen; omega)
        go_upto_region 9 with (at_builtin; refine wpList_append_own_at _ rfl _ _ 24 rfl w.heap.size 78 i0 (.agg #[.int .i32 0, .int .i32 0]) 2 8 Tryz.underlying24 hi hz0 hz1 hz2 rfl (by decide) u4 _ _ rfl (H4.out.alloc _) ⟨wr.heap.size, 0, none⟩ 1 1 [.int .i32 f, .int .i32 (lo - 1)] rfl rfl (cells_two_at _ _ rfl _ _ _) (fun x hx => by simp at hx; rcases hx with rfl | rfl <;> rfl) HSM.out.1 HSM.out.2 (by simp; omega) ?_; intro v6 w6 hown6 hgrow6 hnil6 hat6)
        have H36 := Lib.hid ((H3'.out.alloc (.cells #[.int .i32 f, .int .i32 (lo - 1)] 78)).kept hgrow6 (apart_of rfl HAP.out))
        have ch6 := (H36.out.cellAt (i * 2 + 1) (by omega)).trans (flatR_get N i hlt).2
        rw [HHX.out] at ch6
        have HAT := Lib.hid (show v6.ownBlock ≠ some g by
          have h9 := HG.out
          rcases hat6 with h | h <;> rw [h]
          · rcases HAP.out with h2 | h2
            · rw [h2]; simp
            · simpa [Value.ownBlock] using h2
          · simp; omega)
        go_wp2_with fail
        go_roundw
        case rel =>
          exact ⟨i + 1, O ++ [(f, lo - 1)], hx + 1, hlt, by go_num, rfl, HNW.out, own_congr hown6 (by simp) (by simp [flatR]), H36.out, .inr HAT.out, (HBZ.out.alloc (by omega) _).grown hgrow6 (by simp; omega) (fun j hj => (H4.out.lt j hj).1)⟩
        case measure => simp [intOf]; omega
      · have hfl' : ¬ f < lo := hfl
        have HNW := Lib.hid (not_skip HR.out HI.out hlt (by rw [HLO.out]; exact hfl))
        rw [HHX.out] at HNW
        go_wp2_with fail
        go_roundw
        case rel =>
          exact ⟨i + 1, O, hx + 1, hlt, by go_num, rfl, HNW.out, H4.out, H3'.out, HAP.out, HBZ.out⟩
        case measure => simp [intOf]; omega
    · obtain rfl : i = N.length := by omega
      have HD := Lib.hid (not_done HR.out HI.out)
      have HOLe := Lib.hid (show O.length ≤ rs.length by have := HI.out.len; have := HLE.out; omega)
      have HNM := Lib.hid (show ∀ c, (decide (0 ≤ c) && decide (c ≤ 1114111) && !memR N c) = (decide (0 ≤ c) && decide (c ≤ 1114111) && !memR rs c) from fun c => by
        rw [HM.out]
        cases (decide (0 ≤ c) && decide (c ≤ 1114111)) <;> simp)
      by_cases hf : f ≤ 1114111
      · have HSM := Lib.hid (show O.length + 1 ≤ maxLen ∧ (O.length + 1) * 8 ≤ 140737488355328 by have := HOL.out; unfold maxLen; omega)
        go_wp2_with (at_builtin; refine wpList_append_own_at _ rfl _ _ 24 rfl w.heap.size 78 i0 (.agg #[.int .i32 0, .int .i32 0]) 2 8 Tryz.underlying24 hi hz0 hz1 hz2 rfl (by decide) u4 _ _ rfl (H4.out.alloc _) ⟨wr.heap.size, 0, none⟩ 1 1 [.int .i32 f, .int .i32 1114111] rfl rfl (cells_two_at _ _ rfl _ _ _) (fun x hx => by simp at hx; rcases hx with rfl | rfl <;> rfl) HSM.out.1 HSM.out.2 (by simp; omega) ?_; intro v6 w6 hown6 hgrow6 hnil6 hat6)
        go_ret
        refine ⟨_, O ++ [(f, 1114111)], rfl, own_congr hown6 (by simp) (by simp [flatR]), (HD.out.1 hf).1, fun c => ?_, ?_, (HBZ.out.alloc (by omega) _).grown hgrow6 (by simp; omega) (fun j hj => (H4.out.lt j hj).1)⟩
        · rw [(HD.out.1 hf).2, HNM.out]
        · have := HOLe.out; simp; omega
      · have hf' : ¬ f ≤ 1114111 := hf
        go_wp2_with fail
        go_ret
        refine ⟨_, O, rfl, H4.out, (HD.out.2 hf).1, fun c => ?_, ?_, HBZ.out⟩
        · rw [(HD.out.2 hf).2, HNM.out]
        · have := HOLe.out; omega
end Go.Proofs.YtjmgboegipeijaaGreatDoor
