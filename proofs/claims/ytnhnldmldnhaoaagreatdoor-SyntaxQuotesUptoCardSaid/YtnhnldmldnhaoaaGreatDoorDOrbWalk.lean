/- tables.Orbit: the runes that are alike. (Printed by gen_orb.py.) -/
import Derived.Test.YtnhnldmldnhaoaaGreatDoorDRuneIns
import Derived.Deep.LoopGhost
import Derived.IntWalk
namespace Go.Proofs.YtnhnldmldnhaoaaGreatDoor
open Go Go.RowKit Go.Proofs

theorem addU_len (out : List Int) (x : Int) : (addU out x).length ≤ out.length + 1 := by
  unfold addU
  split
  · omega
  · simp
/-- The cells of the stretches. -/
def strC : List (Int × Int × Int) → List Value
  | [] => []
  | s :: l => .int .i32 s.1 :: .int .i32 s.2.1 :: .int .i32 s.2.2 :: strC l
theorem strC_get : ∀ (l : List (Int × Int × Int)) (j : Nat) (h : j < l.length), (strC l)[j * 3]? = some (.int .i32 l[j].1) ∧ (strC l)[j * 3 + 1]? = some (.int .i32 l[j].2.1) ∧ (strC l)[j * 3 + 2]? = some (.int .i32 l[j].2.2)
  | s :: l, 0, _ => by simp [strC]
  | s :: l, j + 1, h => by
    have := strC_get l j (by simpa using h)
    have e1 : (j + 1) * 3 = j * 3 + 1 + 1 + 1 := by omega
    rw [e1]
    simpa [strC] using this
set_option maxRecDepth 100000 in
theorem stretches_any (w : World) : Calls Tryz.prog 73 #[] w fun e w' => e = .returned (.slice (some ⟨w.heap.size, 0, none⟩) 13 13) ∧ w' = w.alloc (.cells (strC stretchL).toArray 119) := by
  go_enter Tryz.func73, Tryz.ntmps73
  go_wp2_with fail
  go_ret
  exact ⟨rfl, rfl⟩

/-- The frame of Orbit. -/
structure OrbAt (w W : World) (bo : Nat) (v : Value) (out : List Int) : Prop where
  b : Blk W bo [v] 97
  o : OwnR W w.heap.size v out
  ne : v.ownBlock ≠ some bo
  bl : Below w.heap.size w W
/-- The frame within a round over the stretches. -/
structure OrbIn (w W : World) (bo sh bs i : Nat) (x : Int) (s : Int × Int × Int) (v : Value) (out : List Int) : Prop where
  a : OrbAt w W bo v out
  st : Blk W sh (strC stretchL) 119
  b7 : Blk W bs [.int .i32 s.1, .int .i32 s.2.1, .int .i32 s.2.2] 119
  nsh : v.ownBlock ≠ some sh
  nb7 : v.ownBlock ≠ some bs
  x : out[i]? = some x
theorem OrbIn.add {w W W' : World} {bo sh bs i : Nat} {x y : Int} {s : Int × Int × Int} {v : Value} {out : List Int} {e : Ending} (h : OrbIn w W bo sh bs i x s v out) (hbo : w.heap.size ≤ bo) (d1 : sh ≠ bo) (d2 : bs ≠ bo) (ha : AddOut W bo w.heap.size v (addU out y) e W') :
    ∃ v', OrbIn w W' bo sh bs i x s v' (addU out y) := by
  obtain ⟨_, v', hb, ho, hne, hor, hk⟩ := ha
  have hz := h.a.bl.size
  refine ⟨v', ⟨⟨hb, ho, hne, h.a.bl.trans (hk.below hz ?_)⟩, hk.blk h.st ?_, hk.blk h.b7 ?_, ?_, ?_, prefix_get (addU_prefix out y) h.x⟩⟩
  · rintro k (rfl | hv)
    · exact hbo
    · exact (h.a.o.lt k hv).1
  · rintro (e | e)
    · exact d1 e
    · exact h.nsh e
  · rintro (e | e)
    · exact d2 e
    · exact h.nb7 e
  · intro e
    rcases hor with e2 | ⟨k, e2, hk2⟩
    · exact h.nsh (by rw [← e2]; exact e)
    · rw [e] at e2
      have := Option.some.inj e2
      have := h.st.lt
      omega
  · intro e
    rcases hor with e2 | ⟨k, e2, hk2⟩
    · exact h.nb7 (by rw [← e2]; exact e)
    · rw [e] at e2
      have := Option.some.inj e2
      have := h.b7.lt
      omega
theorem OrbIn.look {w W : World} {bo sh bs i : Nat} {x : Int} {s : Int × Int × Int} {v : Value} {out : List Int} (h : OrbIn w W bo sh bs i x s v out) :
    ∃ g cap, v = .slice (some ⟨g, 0, none⟩) out.length cap ∧ W.cell? ⟨g, i, none⟩ = some (.int .i32 x) ∧ i < out.length := by
  have hi := (List.getElem?_eq_some_iff.1 h.x).1
  obtain ⟨g, cap, rfl, _, _⟩ := World.ownsRow.form h.a.o (by omega)
  refine ⟨g, cap, rfl, ?_, hi⟩
  rw [h.a.o.cellAt i (by omega)]
  unfold vR
  rw [List.getElem?_map, h.x]; rfl
theorem OrbIn.drewN {w W : World} {bo sh bs i : Nat} {x : Int} {s : Int × Int × Int} {v : Value} {out : List Int} (h : OrbIn w W bo sh bs i x s v out) (n : Nat) : OrbIn w (W.drewN n) bo sh bs i x s v out :=
  ⟨⟨h.a.b, h.a.o, h.a.ne, below_drewN h.a.bl n⟩, h.st, h.b7, h.nsh, h.nb7, h.x⟩
/-- The result of Orbit. -/
def OrbOut (c : Int) (w : World) (e : Ending) (w' : World) : Prop := ∃ (v : Value) (out : List Int), e = .returned v ∧ out.Perm (orbL c) ∧ OwnR w' w.heap.size v out ∧ Below w.heap.size w w'

set_option maxRecDepth 100000 in
set_option maxHeartbeats 8000000 in
theorem tables_Orbit (c : Int) (w : World) (h0 : 0 ≤ c) (h1 : c ≤ 1114111) : Calls Tryz.prog 58 #[.int .i32 c] w (OrbOut c w) := by
  obtain ⟨F, hF⟩ : ∃ F, F = orbF c := ⟨_, rfl⟩
  have hG := orb_good h0 h1
  rw [← hF] at hG
  obtain ⟨hne, hlen, hin, hperm⟩ := hG
  have HNE := Lib.hid hne; have HL := Lib.hid hlen; have HIN := Lib.hid hin; have HP := Lib.hid hperm; have HF := Lib.hid hF
  have n0 : ¬ c < 0 := by omega
  have n1 : ¬ 1114111 < c := by omega
  obtain ⟨bo, hbo⟩ : ∃ bo, bo = w.heap.size + 1 := ⟨_, rfl⟩
  have HA := Lib.hid (show OrbAt w ((w.alloc (.cells #[.int .i32 c] 21)).alloc (.cells #[.slice (some ⟨w.heap.size, 0, none⟩) 1 1] 97)) bo (.slice (some ⟨w.heap.size, 0, none⟩) 1 1) [c] from by
    have z1 : (w.alloc (.cells #[.int .i32 c] 21)).heap.size = w.heap.size + 1 := World.size_alloc _ _
    refine ⟨?_, ?_, ?_, ?_⟩
    · rw [hbo, ← z1]; exact Blk.new _ [.slice (some ⟨w.heap.size, 0, none⟩) 1 1] 97
    · exact World.ownsRow.alloc (World.ownsRow_lit w #[.int .i32 c] 1 (Nat.le_refl _) (by decide) rfl) _
    · intro e; have e2 : w.heap.size = bo := Option.some.inj e; omega
    · exact ((Below.refl _ w).alloc (Nat.le_refl _) _).alloc (by simp) _)
  clear hne hlen hin hperm hF h0 h1
  go_enter Tryz.func58, Tryz.ntmps58
  go_wp2_with fail
  rw [← hbo]
  have HBO := Lib.hid hbo; clear hbo
  go_loopg [5] 10 (fun n iv W => ∃ (i : Nat) (v : Value) (out : List Int), iv = .int .i64 i ∧ OrbAt w W bo v out ∧ orbU n i out = F ∧ 0 < out.length)
  case atStart => exact ⟨0, _, [c], rfl, HA.out, HF.out.symm, by simp⟩
  case round =>
    obtain ⟨i, v, out, rfl, hA, hO, hpos⟩ := hrel
    have A1 := Lib.hid hA; have O1 := Lib.hid hO; clear hA hO
    obtain ⟨m, rfl⟩ : ∃ m, gk = m + 1 := by
      cases gk with
      | zero => exact absurd O1.out.symm HNE.out
      | succ m => exact ⟨m, rfl⟩
    have hol : out.length ≤ 3 := Nat.le_trans (orbU_prefix _ _ _ _ O1.out HNE.out).length_le HL.out
    obtain ⟨g, cap, rfl, _, _⟩ := World.ownsRow.form A1.out.o hpos
    have cb := Blk.cell A1.out.b (j := 0) rfl
    by_cases hlt : i < out.length
    · go_wp2_with fail
      refine (stretches_any _).mono ?_
      rintro e w2 ⟨rfl, rfl⟩
      obtain ⟨x, hx⟩ : ∃ x, out[i]? = some x := ⟨_, List.getElem?_eq_getElem hlt⟩
      have hxF : 0 ≤ x ∧ x ≤ 1114111 := HIN.out x (List.mem_of_getElem? (prefix_get (orbU_prefix _ _ _ _ O1.out HNE.out) hx))
      have hON : orbU m (i + 1) (roundU x out) = F := by
        have := O1.out
        unfold orbU at this
        rw [hx] at this
        exact this
      have hRL : (roundU x out).length ≤ 3 := Nat.le_trans (orbU_prefix _ _ _ _ hON HNE.out).length_le HL.out
      have hx0 := hxF.1
      have hx1 := hxF.2
      have HX := Lib.hid hx; have HON := Lib.hid hON; have HRL := Lib.hid hRL
      have hlg := A1.out.o.lt g rfl
      have S1 := Lib.hid (show Blk (wr.alloc (.cells (strC stretchL).toArray 119)) wr.heap.size (strC stretchL) 119 from Blk.new _ _ _)
      have A2 := Lib.hid (show OrbAt w (wr.alloc (.cells (strC stretchL).toArray 119)) bo (.slice (some ⟨g, 0, none⟩) out.length cap) out from ⟨A1.out.b.alloc _, World.ownsRow.alloc A1.out.o _, A1.out.ne, A1.out.bl.alloc A1.out.bl.size _⟩)
      have hsb : wr.heap.size ≠ bo := by have := A1.out.b.lt; omega
      have hsg : (Value.slice (some ⟨g, 0, none⟩) out.length cap).ownBlock ≠ some wr.heap.size := by intro e; have e2 : g = wr.heap.size := Option.some.inj e; omega
      have HSG := Lib.hid hsg
      generalize wr.alloc (.cells (strC stretchL).toArray 119) = W1 at S1 A2 ⊢
      generalize wr.heap.size = sh at S1 hsb HSG ⊢
      clear hx hON hRL hsg hxF cb
      go_wp2_with fail
      go_loopw [27] (fun jv W => ∃ (j : Nat) (v2 : Value) (out2 : List Int), j ≤ 13 ∧ jv = .int .i64 j ∧ OrbAt w W bo v2 out2 ∧ Blk W sh (strC stretchL) 119 ∧ v2.ownBlock ≠ some sh ∧ out2[i]? = some x ∧ (stretchL.drop j).foldl (stepU x) out2 = roundU x out) (fun jv _ => 13 - (intOf jv).toNat)
      case atStart => exact ⟨0, _, out, by omega, rfl, A2.out, S1.out, HSG.out, HX.out, rfl⟩
      case round =>
        obtain ⟨j, v2, out2, hj, rfl, hA2, hS2, hn2, hx2, hO2⟩ := hrel
        have hsl : stretchL.length = 13 := rfl
        by_cases hj13 : j < 13
        case neg =>
          obtain rfl : j = 13 := by omega
          have hO3 : out2 = roundU x out := hO2
          have hp2 : 0 < out2.length := Nat.lt_of_le_of_lt (Nat.zero_le i) (List.getElem?_eq_some_iff.1 hx2).1
          have HA2 := Lib.hid hA2; have HO3 := Lib.hid hO3
          clear hA2 hS2 hn2 hx2 hO2 hO3
          go_wp2_with fail
          go_roundg m
          case rel => exact ⟨i + 1, v2, out2, by go_num, HA2.out, by rw [HO3.out]; exact HON.out, hp2⟩
          case measure => omega
        case pos =>
          have hjl : j < stretchL.length := by rw [hsl]; exact hj13
          obtain ⟨s, hs, hq⟩ : ∃ s, stretchL[j]? = some s ∧ (strC stretchL)[j * 3]? = some (.int .i32 s.1) ∧ (strC stretchL)[j * 3 + 1]? = some (.int .i32 s.2.1) ∧ (strC stretchL)[j * 3 + 2]? = some (.int .i32 s.2.2) := ⟨_, List.getElem?_eq_getElem hjl, strC_get stretchL j hjl⟩
          have hbd := stretch_bounds s (List.mem_of_getElem? hs)
          have hdrop : stretchL.drop j = s :: stretchL.drop (j + 1) := by
            obtain ⟨hl, e⟩ := List.getElem?_eq_some_iff.1 hs
            rw [← e]; exact List.drop_eq_getElem_cons hl
          clear hjl
          rw [hdrop, List.foldl_cons] at hO2
          obtain ⟨lo, hi, up⟩ := s
          have b1 := hbd.2.2.2.2.1
          have b2 := hbd.2.2.2.2.2
          have q0 := Blk.cell hS2 (j := j * 3) hq.1
          have q1 := Blk.cell hS2 (j := j * 3 + 1) hq.2.1
          have q2 := Blk.cell hS2 (j := j * 3 + 2) hq.2.2
          have I3 := Lib.hid (show OrbIn w (wr.alloc (.cells #[.int .i32 lo, .int .i32 hi, .int .i32 up] 119)) bo sh wr.heap.size i x (lo, hi, up) v2 out2 from ⟨⟨hA2.b.alloc _, World.ownsRow.alloc hA2.o _, hA2.ne, hA2.bl.alloc hA2.bl.size _⟩, hS2.alloc _, Blk.new wr [.int .i32 lo, .int .i32 hi, .int .i32 up] 119, hn2, (fun e => by have := (hA2.o.lt _ e).2; omega), hx2⟩)
          have d2 : wr.heap.size ≠ bo := by have := hA2.b.lt; omega
          have hfr : addU out2 (x + up) <+: stepU x out2 (lo, hi, up) ∨ True := .inr trivial
          have HO2 := Lib.hid hO2
          have hst : stepU x out2 (lo, hi, up) <+: roundU x out := by rw [← hO2]; exact foldU_prefix x _ _
          have HST := Lib.hid hst
          have hbz := Lib.hid (show w.heap.size ≤ bo by have := HBO.out; omega)
          clear hs hq hbd hA2 hS2 hn2 hx2 hO2 hdrop hst hfr
          obtain ⟨g3, cap3, rfl, cx3, hi3⟩ := I3.out.look
          have cb3 := Blk.cell I3.out.a.b (j := 0) rfl
          have hj3 : (i : Int) < (out2.length : Int) := by omega
          have hl3 : out2.length ≤ 3 := by have := (stepU_prefix x out2 (lo, hi, up)).length_le; have := HST.out.length_le; have := HRL.out; omega
          have HLL3 := Lib.hid (show out2.length ≤ 1000 by omega)
          by_cases c1 : lo ≤ x
          · by_cases c2 : x ≤ hi
            · go_wp2_with fail
              rw [show wrap32 (x + up) = x + up from IntWalk.wrap32_in _ (by omega)]
              have hpo3 : 0 < out2.length := by omega
              refine (orbit_add (x + up) bo _ out2 _ w.heap.size I3.out.a.b I3.out.a.o I3.out.a.ne hpo3 HLL3.out).mono ?_
              rintro e w4 hAO
              obtain ⟨v4, hI4⟩ := OrbIn.add I3.out hbz.out hsb d2 hAO
              obtain ⟨rfl, _⟩ := hAO
              obtain ⟨g4, cap4, rfl, cx4, hi4⟩ := hI4.look
              have cb4 := Blk.cell hI4.a.b (j := 0) rfl
              have I4 := Lib.hid hI4; clear hI4 cb3 cx3
              have HLL4 := Lib.hid (show (addU out2 (x + up)).length ≤ 1000 by have := addU_len out2 (x + up); omega)
              obtain ⟨o4, ho4⟩ : ∃ o4, addU out2 (x + up) = o4 := ⟨_, rfl⟩
              rw [ho4] at I4 hi4 HLL4 cb4
              have HO4 := Lib.hid ho4; clear ho4
              go_wp2_with fail
              have hw4 : IntKind.i32.wrap (x - up) = x - up := IntWalk.i32_in _ (by omega)
              have hi04 : (0 : Int) ≤ (i : Int) := by omega
              have hol4 : (i : Int) < ((o4).length : Int) := by omega
              have p2 := Blk.cell I4.out.b7 (j := 2) rfl
              by_cases e1 : lo ≤ x - up
              · by_cases e2 : x - up ≤ hi
                · go_quiet (fail)
                  have p0 := Blk.cell I4.out.b7 (j := 0) rfl; have p1 := Blk.cell I4.out.b7 (j := 1) rfl
                  have IQ := Lib.hid (I4.out.drewN nq)
                  go_wp2_with fail
                  have hpo4 : 0 < (o4).length := by omega
                  refine (orbit_add (x - up) bo _ (o4) _ w.heap.size IQ.out.a.b IQ.out.a.o IQ.out.a.ne hpo4 (by have := HLL4.out; omega)).mono ?_
                  rintro e w5 hAO
                  obtain ⟨v5, hI5⟩ := OrbIn.add IQ.out hbz.out hsb d2 hAO
                  obtain ⟨rfl, _⟩ := hAO
                  have I5 := Lib.hid hI5; clear hI5
                  have HEQ := Lib.hid (show stepU x out2 (lo, hi, up) = addU (o4) (x - up) from (by unfold stepU; simp only; rw [← HO4.out, if_pos (show lo ≤ x ∧ x ≤ hi by omega), if_pos (show lo ≤ x - up ∧ x - up ≤ hi by omega)]))
                  go_wp2_with fail
                  go_roundw
                  case rel => exact ⟨j + 1, _, _, by omega, by go_num, I5.out.a, I5.out.st, I5.out.nsh, I5.out.x, by rw [← HEQ.out]; exact HO2.out⟩
                  case measure => simp [intOf]; omega
                · go_quiet (fail)
                  have p0 := Blk.cell I4.out.b7 (j := 0) rfl; have p1 := Blk.cell I4.out.b7 (j := 1) rfl
                  have IQ := Lib.hid (I4.out.drewN nq)
                  have HEQ := Lib.hid (show stepU x out2 (lo, hi, up) = o4 from (by unfold stepU; simp only; rw [← HO4.out, if_pos (show lo ≤ x ∧ x ≤ hi by omega), if_neg (show ¬ (lo ≤ x - up ∧ x - up ≤ hi) by omega)]))
                  go_wp2_with fail
                  go_roundw
                  case rel => exact ⟨j + 1, _, _, by omega, by go_num, IQ.out.a, IQ.out.st, IQ.out.nsh, IQ.out.x, by rw [← HEQ.out]; exact HO2.out⟩
                  case measure => simp [intOf]; omega
              · go_quiet (fail)
                have p0 := Blk.cell I4.out.b7 (j := 0) rfl
                have IQ := Lib.hid (I4.out.drewN nq)
                have HEQ := Lib.hid (show stepU x out2 (lo, hi, up) = o4 from (by unfold stepU; simp only; rw [← HO4.out, if_pos (show lo ≤ x ∧ x ≤ hi by omega), if_neg (show ¬ (lo ≤ x - up ∧ x - up ≤ hi) by omega)]))
                go_wp2_with fail
                go_roundw
                case rel => exact ⟨j + 1, _, _, by omega, by go_num, IQ.out.a, IQ.out.st, IQ.out.nsh, IQ.out.x, by rw [← HEQ.out]; exact HO2.out⟩
                case measure => simp [intOf]; omega
            · go_wp2_with fail
              have hw3 : IntKind.i32.wrap (x - up) = x - up := IntWalk.i32_in _ (by omega)
              have hi03 : (0 : Int) ≤ (i : Int) := by omega
              have hol3 : (i : Int) < ((out2).length : Int) := by omega
              have p2 := Blk.cell I3.out.b7 (j := 2) rfl
              by_cases e1 : lo ≤ x - up
              · by_cases e2 : x - up ≤ hi
                · go_quiet (fail)
                  have p0 := Blk.cell I3.out.b7 (j := 0) rfl; have p1 := Blk.cell I3.out.b7 (j := 1) rfl
                  have IQ := Lib.hid (I3.out.drewN nq)
                  go_wp2_with fail
                  have hpo3 : 0 < (out2).length := by omega
                  refine (orbit_add (x - up) bo _ (out2) _ w.heap.size IQ.out.a.b IQ.out.a.o IQ.out.a.ne hpo3 (by have := HLL3.out; omega)).mono ?_
                  rintro e w5 hAO
                  obtain ⟨v5, hI5⟩ := OrbIn.add IQ.out hbz.out hsb d2 hAO
                  obtain ⟨rfl, _⟩ := hAO
                  have I5 := Lib.hid hI5; clear hI5
                  have HEQ := Lib.hid (show stepU x out2 (lo, hi, up) = addU (out2) (x - up) from (by unfold stepU; simp only; rw [if_neg (show ¬ (lo ≤ x ∧ x ≤ hi) by omega), if_pos (show lo ≤ x - up ∧ x - up ≤ hi by omega)]))
                  go_wp2_with fail
                  go_roundw
                  case rel => exact ⟨j + 1, _, _, by omega, by go_num, I5.out.a, I5.out.st, I5.out.nsh, I5.out.x, by rw [← HEQ.out]; exact HO2.out⟩
                  case measure => simp [intOf]; omega
                · go_quiet (fail)
                  have p0 := Blk.cell I3.out.b7 (j := 0) rfl; have p1 := Blk.cell I3.out.b7 (j := 1) rfl
                  have IQ := Lib.hid (I3.out.drewN nq)
                  have HEQ := Lib.hid (show stepU x out2 (lo, hi, up) = out2 from (by unfold stepU; simp only; rw [if_neg (show ¬ (lo ≤ x ∧ x ≤ hi) by omega), if_neg (show ¬ (lo ≤ x - up ∧ x - up ≤ hi) by omega)]))
                  go_wp2_with fail
                  go_roundw
                  case rel => exact ⟨j + 1, _, _, by omega, by go_num, IQ.out.a, IQ.out.st, IQ.out.nsh, IQ.out.x, by rw [← HEQ.out]; exact HO2.out⟩
                  case measure => simp [intOf]; omega
              · go_quiet (fail)
                have p0 := Blk.cell I3.out.b7 (j := 0) rfl
                have IQ := Lib.hid (I3.out.drewN nq)
                have HEQ := Lib.hid (show stepU x out2 (lo, hi, up) = out2 from (by unfold stepU; simp only; rw [if_neg (show ¬ (lo ≤ x ∧ x ≤ hi) by omega), if_neg (show ¬ (lo ≤ x - up ∧ x - up ≤ hi) by omega)]))
                go_wp2_with fail
                go_roundw
                case rel => exact ⟨j + 1, _, _, by omega, by go_num, IQ.out.a, IQ.out.st, IQ.out.nsh, IQ.out.x, by rw [← HEQ.out]; exact HO2.out⟩
                case measure => simp [intOf]; omega
          · go_wp2_with fail
            have hw3 : IntKind.i32.wrap (x - up) = x - up := IntWalk.i32_in _ (by omega)
            have hi03 : (0 : Int) ≤ (i : Int) := by omega
            have hol3 : (i : Int) < ((out2).length : Int) := by omega
            have p2 := Blk.cell I3.out.b7 (j := 2) rfl
            by_cases e1 : lo ≤ x - up
            · by_cases e2 : x - up ≤ hi
              · go_quiet (fail)
                have p0 := Blk.cell I3.out.b7 (j := 0) rfl; have p1 := Blk.cell I3.out.b7 (j := 1) rfl
                have IQ := Lib.hid (I3.out.drewN nq)
                go_wp2_with fail
                have hpo3 : 0 < (out2).length := by omega
                refine (orbit_add (x - up) bo _ (out2) _ w.heap.size IQ.out.a.b IQ.out.a.o IQ.out.a.ne hpo3 (by have := HLL3.out; omega)).mono ?_
                rintro e w5 hAO
                obtain ⟨v5, hI5⟩ := OrbIn.add IQ.out hbz.out hsb d2 hAO
                obtain ⟨rfl, _⟩ := hAO
                have I5 := Lib.hid hI5; clear hI5
                have HEQ := Lib.hid (show stepU x out2 (lo, hi, up) = addU (out2) (x - up) from (by unfold stepU; simp only; rw [if_neg (show ¬ (lo ≤ x ∧ x ≤ hi) by omega), if_pos (show lo ≤ x - up ∧ x - up ≤ hi by omega)]))
                go_wp2_with fail
                go_roundw
                case rel => exact ⟨j + 1, _, _, by omega, by go_num, I5.out.a, I5.out.st, I5.out.nsh, I5.out.x, by rw [← HEQ.out]; exact HO2.out⟩
                case measure => simp [intOf]; omega
              · go_quiet (fail)
                have p0 := Blk.cell I3.out.b7 (j := 0) rfl; have p1 := Blk.cell I3.out.b7 (j := 1) rfl
                have IQ := Lib.hid (I3.out.drewN nq)
                have HEQ := Lib.hid (show stepU x out2 (lo, hi, up) = out2 from (by unfold stepU; simp only; rw [if_neg (show ¬ (lo ≤ x ∧ x ≤ hi) by omega), if_neg (show ¬ (lo ≤ x - up ∧ x - up ≤ hi) by omega)]))
                go_wp2_with fail
                go_roundw
                case rel => exact ⟨j + 1, _, _, by omega, by go_num, IQ.out.a, IQ.out.st, IQ.out.nsh, IQ.out.x, by rw [← HEQ.out]; exact HO2.out⟩
                case measure => simp [intOf]; omega
            · go_quiet (fail)
              have p0 := Blk.cell I3.out.b7 (j := 0) rfl
              have IQ := Lib.hid (I3.out.drewN nq)
              have HEQ := Lib.hid (show stepU x out2 (lo, hi, up) = out2 from (by unfold stepU; simp only; rw [if_neg (show ¬ (lo ≤ x ∧ x ≤ hi) by omega), if_neg (show ¬ (lo ≤ x - up ∧ x - up ≤ hi) by omega)]))
              go_wp2_with fail
              go_roundw
              case rel => exact ⟨j + 1, _, _, by omega, by go_num, IQ.out.a, IQ.out.st, IQ.out.nsh, IQ.out.x, by rw [← HEQ.out]; exact HO2.out⟩
              case measure => simp [intOf]; omega
    · have hlt' : ¬ (i : Int) < (out.length : Int) := by omega
      have e9 : out[i]? = none := List.getElem?_eq_none (by omega)
      have hF2 : out = F := by
        have := O1.out
        unfold orbU at this
        rw [e9] at this
        exact this
      obtain ⟨hcap, hcm⟩ : out.length ≤ cap ∧ cap ≤ 9223372036854775807 := by
        rcases A1.out.o.2 with ⟨e, h⟩ | ⟨g', cap', cur, e, _, _, h, h2, _⟩
        · omega
        · cases e; unfold maxLen at h2; exact ⟨h, h2⟩
      have HS := Lib.hid (sort_runes out w.heap.size g cap _ A1.out.o hpos (by omega) hcap hcm)
      have HF2 := Lib.hid hF2
      clear hF2 e9
      go_wp2_with fail
      refine (HS.out).mono ?_
      rintro e w3 ⟨rfl, ys, hp, ho, hg⟩
      have hlg := A1.out.o.lt g rfl
      have hgb : some bo ≠ some g := fun e => A1.out.ne (by rw [e]; rfl)
      have c3 := Blk.cell (A1.out.b.grown hg hgb) (j := 0) rfl
      have HO := Lib.hid ho; have HY := Lib.hid hp
      have B3 := Lib.hid (below_next A1.out.bl (Nat.le_refl _) hg (fun k e => by cases e; exact hlg.1))
      clear ho hp hg cb
      go_wp2_with fail
      go_ret
      refine ⟨_, ys, rfl, HY.out.trans (by rw [HF2.out]; exact HP.out), ?_, B3.out⟩
      have hl := HY.out.length_eq
      have := HO.out
      unfold OwnR
      rw [hl]
      exact this

end Go.Proofs.YtnhnldmldnhaoaaGreatDoor
