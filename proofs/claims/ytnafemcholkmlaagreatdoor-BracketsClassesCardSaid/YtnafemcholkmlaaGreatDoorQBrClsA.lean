/- The reader of layer 7: a slice of ranges that is cut to its length and appended to. -/
import Derived.Test.YtnafemcholkmlaaGreatDoorQScan1
import Derived.Test.YtnafemcholkmlaaGreatDoorQNormWalk
import Derived.ArgAppend
import Derived.Deep.RegionLaw
namespace Go.Proofs.YtnafemcholkmlaaGreatDoor
open Go Go.RowKit Go.Proofs Go.Shelf

/-- A slice of ranges in a block of its own, from B on. -/
def AllV (w : World) (B : Nat) (v : Value) (out : List (Int × Int)) : Prop :=
  ∃ sa sc, v = .slice sa out.length sc ∧ out.length ≤ sc ∧ ((sa = none ∧ out = [] ∧ sc = 0) ∨ ∃ g cur, sa = some ⟨g, 0, none⟩ ∧ B ≤ g ∧ w.heap[g]? = some (.cells cur 43 (0, 0)) ∧ cur.toList.take (out.length * 2) = flatR out)
theorem AllV.of_own {w : World} {B : Nat} {v : Value} {out : List (Int × Int)} (h : w.ownsRow B 43 2 v out.length (flatR out)) : AllV w B v out := by
  rcases h.2 with ⟨rfl, h0⟩ | ⟨g, cap, cur, rfl, hb, hg, hc, hm, hs, hx⟩
  · exact ⟨none, 0, by rw [h0], by omega, .inl ⟨rfl, List.eq_nil_of_length_eq_zero h0, rfl⟩⟩
  · exact ⟨_, _, rfl, hc, .inr ⟨g, cur, rfl, hb, hg, hx⟩⟩
theorem AllV.grown {w w' : World} {B b : Nat} {v : Value} {out : List (Int × Int)} (h : AllV w B v out) (hg : w.grownBy w' (some b)) (hb : b < B) : AllV w' B v out := by
  obtain ⟨sa, sc, rfl, h1, h2⟩ := h
  refine ⟨sa, sc, rfl, h1, ?_⟩
  rcases h2 with h2 | ⟨g, cur, rfl, h3, h4, h5⟩
  · exact .inl h2
  · exact .inr ⟨g, cur, rfl, h3, by rw [hg.block g (Array.getElem?_eq_some_iff.1 h4).1 (ne_some (by omega))]; exact h4, h5⟩
theorem AllV.mono {w : World} {B B' : Nat} {v : Value} {out : List (Int × Int)} (h : AllV w B v out) (hb : B' ≤ B) : AllV w B' v out := by
  obtain ⟨sa, sc, rfl, h1, h2⟩ := h
  refine ⟨sa, sc, rfl, h1, ?_⟩
  rcases h2 with h2 | ⟨g, cur, rfl, h3, h4, h5⟩
  · exact .inl h2
  · exact .inr ⟨g, cur, rfl, by omega, h4, h5⟩
theorem AllV.cut {w : World} {B sc : Nat} {sa : Option Addr} {out : List (Int × Int)} (h : AllV w B (.slice sa out.length sc) out) : AllV w B (.slice sa out.length out.length) out := by
  obtain ⟨sa', sc', e, h1, h2⟩ := h
  cases e
  refine ⟨sa, _, rfl, Nat.le_refl _, ?_⟩
  rcases h2 with ⟨h3, h4, _⟩ | h2
  · exact .inl ⟨h3, h4, by rw [h4]; rfl⟩
  · exact .inr h2
theorem cell_row {w : World} {g : Nat} {cur : Array Value} {e : TypeId} {xs : List Value} {n : Nat} (h4 : w.heap[g]? = some (.cells cur e (0, 0))) (h5 : cur.toList.take n = xs) (j : Nat) (u : Value) (hj : xs[j]? = some u) : w.cell? ⟨g, j, none⟩ = some u := by
  have hu : cur.toList[j]? = some u := by
    rw [← h5] at hj
    have hlt := (List.getElem?_eq_some_iff.1 hj).1
    rw [List.getElem?_take_of_lt (by simp at hlt; omega)] at hj
    exact hj
  simp only [World.cell?, h4]
  simpa using hu
theorem AllV.ranges {w : World} {B : Nat} {v : Value} {out : List (Int × Int)} (h : AllV w B v out) (hN : out.length ≤ 140737488351232) : ∃ sa sc, v = .slice sa out.length sc ∧ RangesV w w.heap.size out sa out.length sc := by
  obtain ⟨sa, sc, rfl, h1, h2⟩ := h
  refine ⟨sa, sc, rfl, rfl, ⟨h1, hN⟩, ?_⟩
  rcases h2 with ⟨_, h2, _⟩ | ⟨g, cur, rfl, h3, h4, h5⟩
  · exact .inl (by rw [h2]; rfl)
  · refine .inr ⟨g, 0, rfl, (Array.getElem?_eq_some_iff.1 h4).1, RangesAt.of_cells out 0 fun j hj => ?_⟩
    have hf := flatR_get out j hj
    exact ⟨cell_row h4 h5 _ _ (by rw [Nat.zero_add]; exact hf.1), cell_row h4 h5 _ _ (by rw [Nat.zero_add]; exact hf.2)⟩

theorem run_append_full (w : World) (B B2 : Nat) (ty : TypeId) (sa : Option Addr) (out out2 : List (Int × Int)) (v2 : Value) (hA : AllV w B (.slice sa out.length out.length) out) (h2 : w.ownsRow B2 43 2 v2 out2.length (flatR out2)) (hN : out.length + out2.length ≤ 1000000000000) (hB : B ≤ w.heap.size) :
    ∃ v' w', (Builtin.append_ #[24, 24] ty #[.slice sa out.length out.length, v2]).run Tryz.prog w = .ok v' w' ∧ AllV w' B v' (out ++ out2) ∧ w.grownBy w' none := by
  obtain ⟨i0, hi, hz0, hz1, hz2⟩ := info_parts infoRange
  obtain ⟨sa', sc', e, h1, hA⟩ := hA
  cases e
  by_cases hm : out2 = []
  · subst hm
    rw [List.append_nil]
    refine ⟨_, w, ?_, ⟨sa, _, rfl, Nat.le_refl _, hA⟩, grownBy_refl _ _⟩
    rcases h2.2 with ⟨rfl, _⟩ | ⟨g, cap, cur, rfl, _, _, hnc, _⟩
    · rcases hA with ⟨rfl, h3, h4⟩ | ⟨g, cur, rfl, h3, h4, h5⟩
      · simp [Builtin.append_, run_underlying Tryz.underlying24, sizeOf, typeInfo, hi, Builtin.lenOf, Builtin.firstCells, h4]
      · simp [Builtin.append_, run_underlying Tryz.underlying24, sizeOf, typeInfo, hi, Builtin.lenOf, Builtin.firstCells, storeCells]
    · have hlc : ∀ a, (loadCells a 0).run Tryz.prog w = .ok #[] w := fun a => by simpa using run_loadCells (P := Tryz.prog) w a 0 (fun _ => undef) (fun j hj => absurd hj (by omega))
      rcases hA with ⟨rfl, h3, h4⟩ | ⟨g, cur, rfl, h3, h4, h5⟩
      · simp [Builtin.append_, run_underlying Tryz.underlying24, sizeOf, typeInfo, hi, Builtin.lenOf, Builtin.firstCells, h4, hlc, Result.andThen]
      · simp [Builtin.append_, run_underlying Tryz.underlying24, sizeOf, typeInfo, hi, Builtin.lenOf, Builtin.firstCells, storeCells, hlc, Result.andThen]
  · have hl : 0 < out2.length := List.length_pos_iff.2 hm
    rcases h2.2 with ⟨rfl, h0⟩ | ⟨g2, cap, cur2, rfl, _, hg2, hnc, _, _, hx2⟩
    · omega
    have hnews : ∀ j u, (flatR out2)[j]? = some u → w.cell? ((⟨g2, 0, none⟩ : Addr).add j) = some u := fun j u hj => by
      rw [Addr.add_lit, Nat.zero_add]; exact cell_row hg2 hx2 j u hj
    rcases hA with ⟨rfl, rfl, h4⟩ | ⟨g, cur, rfl, h3, h4, h5⟩
    · obtain ⟨v', w', hrun, r1, r2, _⟩ := run_append_own (P := Tryz.prog) w w.heap.size 24 ty 43 i0 _ 2 8 Tryz.underlying24 hi hz0 hz1 hz2 rfl (by decide) (.slice none 0 0) 0 [] (World.ownsRow_nil w _ _ _) ⟨g2, 0, none⟩ out2.length cap (flatR out2) (by rw [flatR_length]; try omega) hnews (flatR_one out2) (by unfold maxLen; omega) (by omega) (Nat.le_refl _)
      refine ⟨v', w', hrun, ?_, r2⟩
      exact (AllV.of_own (by simpa using r1)).mono hB
    · obtain ⟨v', w', hrun, r1, r2⟩ := run_append_arg_grows (P := Tryz.prog) w 24 ty 43 i0 _ 2 8 Tryz.underlying24 hi hz0 hz1 hz2 rfl (by decide) ⟨g, 0, none⟩ out.length out.length (flatR out) (by rw [flatR_length]; try omega) (fun j u hj => by rw [Addr.add_lit, Nat.zero_add]; exact cell_row h4 h5 j u hj) ⟨g2, 0, none⟩ out2.length cap (flatR out2) (by rw [flatR_length]; try omega) hnews (by omega) (by unfold maxLen; omega) (by omega)
      refine ⟨v', w', hrun, ?_, r2⟩
      exact (AllV.of_own (by simpa [flatR] using r1)).mono hB
theorem step_append_full {ops : Array Oper} {o : Oper} {a : Act} {w : World} {K : Act → World → Prop} {Q : Exit → Act → World → Prop} {E : Prop} (hgd : o.guard = none) (s x : Operand) (hop : o.op = Op.call { callee := Callee.builtin Builtin.append, args := #[s, x], argTypes := #[24, 24] })
    (B B2 : Nat) (sa : Option Addr) (out out2 : List (Int × Int)) (v2 : Value) (hs : a.eval s = .slice sa out.length out.length) (hx : a.eval x = v2) (hA : AllV w B (.slice sa out.length out.length) out) (h2 : w.ownsRow B2 43 2 v2 out2.length (flatR out2)) (hN : out.length + out2.length ≤ 1000000000000) (hB : B ≤ w.heap.size)
    (hK : ∀ v' w', AllV w' B v' (out ++ out2) → w.grownBy w' none → K (a.put o.dst v') w') :
    if Region.wanted o (yielded ops a.tmps) = true then Oper.wp Tryz.prog o a w K Q else E := by
  have hw : Region.wanted o (yielded ops a.tmps) = true := by simp [Region.wanted, hgd]
  rw [if_pos hw]
  obtain ⟨v', w', hrun, r1, r2⟩ := run_append_full w B B2 o.type sa out out2 v2 hA h2 hN hB
  unfold Oper.wp
  simp [execOp, hop, resolve, invoke, builtin, hs, hx, hrun, Result.andThen]
  exact hK v' w' r1 r2
end Go.Proofs.YtnafemcholkmlaaGreatDoor
