/- The edges sorted by where they are: slices.SortFunc at sets.edge, with sets.edges' own closure. The edges of some lists of ranges: sets.edges. A tree's parts, in order, and the walk that hands them on. -/
import Derived.Test.YtnhnldmldnhaoaaGreatDoorDSetsPure
import Derived.Test.YtnhnldmldnhaoaaGreatDoorDBase
import Derived.Test.YtnhnldmldnhaoaaGreatDoorShelf
import Derived.Test.YtnhnldmldnhaoaaGreatDoorShelfB
import Derived.Shelf.SlSortCmp.WholeK
import Derived.WalkKit
import Derived.Lib.Hide
import Derived.WalkSpells
import Derived.WalkLawsBesides
import Derived.LoopN
import Derived.LoopTactic
import Derived.Maps.AppendAt
import Derived.RangeFuncBox
import Derived.Lib.OthersKept
import Derived.Lib.FrozenHead
import Derived.Test.YtnhnldmldnhaoaaGreatDoorProg
import Derived.RangeFuncNested
import Derived.RangeFuncBound
import Derived.RangeFuncCalls
import Derived.RangeFuncLeaves
import Derived.RangeFuncWrites
import Derived.Shelf.Abstract
import Derived.Shelf.RegionOpen
import Derived.OwnWalkIn
import Derived.TacticsInMore
import Derived.LoopNIn
import Derived.LoopIn
namespace Go.Proofs.YtnhnldmldnhaoaaGreatDoor
open Go Go.RowKit Go.Proofs Go.Shelf Go.Lib Go.Sort

/-- An edge's two cells. -/
def encE (x : Int × Int) : List Value := [.int .i32 x.1, .int .i64 x.2]
def flatE (es : List (Int × Int)) : List Value := es.flatMap encE
theorem flatE_length (es : List (Int × Int)) : (flatE es).length = es.length * 2 := by
  induction es with
  | nil => rfl
  | cons x es ih => simp only [flatE, List.flatMap_cons, List.length_append, List.length_cons] at ih ⊢; rw [ih]; simp [encE]; omega
theorem flatE_append (a b : List (Int × Int)) : flatE (a ++ b) = flatE a ++ flatE b := by simp [flatE]
theorem flatE_get : ∀ (es : List (Int × Int)) (j : Nat) (h : j < es.length * 2), (flatE es)[j]? = some (encE (es[j / 2]'(by omega)))[j % 2]!
  | [], j, h => by simp at h
  | x :: es, j, h => by
    rw [show flatE (x :: es) = encE x ++ flatE es by simp [flatE]]
    by_cases h2 : j < 2
    · match j, h2 with
      | 0, _ => simp [encE]
      | 1, _ => simp [encE]
    · obtain ⟨i, rfl⟩ : ∃ i, j = i + 2 := ⟨j - 2, by omega⟩
      have h3 : i < es.length * 2 := by simp at h; omega
      rw [List.getElem?_append_right (by simp [encE])]
      rw [show i + 2 - (encE x).length = i by simp [encE]]
      rw [flatE_get es i h3]
      have e1 : (i + 2) / 2 = i / 2 + 1 := by omega
      have e2 : (i + 2) % 2 = i % 2 := by omega
      simp only [e1, e2, List.getElem_cons_succ]
theorem flatK_flatE (es : List (Int × Int)) : flatK encE 2 es.toArray = (flatE es).toArray := by
  apply Array.ext_getElem?
  intro t
  by_cases h : t < es.length * 2
  · rw [show (flatE es).toArray[t]? = (flatE es)[t]? from List.getElem?_toArray ..,  flatE_get es t h]
    have h0 : t < (flatK encE 2 es.toArray).size := by simpa using h
    rw [Array.getElem?_eq_getElem h0, ← getElem!_pos _ t h0, get_flatK _ _ _ t (by simpa using h)]
    simp [show t / 2 < es.length by omega]
  · rw [Array.getElem?_eq_none (by simp; omega), Array.getElem?_eq_none (by simp [flatE_length]; omega)]

theorem isNaN_rune (x : Int) (W : World) : Calls Tryz.prog 145 #[.int .i32 x] W fun e w' => e = .returned (.bool false) ∧ w' = W := by
  go_enter Tryz.func145, Tryz.ntmps145
  go_wp2
  go_ret
  exact ⟨by simp, rfl⟩
theorem compare_rune (x y : Int) (W : World) : Calls Tryz.prog 113 #[.int .i32 x, .int .i32 y] W fun e w' => e = .returned (.int .i64 (Lib.compareInt x y)) ∧ w' = W := by
  have hx := fun z w => isNaN_rune z w
  by_cases h1 : x < y
  · have e : Lib.compareInt x y = -1 := by simp [Lib.compareInt, h1]
    rw [e]
    go_enter Tryz.func113, Tryz.ntmps113
    go_wp2_with (go_at_call 145; refine (hx _ _).mono ?_; rintro e w' ⟨rfl, rfl⟩)
    go_ret
    exact ⟨rfl, rfl⟩
  · by_cases h2 : y < x
    · have e : Lib.compareInt x y = 1 := by simp [Lib.compareInt, h1, h2]
      rw [e]
      go_enter Tryz.func113, Tryz.ntmps113
      go_wp2_with (go_at_call 145; refine (hx _ _).mono ?_; rintro e w' ⟨rfl, rfl⟩)
      go_ret
      exact ⟨rfl, rfl⟩
    · have e : Lib.compareInt x y = 0 := by simp [Lib.compareInt, h1, h2]
      rw [e]
      go_enter Tryz.func113, Tryz.ntmps113
      go_wp2_with (go_at_call 145; refine (hx _ _).mono ?_; rintro e w' ⟨rfl, rfl⟩)
      go_ret
      exact ⟨rfl, rfl⟩

theorem edges_less (x y : Int × Int) (W : World) : Calls Tryz.prog 112 #[.agg #[.int .i32 x.1, .int .i64 x.2], .agg #[.int .i32 y.1, .int .i64 y.2]] W fun e w' => e = .returned (.int .i64 (Lib.compareInt x.1 y.1)) ∧ ∃ q os', w' = grow (W.drewN q) os' := by
  have hcon := fun W' => compare_rune x.1 y.1 W'
  generalize Lib.compareInt x.1 y.1 = r at hcon ⊢
  go_enter Tryz.func112, Tryz.ntmps112
  go_wp2_with (go_at_call 113; refine (hcon _).mono ?_; rintro e w' ⟨rfl, rfl⟩)
  go_ret
  exact ⟨rfl, 0, _, by rw [alloc_eq_grow, alloc_eq_grow, grow_grow]; rfl⟩
theorem ltEdge (x y : Int × Int) : ltOf (fun x y : Int × Int => Lib.compareInt x.1 y.1) x y = decide (x.1 < y.1) := by
  unfold ltOf Lib.compareInt
  by_cases h1 : x.1 < y.1
  · simp [h1]
  · by_cases h2 : y.1 < x.1 <;> simp [h1, h2]
theorem swoEdge : SWO (ltOf fun x y : Int × Int => Lib.compareInt x.1 y.1) where
  irrefl x := by rw [ltEdge]; simp
  trans x y z h1 h2 := by rw [ltEdge] at *; simp at *; omega
  ntrans x y z h1 h2 := by rw [ltEdge] at *; simp at *; omega

/-! ### The empty row -/
theorem insertion_nil (f : Value) (W : World) : Calls Tryz.prog 167 #[.slice none 0 0, .int .i64 0, .int .i64 0, f] W fun e w' => e = .returned (.tuple #[]) ∧ w' = W := by
  go_enter Tryz.func167, Tryz.ntmps167
  go_wp2_with fail
  refine wp_loop_rounds 1 ?_; rw [rounds_succ]
  go_wp2_with fail
  go_end0
  exact ⟨rfl, rfl⟩
theorem pdq_nil (f : Value) (l : Int) (W : World) : Calls Tryz.prog 144 #[.slice none 0 0, .int .i64 0, .int .i64 0, .int .i64 l, f] W fun e w' => e = .returned (.tuple #[]) ∧ w' = W := by
  go_enter Tryz.func144, Tryz.ntmps144
  go_wp2_with fail
  refine wp_loop_rounds 1 ?_; rw [rounds_succ]
  go_wp2_with (go_at_call 167; refine (insertion_nil f _).mono ?_; rintro e w' ⟨rfl, rfl⟩)
  exact bodyPost_ret (results_none rfl _ _ _) rfl ⟨rfl, rfl⟩
theorem sort_nil (f : Value) (W : World) : Calls Tryz.prog 111 #[.slice none 0 0, f] W fun e w' => e = .returned (.tuple #[]) ∧ w' = W := by
  go_enter Tryz.func111, Tryz.ntmps111
  go_wp2_with (first | (go_at_call 93; refine (Tryz.bits_Len 0 _ (by omega) (by omega)).mono ?_; rintro e w' ⟨rfl, rfl⟩) | (go_at_call 144; refine (pdq_nil f _ _).mono ?_; rintro e w' ⟨rfl, rfl⟩))
  go_end0
  exact ⟨rfl, rfl⟩

/-! ### The row -/
theorem heapK {w : World} {g n : Nat} {os : Array Obj} {cur : Array Value} {e : TypeId} {fr : Nat × Nat} (d : Array Value) (hb : w.heap[g]? = some (.cells cur e fr)) :
    (grow (putRow id (Sort.ahead w n) g 0 d) os).heap[g]? = some (.cells (putCells id 0 d cur) e fr) := by
  have hg : g < w.heap.size := (Array.getElem?_eq_some_iff.1 hb).1
  rw [heap_grow_old _ _ (by simpa using hg)]
  simp [putRow, mapBlock, Sort.ahead, Array.getElem?_modify, hb, onCells]
theorem grownBy_K {w : World} {g n : Nat} {os : Array Obj} (d : Array Value) : w.grownBy (grow (putRow id (Sort.ahead w n) g 0 d) os) (some g) := by
  refine ⟨rfl, rfl, rfl, by simp, fun k hk hne => ?_⟩
  rw [heap_grow_old _ _ (by simpa using hk)]
  have : g ≠ k := fun e => hne (by rw [e])
  simp [putRow, mapBlock, Sort.ahead, Array.getElem?_modify, this]
theorem take_putK (cur : Array Value) (ts : List Value) (h : ts.length ≤ cur.size) : (putCells id 0 ts.toArray cur).toList.take ts.length = ts := by
  apply List.ext_getElem?
  intro j
  by_cases hj : j < ts.length
  · rw [List.getElem?_take_of_lt hj, Array.getElem?_toList]
    simp [putCells, hj, show j < cur.size by omega]
  · rw [List.getElem?_take_eq_none (by omega), List.getElem?_eq_none (by omega)]

/-- The sort of a row of edges. -/
theorem sort_edges (es : List (Int × Int)) (B : Nat) (v : Value) (w : World) (ho : w.ownsRow B 166 2 v es.length (flatE es)) (hl : es.length < 4611686018427387904) :
    Calls Tryz.prog 111 #[v, .func (.func 112) #[] #[]] w fun e w' => e = .returned (.tuple #[]) ∧
      ∃ es', es'.Perm es ∧ es'.Pairwise (fun a b => a.1 ≤ b.1) ∧ w'.ownsRow B 166 2 v es'.length (flatE es') ∧ w.grownBy w' v.ownBlock := by
  have ho' := ho
  rcases ho.2 with ⟨rfl, h0⟩ | ⟨g, cap, cur, rfl, hb, hg, h1, h2, h3, h4⟩
  · have : es = [] := List.eq_nil_of_length_eq_zero h0
    subst this
    exact (sort_nil _ w).mono fun e w' h => by obtain ⟨rfl, rfl⟩ := h; exact ⟨rfl, [], List.Perm.refl _, List.Pairwise.nil, ho', grownBy_refl _ _⟩
  · have eg : ∀ args w, (callFunc 112 args).run Tryz.prog w = .ok (.enter 112 args) w := enters_of Tryz.func112 (by kernel_rfl) rfl
    have hH : HoldsK encE 2 w g 0 es.toArray := by
      unfold HoldsK
      rw [flatK_flatE]
      intro j hj
      have hj' : j < es.length * 2 := by rw [← flatE_length]; simpa using hj
      refine ⟨?_, by rw [Nat.zero_add]; exact ho'.frozenAt j⟩
      rw [Nat.zero_add, ho'.cellAt j hj']
      have hj'' : j < (flatE es).length := by rw [flatE_length]; exact hj'
      simp [hj'']
    have hcon := AnyQ.slices_SortFunc Tryz.sortEdges 2 Tryz.isAgg166 Tryz.sizeOf166 encE (fun _ => rfl) (fun x v hv => by simp [encE] at hv; rcases hv with rfl | rfl <;> rfl) (fun x y => Lib.compareInt x.1 y.1) swoEdge 112 #[] g 0 cap es.toArray w eg
      (fun _ _ _ _ x y => edges_less x y _) hH (Array.getElem?_eq_some_iff.1 hg).1 (by simpa using hl)
    refine hcon.mono ?_
    rintro e w' ⟨rfl, d', n, os, hp, hs, rfl⟩
    have hp1 : d'.size = es.length := by simpa using hp.1
    have hpp : d'.toList.Perm es := by
      have := hp.2.2
      simpa [hp1, Array.extract_eq_self_of_le] using this
    refine ⟨rfl, d'.toList, hpp, ?_, ?_, ?_⟩
    · rw [List.pairwise_iff_getElem]
      intro i j hi hj hij
      have := hs i j (Nat.zero_le _) hij (by simpa [hp1] using hj)
      rw [ltEdge, getElem!_pos d' i (by simpa using hi), getElem!_pos d' j (by simpa using hj)] at this
      simp at this ⊢
      exact this
    · have e1 : flatK encE 2 d' = (flatE d'.toList).toArray := by rw [← flatK_flatE, Array.toArray_toList]
      have e2 : d'.toList.length = es.length := by simpa using hp1
      unfold sortWorldK putRowK
      rw [e1]
      refine ⟨by rw [flatE_length], .inr ⟨g, cap, _, by rw [e2], hb, heapK _ hg, by rw [e2]; exact h1, h2, by simp [putCells, h3], ?_⟩⟩
      rw [← flatE_length]
      exact take_putK cur _ (by rw [flatE_length, e2]; omega)
    · exact grownBy_K _
end Go.Proofs.YtnhnldmldnhaoaaGreatDoor

namespace Go.Proofs.YtnhnldmldnhaoaaGreatDoor
open Go Go.RowKit Go.Proofs Go.Shelf

theorem infoEdge : (Tryz.prog.info? 166).map (fun i => (i.zero, i.size, i.bytes)) = some (some (.agg #[.int .i32 0, .int .i64 0]), 2, 16) := by kernel_rfl

/-- Slices of ranges, one behind the other. -/
def ListsAt (w : World) (B : Nat) (ls : List (List (Int × Int))) (b : Nat) : Prop :=
  ∀ j (h : j < ls.length), ∃ sa sn sc, w.cell? ⟨b, j, none⟩ = some (.slice sa sn sc) ∧ RangesV w B ls[j] sa sn sc

def edgesOf (ls : List (List (Int × Int))) : List (Int × Int) := ls.flatMap edgesL
theorem edgesOf_snoc (a : List (List (Int × Int))) (x : List (Int × Int)) : edgesOf (a ++ [x]) = edgesOf a ++ edgesL x := by simp [edgesOf]
theorem edgesL_snoc (a : List (Int × Int)) (l h : Int) : edgesL (a ++ [(l, h)]) = edgesL a ++ (if max l 0 ≤ min h 1114111 then [(max l 0, 1), (min h 1114111 + 1, -1)] else []) := by
  rw [edges_append]; simp [edgesL]
theorem take_snoc {α} (l : List α) (k : Nat) (h : k < l.length) : l.take (k + 1) = l.take k ++ [l[k]] := by simp

theorem edgesOf_split (ls : List (List (Int × Int))) (k : Nat) (h : k < ls.length) : edgesOf ls = edgesOf (ls.take k) ++ (edgesL ls[k] ++ edgesOf (ls.drop (k + 1))) := by
  have e : ls = ls.take k ++ (ls[k] :: ls.drop (k + 1)) := by rw [← List.drop_eq_getElem_cons h, List.take_append_drop]
  calc edgesOf ls = edgesOf (ls.take k ++ (ls[k] :: ls.drop (k + 1))) := by rw [← e]
    _ = _ := by unfold edgesOf; rw [List.flatMap_append, List.flatMap_cons]
theorem cells_four_new (w : World) (a b c d : Value) (t : TypeId) : ∀ j u, [a, b, c, d][j]? = some u → (w.alloc (.cells #[a, b, c, d] t)).cell? ((⟨w.heap.size, 0, none⟩ : Addr).add j) = some u := by
  intro j u hj
  match j, hj with
  | 0, hj => simp at hj; subst hj; simp [Addr.add]
  | 1, hj => simp at hj; subst hj; simp [Addr.add]
  | 2, hj => simp at hj; subst hj; simp [Addr.add]
  | 3, hj => simp at hj; subst hj; simp [Addr.add]
  | j + 4, hj => simp at hj

set_option maxRecDepth 100000 in
set_option maxHeartbeats 1000000 in
theorem edges_any (ls : List (List (Int × Int))) (b c B : Nat) (w : World) (h : ListsAt w B ls b) (hb : b < w.heap.size) (hB : B ≤ w.heap.size) (hn : ls.length ≤ 1000) (hN : (edgesOf ls).length ≤ 4000000000000) :
    Calls Tryz.prog 87 #[.slice (some ⟨b, 0, none⟩) ls.length c] w fun e w' => ∃ v es, e = .returned v ∧ es.Perm (edgesOf ls) ∧ es.Pairwise (fun a b => a.1 ≤ b.1) ∧
      w'.ownsRow w.heap.size 166 2 v es.length (flatE es) ∧ Below w.heap.size w w' := by
  obtain ⟨i0, hi, hz0, hz1, hz2⟩ := info_parts infoEdge
  have H := Lib.hid h; clear h
  go_enter Tryz.func87, Tryz.ntmps87
  go_wp2_with fail
  go_loopw [3, 12] (fun v i wr => ∃ k : Nat, k ≤ ls.length ∧ i = .int .i64 k ∧ wr.ownsRow w.heap.size 166 2 v (edgesOf (ls.take k)).length (flatE (edgesOf (ls.take k))) ∧ Below w.heap.size w wr) (fun _ i _ => ls.length - (intOf i).toNat)
  case atStart => exact ⟨0, Nat.zero_le _, rfl, by simpa [edgesOf, flatE] using World.ownsRow_nil _ _ _ _, Below.refl _ _⟩
  case round =>
    obtain ⟨k, hk, rfl, ho, hbw⟩ := hrel
    by_cases hlt : k < ls.length
    · obtain ⟨sa, sn, sc, hc, hR⟩ := H.out k hlt
      have hc' := cell_lift hbw hb hc
      have HSN := Lib.hid hR.1
      have HR := Lib.hid hR.2
      have HT := Lib.hid (take_snoc ls k hlt)
      have HO := Lib.hid ho; have HB := Lib.hid hbw
      clear hc hR ho hbw
      go_wp2_with fail
      go_loopw [3, 18] (fun v i wr => ∃ k2 : Nat, k2 ≤ ls[k].length ∧ i = .int .i64 k2 ∧ wr.ownsRow w.heap.size 166 2 v (edgesOf (ls.take k) ++ edgesL (ls[k].take k2)).length (flatE (edgesOf (ls.take k) ++ edgesL (ls[k].take k2))) ∧ Below w.heap.size w wr) (fun _ i _ => ls[k].length - (intOf i).toNat)
      case atStart => exact ⟨0, Nat.zero_le _, rfl, by simpa [edgesL] using HO.out, HB.out⟩
      case round =>
        obtain ⟨k2, hk2, rfl, ho2, hbi⟩ := hrel
        have hsn := HSN.out
        have hsn2 := HR.out.1.2
        have HOI := Lib.hid ho2; have HBI := Lib.hid hbi; have HBS := Lib.hid hbi.size
        clear ho2 hbi
        by_cases hlt2 : k2 < ls[k].length
        · rcases HR.out.2 with h0 | ⟨b2, o2, rfl, hb2B, hRA⟩
          · omega
          · obtain ⟨g1, g2⟩ := (hRA.below (HBI.out.mono hB) hb2B).get k2 hlt2
            have HS2 := Lib.hid (show edgesL (ls[k].take (k2 + 1)) = edgesL (ls[k].take k2) ++ (if max ls[k][k2].1 0 ≤ min ls[k][k2].2 1114111 then [(max ls[k][k2].1 0, 1), (min ls[k][k2].2 1114111 + 1, -1)] else []) by
              rw [take_snoc _ _ hlt2]; exact edgesL_snoc _ _ _)
            have HNL := Lib.hid (show ((edgesOf (ls.take k) ++ edgesL (ls[k].take k2)) ++ (if max ls[k][k2].1 0 ≤ min ls[k][k2].2 1114111 then [(max ls[k][k2].1 0, (1 : Int)), (min ls[k][k2].2 1114111 + 1, -1)] else [])).length ≤ 4000000000000 from by
              refine Nat.le_trans ?_ hN
              rw [List.append_assoc, ← HS2.out, edgesOf_split ls k hlt]
              have e2 : edgesL ls[k] = edgesL (ls[k].take (k2 + 1)) ++ edgesL (ls[k].drop (k2 + 1)) := by rw [← edges_append, List.take_append_drop]
              rw [e2]; simp only [List.length_append]; omega)
            obtain ⟨es, hes⟩ : ∃ es, es = edgesOf (ls.take k) ++ edgesL (ls[k].take k2) := ⟨_, rfl⟩
            rw [← hes] at HOI HNL
            obtain ⟨l, hll⟩ : ∃ l, ls[k][k2].1 = l := ⟨_, rfl⟩
            obtain ⟨h, hhh⟩ : ∃ h, ls[k][k2].2 = h := ⟨_, rfl⟩
            rw [hll] at g1 HS2 HNL; rw [hhh] at g2 HS2 HNL
            have HES := Lib.hid hes
            clear hRA hll hhh hes
            have hlt3 : k2 < sn := by omega
            clear hsn
            go_wp2_with fail
            go_region
            have HO3 := Lib.hid (show (wr.alloc (.cells #[.int .i32 l, .int .i32 h] 61)).drew.ownsRow w.heap.size 166 2 u3 es.length (flatE es) from (HOI.out.alloc _))
            have HB3 := Lib.hid (below_drewN (HBI.out.alloc HBS.out (.cells #[.int .i32 l, .int .i32 h] 61)) 1)
            obtain ⟨W1, hW1⟩ : ∃ W1, (wr.alloc (.cells #[.int .i32 l, .int .i32 h] 61)).drew = W1 := ⟨_, rfl⟩
            have HB4 := Lib.hid (show Below w.heap.size w W1 from hW1 ▸ HB3.out)
            rw [hW1] at HO3 ⊢
            obtain ⟨lo, hlo⟩ : ∃ lo, max l 0 = lo := ⟨_, rfl⟩
            obtain ⟨hi', hhi⟩ : ∃ hi', min h 1114111 = hi' := ⟨_, rfl⟩
            have hr1 : 0 ≤ lo := by omega
            have hr2 : hi' ≤ 1114111 := by omega
            rw [hlo, hhi] at HS2 HNL ⊢
            clear hW1 HB3 hlo hhi g1 g2
            by_cases c3 : lo ≤ hi'
            · have hwr : IntKind.i32.wrap (hi' + 1) = hi' + 1 := IntWalk.i32_in _ (by omega)
              rw [if_pos c3] at HS2 HNL
              have hle : es.length + 2 ≤ 4000000000000 := by have := HNL.out; simpa using this
              have hW1s := HB4.out.size
              go_wp2_with (at_builtin; refine wpList_append_own _ rfl _ _ 133 rfl w.heap.size 166 i0 (.agg #[.int .i32 0, .int .i64 0]) 2 16 Tryz.underlying133 hi hz0 hz1 hz2 rfl (by decide) _ _ _ rfl (HO3.out.alloc _) ⟨W1.heap.size, 0, none⟩ 2 2 [.int .i32 lo, .int .i64 1, .int .i32 (hi' + 1), .int .i64 (-1)] rfl rfl (cells_four_new _ _ _ _ _ _) (fun x hx => by simp at hx; rcases hx with rfl | rfl | rfl | rfl <;> rfl) (by unfold maxLen; omega) (by omega) (by simp; omega) ?_; intro v' w3 hown' hgrow3 hnil3; have X := Lib.hid (And.intro hown' (show Below w.heap.size w w3 from Below.grown (HB4.out.alloc hW1s _) hgrow3 (by simp; omega) (fun j hj => (HO3.out.lt j hj).1))); clear hown' hgrow3 hnil3)
              go_roundw
              case rel =>
                refine ⟨k2 + 1, hlt2, by go_num, ?_, X.out.2⟩
                rw [HS2.out, ← List.append_assoc, ← HES.out, flatE_append, List.length_append]
                exact X.out.1
              case measure => simp [intOf]; omega
            · rw [if_neg c3, List.append_nil] at HS2
              go_wp2_with fail
              go_roundw
              case rel =>
                refine ⟨k2 + 1, hlt2, by go_num, ?_, HB4.out⟩
                rw [HS2.out, ← HES.out]
                exact HO3.out
              case measure => simp [intOf]; omega
        · have hk2' : k2 = ls[k].length := by omega
          subst hk2'
          rw [List.take_length] at HOI
          have hlt3 : ¬ ls[k].length < sn := by omega
          clear hsn
          go_wp2_with fail
          go_roundw
          case rel =>
            refine ⟨k + 1, hlt, by go_num, ?_, HBI.out⟩
            rw [HT.out, edgesOf_snoc]
            exact HOI.out
          case measure => simp [intOf]; omega
    · have hk' : k = ls.length := by omega
      subst hk'
      rw [List.take_length] at ho
      have HO := Lib.hid ho; have HB := Lib.hid hbw
      clear ho hbw
      go_wp2_with fail
      refine (sort_edges _ _ _ _ HO.out (by omega)).mono ?_
      rintro e w2 ⟨rfl, es', hp, hs, ho2, hg⟩
      have HX := Lib.hid (And.intro hp (And.intro hs ho2)); have HG := Lib.hid hg
      clear hp hs ho2 hg
      go_wp2_with fail
      go_ret
      exact ⟨_, es', rfl, HX.out.1, HX.out.2.1, HX.out.2.2, HB.out.grown HG.out HB.out.size (fun j hj => (HO.out.lt j hj).1)⟩
end Go.Proofs.YtnhnldmldnhaoaaGreatDoor

namespace Go.Proofs.YtnhnldmldnhaoaaGreatDoor
open Go Go.RowKit Go.Proofs Go.Shelf
attribute [local go_sem] Oper.semAt_some

mutual
/-- All of a tree's parts, in order. -/
def parts : T → List T
  | .mk op kids rune set pl cap name mn mx lz => .mk op kids rune set pl cap name mn mx lz :: partsL kids
def partsL : List T → List T
  | [] => []
  | t :: ts => parts t ++ partsL ts
end
/-- What a round keeps: what lay below a block; the trees' boxes that lie at or beyond another. -/
def KpT (n₀ L : Nat) (W W' : World) : Prop := Below n₀ W W' ∧ ∀ b, L ≤ b → ∀ (cs : Array Value) (z : Nat × Nat), W.heap[b]? = some (.cells cs 29 z) → W'.heap[b]? = W.heap[b]?
theorem KpT.refl (n₀ L : Nat) (W : World) : KpT n₀ L W W := ⟨Below.refl _ _, fun _ _ _ _ _ => rfl⟩
theorem KpT.trans {n₀ L : Nat} {A B C : World} (h : KpT n₀ L A B) (k : KpT n₀ L B C) : KpT n₀ L A C := by
  refine ⟨h.1.trans k.1, fun b hb cs z ho => ?_⟩
  have h1 := h.2 b hb cs z ho
  exact (k.2 b hb cs z (by rw [h1]; exact ho)).trans h1
theorem KpT.alloc {n₀ L : Nat} {W : World} (h : n₀ ≤ W.heap.size) (o : Obj) : KpT n₀ L W (W.alloc o) :=
  ⟨(Below.refl _ W).alloc h o, fun b _ _ _ ho => Below.heap_alloc W o b (Array.getElem?_eq_some_iff.1 ho).1⟩
theorem KpT.book {n₀ L : Nat} {w : World} (hn : n₀ ≤ w.heap.size) (W : World) (l : Nat) (o o' : Obj) (hl : w.heap.size ≤ l) (h : W.heap[l]? = some o) (hc : o.isCells = false) (hw : o.isWalk = false) : KpT n₀ L W (W.putObj l o') := by
  refine ⟨belowK_b hn W l o o' hl h hc hw, fun b _ cs z hp => ?_⟩
  have hne : b ≠ l := fun e => by rw [e, h] at hp; cases hp; cases hc
  exact (grownBy_putObj' W l o').block b (Array.getElem?_eq_some_iff.1 hp).1 (fun e => hne (Option.some.inj e))
/-- A box of cells at or beyond it. -/
theorem KpT.row {n₀ L : Nat} {W W' : World} (h : KpT n₀ L W W') {b : Nat} (hb : L ≤ b) {cs : Array Value} {z : Nat × Nat} (hc : W.heap[b]? = some (.cells cs 29 z)) : W'.heap[b]? = some (.cells cs 29 z) :=
  (h.2 b hb _ _ hc).trans hc

end Go.Proofs.YtnhnldmldnhaoaaGreatDoor
