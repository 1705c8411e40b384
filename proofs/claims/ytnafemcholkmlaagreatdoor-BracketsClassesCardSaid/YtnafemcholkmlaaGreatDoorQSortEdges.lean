/- The edges sorted by where they are: slices.SortFunc at sets.edge, with sets.edges' own closure. -/
import Derived.Test.YtnafemcholkmlaaGreatDoorQSetsPure
import Derived.Test.YtnafemcholkmlaaGreatDoorQBlk
import Derived.Test.YtnafemcholkmlaaGreatDoorShelf
import Derived.Test.YtnafemcholkmlaaGreatDoorShelfB
import Derived.Shelf.SlSortCmp.WholeK
import Derived.WalkKit
import Derived.Lib.Hide
import Derived.WalkSpells
import Derived.WalkLawsBesides
import Derived.LoopN
import Derived.LoopTactic
namespace Go.Proofs.YtnafemcholkmlaaGreatDoor
open Go Go.RowKit Go.Proofs Go.Shelf Go.Lib Go.Sort

/-- An edge's two cells. -/
def encE (x : Int × Int) : List Value := [.int .i32 x.1, .int .i64 x.2]
def flatE (es : List (Int × Int)) : List Value := es.flatMap encE
theorem flatE_length (es : List (Int × Int)) : (flatE es).length = es.length * 2 := by
  induction es with
  | nil => rfl
  | cons x es ih => simp only [flatE, List.flatMap_cons, List.length_append, List.length_cons] at ih ⊢; rw [ih]; simp [encE]; omega
theorem flatE_append (a b : List (Int × Int)) : flatE (a ++ b) = flatE a ++ flatE b := by simp [flatE]
theorem flatE_get : ∀ (es : List (Int × Int)) (j : Nat) (h : j < es.length * 2), (flatE es)[j]? = some (encE (es[j / 2]'(by omega)))[j % 2]!
  | [], j, h => by simp at h
  | x :: es, j, h => by
    rw [show flatE (x :: es) = encE x ++ flatE es by simp [flatE]]
    by_cases h2 : j < 2
    · match j, h2 with
      | 0, _ => simp [encE]
      | 1, _ => simp [encE]
    · obtain ⟨i, rfl⟩ : ∃ i, j = i + 2 := ⟨j - 2, by omega⟩
      have h3 : i < es.length * 2 := by simp at h; omega
      rw [List.getElem?_append_right (by simp [encE])]
      rw [show i + 2 - (encE x).length = i by simp [encE]]
      rw [flatE_get es i h3]
      have e1 : (i + 2) / 2 = i / 2 + 1 := by omega
      have e2 : (i + 2) % 2 = i % 2 := by omega
      simp only [e1, e2, List.getElem_cons_succ]
theorem flatK_flatE (es : List (Int × Int)) : flatK encE 2 es.toArray = (flatE es).toArray := by
  apply Array.ext_getElem?
  intro t
  by_cases h : t < es.length * 2
  · rw [show (flatE es).toArray[t]? = (flatE es)[t]? from List.getElem?_toArray ..,  flatE_get es t h]
    have h0 : t < (flatK encE 2 es.toArray).size := by simpa using h
    rw [Array.getElem?_eq_getElem h0, ← getElem!_pos _ t h0, get_flatK _ _ _ t (by simpa using h)]
    simp [show t / 2 < es.length by omega]
  · rw [Array.getElem?_eq_none (by simp; omega), Array.getElem?_eq_none (by simp [flatE_length]; omega)]

theorem isNaN_rune (x : Int) (W : World) : Calls Tryz.prog 89 #[.int .i32 x] W fun e w' => e = .returned (.bool false) ∧ w' = W := by
  go_enter Tryz.func89, Tryz.ntmps89
  go_wp2
  go_ret
  exact ⟨by simp, rfl⟩
theorem compare_rune (x y : Int) (W : World) : Calls Tryz.prog 62 #[.int .i32 x, .int .i32 y] W fun e w' => e = .returned (.int .i64 (Lib.compareInt x y)) ∧ w' = W := by
  have hx := fun z w => isNaN_rune z w
  by_cases h1 : x < y
  · have e : Lib.compareInt x y = -1 := by simp [Lib.compareInt, h1]
    rw [e]
    go_enter Tryz.func62, Tryz.ntmps62
    go_wp2_with (go_at_call 89; refine (hx _ _).mono ?_; rintro e w' ⟨rfl, rfl⟩)
    go_ret
    exact ⟨rfl, rfl⟩
  · by_cases h2 : y < x
    · have e : Lib.compareInt x y = 1 := by simp [Lib.compareInt, h1, h2]
      rw [e]
      go_enter Tryz.func62, Tryz.ntmps62
      go_wp2_with (go_at_call 89; refine (hx _ _).mono ?_; rintro e w' ⟨rfl, rfl⟩)
      go_ret
      exact ⟨rfl, rfl⟩
    · have e : Lib.compareInt x y = 0 := by simp [Lib.compareInt, h1, h2]
      rw [e]
      go_enter Tryz.func62, Tryz.ntmps62
      go_wp2_with (go_at_call 89; refine (hx _ _).mono ?_; rintro e w' ⟨rfl, rfl⟩)
      go_ret
      exact ⟨rfl, rfl⟩

theorem edges_less (x y : Int × Int) (W : World) : Calls Tryz.prog 61 #[.agg #[.int .i32 x.1, .int .i64 x.2], .agg #[.int .i32 y.1, .int .i64 y.2]] W fun e w' => e = .returned (.int .i64 (Lib.compareInt x.1 y.1)) ∧ ∃ q os', w' = grow (W.drewN q) os' := by
  have hcon := fun W' => compare_rune x.1 y.1 W'
  generalize Lib.compareInt x.1 y.1 = r at hcon ⊢
  go_enter Tryz.func61, Tryz.ntmps61
  go_wp2_with (go_at_call 62; refine (hcon _).mono ?_; rintro e w' ⟨rfl, rfl⟩)
  go_ret
  exact ⟨rfl, 0, _, by rw [alloc_eq_grow, alloc_eq_grow, grow_grow]; rfl⟩
theorem ltEdge (x y : Int × Int) : ltOf (fun x y : Int × Int => Lib.compareInt x.1 y.1) x y = decide (x.1 < y.1) := by
  unfold ltOf Lib.compareInt
  by_cases h1 : x.1 < y.1
  · simp [h1]
  · by_cases h2 : y.1 < x.1 <;> simp [h1, h2]
theorem swoEdge : SWO (ltOf fun x y : Int × Int => Lib.compareInt x.1 y.1) where
  irrefl x := by rw [ltEdge]; simp
  trans x y z h1 h2 := by rw [ltEdge] at *; simp at *; omega
  ntrans x y z h1 h2 := by rw [ltEdge] at *; simp at *; omega

/-! ### The empty row -/
theorem insertion_nil (f : Value) (W : World) : Calls Tryz.prog 124 #[.slice none 0 0, .int .i64 0, .int .i64 0, f] W fun e w' => e = .returned (.tuple #[]) ∧ w' = W := by
  go_enter Tryz.func124, Tryz.ntmps124
  go_wp2_with fail
  refine wp_loop_rounds 1 ?_; rw [rounds_succ]
  go_wp2_with fail
  go_end0
  exact ⟨rfl, rfl⟩
theorem pdq_nil (f : Value) (l : Int) (W : World) : Calls Tryz.prog 88 #[.slice none 0 0, .int .i64 0, .int .i64 0, .int .i64 l, f] W fun e w' => e = .returned (.tuple #[]) ∧ w' = W := by
  go_enter Tryz.func88, Tryz.ntmps88
  go_wp2_with fail
  refine wp_loop_rounds 1 ?_; rw [rounds_succ]
  go_wp2_with (go_at_call 124; refine (insertion_nil f _).mono ?_; rintro e w' ⟨rfl, rfl⟩)
  exact bodyPost_ret (results_none rfl _ _ _) rfl ⟨rfl, rfl⟩
theorem sort_nil (f : Value) (W : World) : Calls Tryz.prog 60 #[.slice none 0 0, f] W fun e w' => e = .returned (.tuple #[]) ∧ w' = W := by
  go_enter Tryz.func60, Tryz.ntmps60
  go_wp2_with (first | (go_at_call 86; refine (Tryz.bits_Len 0 _ (by omega) (by omega)).mono ?_; rintro e w' ⟨rfl, rfl⟩) | (go_at_call 88; refine (pdq_nil f _ _).mono ?_; rintro e w' ⟨rfl, rfl⟩))
  go_end0
  exact ⟨rfl, rfl⟩

/-! ### The row -/
theorem heapK {w : World} {g n : Nat} {os : Array Obj} {cur : Array Value} {e : TypeId} {fr : Nat × Nat} (d : Array Value) (hb : w.heap[g]? = some (.cells cur e fr)) :
    (grow (putRow id (Sort.ahead w n) g 0 d) os).heap[g]? = some (.cells (putCells id 0 d cur) e fr) := by
  have hg : g < w.heap.size := (Array.getElem?_eq_some_iff.1 hb).1
  rw [heap_grow_old _ _ (by simpa using hg)]
  simp [putRow, mapBlock, Sort.ahead, Array.getElem?_modify, hb, onCells]
theorem grownBy_K {w : World} {g n : Nat} {os : Array Obj} (d : Array Value) : w.grownBy (grow (putRow id (Sort.ahead w n) g 0 d) os) (some g) := by
  refine ⟨rfl, rfl, rfl, by simp, fun k hk hne => ?_⟩
  rw [heap_grow_old _ _ (by simpa using hk)]
  have : g ≠ k := fun e => hne (by rw [e])
  simp [putRow, mapBlock, Sort.ahead, Array.getElem?_modify, this]
theorem take_putK (cur : Array Value) (ts : List Value) (h : ts.length ≤ cur.size) : (putCells id 0 ts.toArray cur).toList.take ts.length = ts := by
  apply List.ext_getElem?
  intro j
  by_cases hj : j < ts.length
  · rw [List.getElem?_take_of_lt hj, Array.getElem?_toList]
    simp [putCells, hj, show j < cur.size by omega]
  · rw [List.getElem?_take_eq_none (by omega), List.getElem?_eq_none (by omega)]

/-- The sort of a row of edges. -/
theorem sort_edges (es : List (Int × Int)) (B : Nat) (v : Value) (w : World) (ho : w.ownsRow B 97 2 v es.length (flatE es)) (hl : es.length < 4611686018427387904) :
    Calls Tryz.prog 60 #[v, .func (.func 61) #[] #[]] w fun e w' => e = .returned (.tuple #[]) ∧
      ∃ es', es'.Perm es ∧ es'.Pairwise (fun a b => a.1 ≤ b.1) ∧ w'.ownsRow B 97 2 v es'.length (flatE es') ∧ w.grownBy w' v.ownBlock := by
  have ho' := ho
  rcases ho.2 with ⟨rfl, h0⟩ | ⟨g, cap, cur, rfl, hb, hg, h1, h2, h3, h4⟩
  · have : es = [] := List.eq_nil_of_length_eq_zero h0
    subst this
    exact (sort_nil _ w).mono fun e w' h => by obtain ⟨rfl, rfl⟩ := h; exact ⟨rfl, [], List.Perm.refl _, List.Pairwise.nil, ho', grownBy_refl _ _⟩
  · have eg : ∀ args w, (callFunc 61 args).run Tryz.prog w = .ok (.enter 61 args) w := enters_of Tryz.func61 (by kernel_rfl) rfl
    have hH : HoldsK encE 2 w g 0 es.toArray := by
      unfold HoldsK
      rw [flatK_flatE]
      intro j hj
      have hj' : j < es.length * 2 := by rw [← flatE_length]; simpa using hj
      refine ⟨?_, by rw [Nat.zero_add]; exact ho'.frozenAt j⟩
      rw [Nat.zero_add, ho'.cellAt j hj']
      have hj'' : j < (flatE es).length := by rw [flatE_length]; exact hj'
      simp [hj'']
    have hcon := AnyQ.slices_SortFunc Tryz.sortEdges 2 Tryz.isAgg97 Tryz.sizeOf97 encE (fun _ => rfl) (fun x v hv => by simp [encE] at hv; rcases hv with rfl | rfl <;> rfl) (fun x y => Lib.compareInt x.1 y.1) swoEdge 61 #[] g 0 cap es.toArray w eg
      (fun _ _ _ _ x y => edges_less x y _) hH (Array.getElem?_eq_some_iff.1 hg).1 (by simpa using hl)
    refine hcon.mono ?_
    rintro e w' ⟨rfl, d', n, os, hp, hs, rfl⟩
    have hp1 : d'.size = es.length := by simpa using hp.1
    have hpp : d'.toList.Perm es := by
      have := hp.2.2
      simpa [hp1, Array.extract_eq_self_of_le] using this
    refine ⟨rfl, d'.toList, hpp, ?_, ?_, ?_⟩
    · rw [List.pairwise_iff_getElem]
      intro i j hi hj hij
      have := hs i j (Nat.zero_le _) hij (by simpa [hp1] using hj)
      rw [ltEdge, getElem!_pos d' i (by simpa using hi), getElem!_pos d' j (by simpa using hj)] at this
      simp at this ⊢
      exact this
    · have e1 : flatK encE 2 d' = (flatE d'.toList).toArray := by rw [← flatK_flatE, Array.toArray_toList]
      have e2 : d'.toList.length = es.length := by simpa using hp1
      unfold sortWorldK putRowK
      rw [e1]
      refine ⟨by rw [flatE_length], .inr ⟨g, cap, _, by rw [e2], hb, heapK _ hg, by rw [e2]; exact h1, h2, by simp [putCells, h3], ?_⟩⟩
      rw [← flatE_length]
      exact take_putK cur _ (by rw [flatE_length, e2]; omega)
    · exact grownBy_K _
end Go.Proofs.YtnafemcholkmlaaGreatDoor
