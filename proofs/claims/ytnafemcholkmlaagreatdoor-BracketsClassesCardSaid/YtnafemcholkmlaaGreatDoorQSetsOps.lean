/- Sets of runes: sets.Union, Norm, as contracts. -/
import Derived.Test.YtnafemcholkmlaaGreatDoorQThose
import Derived.Lib.SmallJoins
namespace Go.Proofs.YtnafemcholkmlaaGreatDoor
open Go Go.RowKit Go.Proofs Go.Shelf

theorem EdgesV.of_row {w : World} {base : Nat} {es : List (Int × Int)} {v : Value} (h : w.ownsRow base 97 2 v es.length (flatE es)) : ∃ sa sc, v = .slice sa es.length sc ∧ EdgesV w w.heap.size es sa := by
  have h' := h
  rcases h.2 with ⟨rfl, h0⟩ | ⟨g, cap, cur, rfl, hb, hg, _⟩
  · exact ⟨none, 0, by rw [h0], .inl (List.eq_nil_of_length_eq_zero h0)⟩
  · refine ⟨_, _, rfl, .inr ⟨g, rfl, (Array.getElem?_eq_some_iff.1 hg).1, fun j hj => ⟨?_, ?_⟩⟩⟩
    · rw [h'.cellAt (j * 2) (by omega), flatE_get es _ (by omega)]
      have e1 : j * 2 / 2 = j := by omega
      have e2 : j * 2 % 2 = 0 := by omega
      simp only [e1, e2]; simp [encE]
    · rw [h'.cellAt (j * 2 + 1) (by omega), flatE_get es _ (by omega)]
      have e1 : (j * 2 + 1) / 2 = j := by omega
      have e2 : (j * 2 + 1) % 2 = 1 := by omega
      simp only [e1, e2]; simp [encE]

/-- A slice that a function has laid: a list of ranges. -/
def Laid (w w' : World) (out : List (Int × Int)) (v : Value) : Prop := w'.ownsRow w.heap.size 43 2 v out.length (flatR out)

theorem RangesAt.of_cells {w : World} {b : Nat} : ∀ (rs : List (Int × Int)) (o : Nat), (∀ j (h : j < rs.length), w.cell? ⟨b, o + j * 2, none⟩ = some (.int .i32 rs[j].1) ∧ w.cell? ⟨b, o + j * 2 + 1, none⟩ = some (.int .i32 rs[j].2)) → RangesAt w rs b o
  | [], _, _ => trivial
  | (l, h) :: rs, o, hc => by
    have h0 := hc 0 (by simp)
    simp only [List.getElem_cons_zero, Nat.zero_mul, Nat.add_zero] at h0
    refine ⟨h0.1, h0.2, RangesAt.of_cells rs (o + 2) fun j hj => ?_⟩
    have h1 := hc (j + 1) (by simpa using hj)
    have e1 : o + (j + 1) * 2 = o + 2 + j * 2 := by omega
    rw [e1] at h1
    simpa using h1
theorem flatR_get : ∀ (rs : List (Int × Int)) (j : Nat) (h : j < rs.length), (flatR rs)[j * 2]? = some (.int .i32 rs[j].1) ∧ (flatR rs)[j * 2 + 1]? = some (.int .i32 rs[j].2)
  | x :: rs, 0, _ => by simp [flatR]
  | x :: rs, j + 1, h => by
    have := flatR_get rs j (by simpa using h)
    have e1 : (j + 1) * 2 = j * 2 + 1 + 1 := by omega
    rw [show flatR (x :: rs) = .int .i32 x.1 :: .int .i32 x.2 :: flatR rs by simp [flatR], e1]
    simpa using this
theorem Laid.ranges {w w' : World} {out : List (Int × Int)} {v : Value} (h : Laid w w' out v) (hN : out.length ≤ 140737488351232) : ∃ sa sc, v = .slice sa out.length sc ∧ RangesV w' w'.heap.size out sa out.length sc ∧ (out = [] ∨ ∃ g, sa = some ⟨g, 0, none⟩) := by
  have h' := h
  rcases h.2 with ⟨rfl, h0⟩ | ⟨g, cap, cur, rfl, hb, hg, hc, _⟩
  · exact ⟨none, 0, by rw [h0], ⟨rfl, ⟨by omega, hN⟩, .inl h0⟩, .inl (List.eq_nil_of_length_eq_zero h0)⟩
  · refine ⟨_, _, rfl, ⟨rfl, ⟨hc, hN⟩, .inr ⟨g, 0, rfl, (Array.getElem?_eq_some_iff.1 hg).1, RangesAt.of_cells out 0 fun j hj => ?_⟩⟩, .inr ⟨g, rfl⟩⟩
    have hf := flatR_get out j hj
    have h' : w'.ownsRow w.heap.size 43 2 (.slice (some ⟨g, 0, none⟩) out.length cap) out.length (flatR out) := h'
    rw [Nat.zero_add, h'.cellAt (j * 2) (by omega), h'.cellAt (j * 2 + 1) (by omega)]
    exact hf

theorem thoseL_length (is : Int → Bool) (sp : List ((Int × Int) × Int)) : (thoseL is sp).length ≤ sp.length := by
  have key : ∀ (sp : List ((Int × Int) × Int)) (out : List (Int × Int)), (sp.foldl (stepT is) out).length ≤ out.length + sp.length := by
    intro sp
    induction sp with
    | nil => intro out; simp
    | cons x sp ih =>
      intro out
      refine Nat.le_trans (ih _) ?_
      have : (stepT is out x).length ≤ out.length + 1 := by
        unfold stepT; split
        · exact pushT_length _ _
        · omega
      simp only [List.length_cons]; omega
  simpa [thoseL] using key sp []

theorem edgesOf_flatten : ∀ ls : List (List (Int × Int)), edgesOf ls = edgesL ls.flatten
  | [] => rfl
  | a :: l => by
    have := edgesOf_flatten l
    unfold edgesOf at this ⊢
    rw [List.flatMap_cons, List.flatten_cons, edges_append, this]
theorem edgesOf_length (ls : List (List (Int × Int))) : (edgesOf ls).length ≤ 2 * ls.flatten.length := by
  rw [edgesOf_flatten]; exact edges_length _

/-- What those edges told. -/
theorem swept (is : Int → Bool) (ls : List (List (Int × Int))) (es : List (Int × Int)) (hp : es.Perm (edgesOf ls)) (hs : es.Pairwise fun a b => a.1 ≤ b.1) :
    setRight (thoseL is (spansL 0 0 es)) = true ∧ (∀ c, memR (thoseL is (spansL 0 0 es)) c = (decide (0 ≤ c) && decide (c ≤ 1114111) && is (coverN c ls.flatten))) ∧ (thoseL is (spansL 0 0 es)).length ≤ 2 * ls.flatten.length + 1 ∧
      (∀ e ∈ es, 0 ≤ e.1 ∧ e.1 ≤ 1114112 ∧ (e.2 = 1 ∨ e.2 = -1)) := by
  rw [edgesOf_flatten] at hp
  obtain ⟨h1, h2⟩ := sweep is _ es hp hs
  refine ⟨h1, h2, ?_, fun x hx => edges_bound _ x (hp.mem_iff.1 hx)⟩
  have l1 := thoseL_length is (spansL 0 0 es)
  have l2 := spansL_length es 0 0
  have l3 := hp.length_eq
  have l4 := edges_length ls.flatten
  omega

theorem ListsAt.one {w : World} {B : Nat} {rs : List (Int × Int)} {sa : Option Addr} {sn sc : Nat} (hB : B ≤ w.heap.size) (h : RangesV w B rs sa sn sc) (t : TypeId) : ListsAt (w.alloc (.cells #[.slice sa sn sc] t)) B [rs] w.heap.size := by
  intro j hj
  obtain rfl : j = 0 := by simpa using hj
  exact ⟨sa, sn, sc, (Blk.new w [.slice sa sn sc] t).cell (j := 0) rfl, h.below ((Below.refl _ w).alloc hB _)⟩
theorem ListsAt.two {w : World} {B : Nat} {r1 r2 : List (Int × Int)} {a1 a2 : Option Addr} {n1 c1 n2 c2 : Nat} (hB : B ≤ w.heap.size) (h1 : RangesV w B r1 a1 n1 c1) (h2 : RangesV w B r2 a2 n2 c2) (t : TypeId) : ListsAt (w.alloc (.cells #[.slice a1 n1 c1, .slice a2 n2 c2] t)) B [r1, r2] w.heap.size := by
  intro j hj
  match j, hj with
  | 0, _ => exact ⟨a1, n1, c1, (Blk.new w [.slice a1 n1 c1, .slice a2 n2 c2] t).cell (j := 0) rfl, h1.below ((Below.refl _ w).alloc hB _)⟩
  | 1, _ => exact ⟨a2, n2, c2, (Blk.new w [.slice a1 n1 c1, .slice a2 n2 c2] t).cell (j := 1) rfl, h2.below ((Below.refl _ w).alloc hB _)⟩

/-- What a function on sets hands back. -/
def SetOf (w : World) (p : Int → Bool) (N : Nat) (e : Ending) (w' : World) : Prop :=
  ∃ v out, e = .returned v ∧ Laid w w' out v ∧ setRight out = true ∧ (∀ c, memR out c = (decide (0 ≤ c) && decide (c ≤ 1114111) && p c)) ∧ out.length ≤ N ∧ Below w.heap.size w w'

theorem union_is (n : Int) (W : World) : Calls Tryz.prog 53 #[.int .i64 n] W fun e w' => e = .returned (.bool (decide (0 < n))) ∧ Below W.heap.size W w' := by
  go_enter Tryz.func53, Tryz.ntmps53
  go_wp2
  go_ret
  exact ⟨by by_cases h : 0 < n <;> simp [h], Below.refl _ _⟩

set_option maxHeartbeats 1000000 in
theorem sets_Union (r1 r2 : List (Int × Int)) (a1 a2 : Option Addr) (n1 c1 n2 c2 B : Nat) (w : World) (h1 : RangesV w B r1 a1 n1 c1) (h2 : RangesV w B r2 a2 n2 c2) (hB : B ≤ w.heap.size) (hN : r1.length + r2.length ≤ 1000000000000) :
    Calls Tryz.prog 35 #[.slice a1 n1 c1, .slice a2 n2 c2] w (SetOf w (fun c => memR r1 c || memR r2 c) (2 * (r1.length + r2.length) + 1)) := by
  have hl := ListsAt.two hB h1 h2 24
  have hee : Calls Tryz.prog 40 #[.slice (some ⟨w.heap.size, 0, none⟩) 2 2] (w.alloc (.cells #[.slice a1 n1 c1, .slice a2 n2 c2] 24)) _ := edges_any [r1, r2] w.heap.size 2 B (w.alloc (.cells #[.slice a1 n1 c1, .slice a2 n2 c2] 24)) hl (by simp) (by simp; omega) (by simp) (by have := edgesOf_length [r1, r2]; simp at this; omega)
  have HE := Lib.hid hee; clear hee hl
  go_enter Tryz.func35, Tryz.ntmps35
  go_wp2_with fail
  refine (HE.out).mono ?_
  rintro e w1 ⟨v, es, rfl, hp, hs, hrow, hb⟩
  obtain ⟨ea, ec, rfl, hv⟩ := EdgesV.of_row hrow
  obtain ⟨s1, s2, s3, s4⟩ := swept (fun n => decide (0 < n)) [r1, r2] es hp hs
  have hel : es.length ≤ 4000000000000 := by have := hp.length_eq; have h2 := edgesOf_length [r1, r2]; simp at h2; omega
  have hth := those_any (fun n => decide (0 < n)) 53 (enters_of Tryz.func53 (by kernel_rfl) rfl) union_is es ea ec w1.heap.size w1 hv (Nat.le_refl _) s4 hel
  have HT := Lib.hid hth
  have HS := Lib.hid (And.intro s1 (And.intro s2 s3)); have HB := Lib.hid hb
  clear hth s1 s2 s3 s4 hp hs hrow hb hv hel
  go_wp2_with fail
  refine (HT.out).mono ?_
  rintro e w2 ⟨v, rfl, hrow2, hb2⟩
  have HR2 := Lib.hid hrow2; have HB2 := Lib.hid hb2
  clear hrow2 hb2
  go_wp2_with fail
  have hb0 : Below w.heap.size w w1 := ((Below.refl _ w).alloc (Nat.le_refl _) _).trans (HB.out.mono (by simp))
  go_ret
  refine ⟨v, _, rfl, ?_, HS.out.1, ?_, ?_, hb0.trans (HB2.out.mono hb0.size)⟩
  · exact Joins.ownsRow_le HR2.out hb0.size
  · intro c; rw [HS.out.2.1]; simp only [List.flatten_cons, List.flatten_nil, List.append_nil, coverN_pos, memR_append]
  · have := HS.out.2.2; simpa using this

theorem RangesV.nil (w : World) (B : Nat) : RangesV w B [] none 0 0 := ⟨rfl, ⟨Nat.le_refl _, by omega⟩, .inl rfl⟩
theorem sets_Norm (rs : List (Int × Int)) (sa : Option Addr) (sn sc B : Nat) (w : World) (h : RangesV w B rs sa sn sc) (hB : B ≤ w.heap.size) (hN : rs.length ≤ 1000000000000) :
    Calls Tryz.prog 21 #[.slice sa sn sc] w (SetOf w (fun c => memR rs c) (2 * rs.length + 1)) := by
  have HU := Lib.hid (sets_Union rs [] sa none sn sc 0 0 B w h (RangesV.nil w B) hB (by simpa using hN))
  go_enter Tryz.func21, Tryz.ntmps21
  go_wp2_with fail
  refine (HU.out).mono ?_
  rintro e w1 ⟨v, out, rfl, h1, h2, h3, h4, h5⟩
  have H := Lib.hid (And.intro h1 (And.intro h2 (And.intro h3 (And.intro h4 h5))))
  clear h1 h2 h3 h4 h5
  go_wp2_with fail
  go_ret
  obtain ⟨h1, h2, h3, h4, h5⟩ := H.out
  exact ⟨v, out, rfl, h1, h2, fun c => by rw [h3]; simp [memR], by simpa using h4, h5⟩
end Go.Proofs.YtnafemcholkmlaaGreatDoor
