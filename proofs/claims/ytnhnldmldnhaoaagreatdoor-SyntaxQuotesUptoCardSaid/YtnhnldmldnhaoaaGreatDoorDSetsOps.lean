/- Sets of runes: sets.Union, Norm, as contracts. Trees by value, and the blocks that they lie in; worlds of which some old blocks alone have turned. -/
import Derived.Test.YtnhnldmldnhaoaaGreatDoorDThose
import Derived.Lib.SmallJoins
import Derived.Test.YtnhnldmldnhaoaaGreatDoorDBase
namespace Go.Proofs.YtnhnldmldnhaoaaGreatDoor
open Go Go.RowKit Go.Proofs Go.Shelf

theorem EdgesV.of_row {w : World} {base : Nat} {es : List (Int × Int)} {v : Value} (h : w.ownsRow base 166 2 v es.length (flatE es)) : ∃ sa sc, v = .slice sa es.length sc ∧ EdgesV w w.heap.size es sa := by
  have h' := h
  rcases h.2 with ⟨rfl, h0⟩ | ⟨g, cap, cur, rfl, hb, hg, _⟩
  · exact ⟨none, 0, by rw [h0], .inl (List.eq_nil_of_length_eq_zero h0)⟩
  · refine ⟨_, _, rfl, .inr ⟨g, rfl, (Array.getElem?_eq_some_iff.1 hg).1, fun j hj => ⟨?_, ?_⟩⟩⟩
    · rw [h'.cellAt (j * 2) (by omega), flatE_get es _ (by omega)]
      have e1 : j * 2 / 2 = j := by omega
      have e2 : j * 2 % 2 = 0 := by omega
      simp only [e1, e2]; simp [encE]
    · rw [h'.cellAt (j * 2 + 1) (by omega), flatE_get es _ (by omega)]
      have e1 : (j * 2 + 1) / 2 = j := by omega
      have e2 : (j * 2 + 1) % 2 = 1 := by omega
      simp only [e1, e2]; simp [encE]

/-- A slice that a function has laid: a list of ranges. -/
def Laid (w w' : World) (out : List (Int × Int)) (v : Value) : Prop := w'.ownsRow w.heap.size 61 2 v out.length (flatR out)

theorem RangesAt.of_cells {w : World} {b : Nat} : ∀ (rs : List (Int × Int)) (o : Nat), (∀ j (h : j < rs.length), w.cell? ⟨b, o + j * 2, none⟩ = some (.int .i32 rs[j].1) ∧ w.cell? ⟨b, o + j * 2 + 1, none⟩ = some (.int .i32 rs[j].2)) → RangesAt w rs b o
  | [], _, _ => trivial
  | (l, h) :: rs, o, hc => by
    have h0 := hc 0 (by simp)
    simp only [List.getElem_cons_zero, Nat.zero_mul, Nat.add_zero] at h0
    refine ⟨h0.1, h0.2, RangesAt.of_cells rs (o + 2) fun j hj => ?_⟩
    have h1 := hc (j + 1) (by simpa using hj)
    have e1 : o + (j + 1) * 2 = o + 2 + j * 2 := by omega
    rw [e1] at h1
    simpa using h1
theorem flatR_get : ∀ (rs : List (Int × Int)) (j : Nat) (h : j < rs.length), (flatR rs)[j * 2]? = some (.int .i32 rs[j].1) ∧ (flatR rs)[j * 2 + 1]? = some (.int .i32 rs[j].2)
  | x :: rs, 0, _ => by simp [flatR]
  | x :: rs, j + 1, h => by
    have := flatR_get rs j (by simpa using h)
    have e1 : (j + 1) * 2 = j * 2 + 1 + 1 := by omega
    rw [show flatR (x :: rs) = .int .i32 x.1 :: .int .i32 x.2 :: flatR rs by simp [flatR], e1]
    simpa using this
theorem Laid.ranges {w w' : World} {out : List (Int × Int)} {v : Value} (h : Laid w w' out v) (hN : out.length ≤ 140737488351232) : ∃ sa sc, v = .slice sa out.length sc ∧ RangesV w' w'.heap.size out sa out.length sc ∧ (out = [] ∨ ∃ g, sa = some ⟨g, 0, none⟩) := by
  have h' := h
  rcases h.2 with ⟨rfl, h0⟩ | ⟨g, cap, cur, rfl, hb, hg, hc, _⟩
  · exact ⟨none, 0, by rw [h0], ⟨rfl, ⟨by omega, hN⟩, .inl h0⟩, .inl (List.eq_nil_of_length_eq_zero h0)⟩
  · refine ⟨_, _, rfl, ⟨rfl, ⟨hc, hN⟩, .inr ⟨g, 0, rfl, (Array.getElem?_eq_some_iff.1 hg).1, RangesAt.of_cells out 0 fun j hj => ?_⟩⟩, .inr ⟨g, rfl⟩⟩
    have hf := flatR_get out j hj
    have h' : w'.ownsRow w.heap.size 61 2 (.slice (some ⟨g, 0, none⟩) out.length cap) out.length (flatR out) := h'
    rw [Nat.zero_add, h'.cellAt (j * 2) (by omega), h'.cellAt (j * 2 + 1) (by omega)]
    exact hf

theorem thoseL_length (is : Int → Bool) (sp : List ((Int × Int) × Int)) : (thoseL is sp).length ≤ sp.length := by
  have key : ∀ (sp : List ((Int × Int) × Int)) (out : List (Int × Int)), (sp.foldl (stepT is) out).length ≤ out.length + sp.length := by
    intro sp
    induction sp with
    | nil => intro out; simp
    | cons x sp ih =>
      intro out
      refine Nat.le_trans (ih _) ?_
      have : (stepT is out x).length ≤ out.length + 1 := by
        unfold stepT; split
        · exact pushT_length _ _
        · omega
      simp only [List.length_cons]; omega
  simpa [thoseL] using key sp []

theorem edgesOf_flatten : ∀ ls : List (List (Int × Int)), edgesOf ls = edgesL ls.flatten
  | [] => rfl
  | a :: l => by
    have := edgesOf_flatten l
    unfold edgesOf at this ⊢
    rw [List.flatMap_cons, List.flatten_cons, edges_append, this]
theorem edgesOf_length (ls : List (List (Int × Int))) : (edgesOf ls).length ≤ 2 * ls.flatten.length := by
  rw [edgesOf_flatten]; exact edges_length _

/-- What those edges told. -/
theorem swept (is : Int → Bool) (ls : List (List (Int × Int))) (es : List (Int × Int)) (hp : es.Perm (edgesOf ls)) (hs : es.Pairwise fun a b => a.1 ≤ b.1) :
    setRight (thoseL is (spansL 0 0 es)) = true ∧ (∀ c, memR (thoseL is (spansL 0 0 es)) c = (decide (0 ≤ c) && decide (c ≤ 1114111) && is (coverN c ls.flatten))) ∧ (thoseL is (spansL 0 0 es)).length ≤ 2 * ls.flatten.length + 1 ∧
      (∀ e ∈ es, 0 ≤ e.1 ∧ e.1 ≤ 1114112 ∧ (e.2 = 1 ∨ e.2 = -1)) := by
  rw [edgesOf_flatten] at hp
  obtain ⟨h1, h2⟩ := sweep is _ es hp hs
  refine ⟨h1, h2, ?_, fun x hx => edges_bound _ x (hp.mem_iff.1 hx)⟩
  have l1 := thoseL_length is (spansL 0 0 es)
  have l2 := spansL_length es 0 0
  have l3 := hp.length_eq
  have l4 := edges_length ls.flatten
  omega

theorem ListsAt.one {w : World} {B : Nat} {rs : List (Int × Int)} {sa : Option Addr} {sn sc : Nat} (hB : B ≤ w.heap.size) (h : RangesV w B rs sa sn sc) (t : TypeId) : ListsAt (w.alloc (.cells #[.slice sa sn sc] t)) B [rs] w.heap.size := by
  intro j hj
  obtain rfl : j = 0 := by simpa using hj
  exact ⟨sa, sn, sc, (Blk.new w [.slice sa sn sc] t).cell (j := 0) rfl, h.below ((Below.refl _ w).alloc hB _)⟩
theorem ListsAt.two {w : World} {B : Nat} {r1 r2 : List (Int × Int)} {a1 a2 : Option Addr} {n1 c1 n2 c2 : Nat} (hB : B ≤ w.heap.size) (h1 : RangesV w B r1 a1 n1 c1) (h2 : RangesV w B r2 a2 n2 c2) (t : TypeId) : ListsAt (w.alloc (.cells #[.slice a1 n1 c1, .slice a2 n2 c2] t)) B [r1, r2] w.heap.size := by
  intro j hj
  match j, hj with
  | 0, _ => exact ⟨a1, n1, c1, (Blk.new w [.slice a1 n1 c1, .slice a2 n2 c2] t).cell (j := 0) rfl, h1.below ((Below.refl _ w).alloc hB _)⟩
  | 1, _ => exact ⟨a2, n2, c2, (Blk.new w [.slice a1 n1 c1, .slice a2 n2 c2] t).cell (j := 1) rfl, h2.below ((Below.refl _ w).alloc hB _)⟩

/-- What a function on sets hands back. -/
def SetOf (w : World) (p : Int → Bool) (N : Nat) (e : Ending) (w' : World) : Prop :=
  ∃ v out, e = .returned v ∧ Laid w w' out v ∧ setRight out = true ∧ (∀ c, memR out c = (decide (0 ≤ c) && decide (c ≤ 1114111) && p c)) ∧ out.length ≤ N ∧ Below w.heap.size w w'

theorem union_is (n : Int) (W : World) : Calls Tryz.prog 88 #[.int .i64 n] W fun e w' => e = .returned (.bool (decide (0 < n))) ∧ Below W.heap.size W w' := by
  go_enter Tryz.func88, Tryz.ntmps88
  go_wp2
  go_ret
  exact ⟨by by_cases h : 0 < n <;> simp [h], Below.refl _ _⟩

set_option maxHeartbeats 1000000 in
theorem sets_Union (r1 r2 : List (Int × Int)) (a1 a2 : Option Addr) (n1 c1 n2 c2 B : Nat) (w : World) (h1 : RangesV w B r1 a1 n1 c1) (h2 : RangesV w B r2 a2 n2 c2) (hB : B ≤ w.heap.size) (hN : r1.length + r2.length ≤ 1000000000000) :
    Calls Tryz.prog 65 #[.slice a1 n1 c1, .slice a2 n2 c2] w (SetOf w (fun c => memR r1 c || memR r2 c) (2 * (r1.length + r2.length) + 1)) := by
  have hl := ListsAt.two hB h1 h2 26
  have hee : Calls Tryz.prog 87 #[.slice (some ⟨w.heap.size, 0, none⟩) 2 2] (w.alloc (.cells #[.slice a1 n1 c1, .slice a2 n2 c2] 26)) _ := edges_any [r1, r2] w.heap.size 2 B (w.alloc (.cells #[.slice a1 n1 c1, .slice a2 n2 c2] 26)) hl (by simp) (by simp; omega) (by simp) (by have := edgesOf_length [r1, r2]; simp at this; omega)
  have HE := Lib.hid hee; clear hee hl
  go_enter Tryz.func65, Tryz.ntmps65
  go_wp2_with fail
  refine (HE.out).mono ?_
  rintro e w1 ⟨v, es, rfl, hp, hs, hrow, hb⟩
  obtain ⟨ea, ec, rfl, hv⟩ := EdgesV.of_row hrow
  obtain ⟨s1, s2, s3, s4⟩ := swept (fun n => decide (0 < n)) [r1, r2] es hp hs
  have hel : es.length ≤ 4000000000000 := by have := hp.length_eq; have h2 := edgesOf_length [r1, r2]; simp at h2; omega
  have hth := those_any (fun n => decide (0 < n)) 88 (enters_of Tryz.func88 (by kernel_rfl) rfl) union_is es ea ec w1.heap.size w1 hv (Nat.le_refl _) s4 hel
  have HT := Lib.hid hth
  have HS := Lib.hid (And.intro s1 (And.intro s2 s3)); have HB := Lib.hid hb
  clear hth s1 s2 s3 s4 hp hs hrow hb hv hel
  go_wp2_with fail
  refine (HT.out).mono ?_
  rintro e w2 ⟨v, rfl, hrow2, hb2⟩
  have HR2 := Lib.hid hrow2; have HB2 := Lib.hid hb2
  clear hrow2 hb2
  go_wp2_with fail
  have hb0 : Below w.heap.size w w1 := ((Below.refl _ w).alloc (Nat.le_refl _) _).trans (HB.out.mono (by simp))
  go_ret
  refine ⟨v, _, rfl, ?_, HS.out.1, ?_, ?_, hb0.trans (HB2.out.mono hb0.size)⟩
  · exact Joins.ownsRow_le HR2.out hb0.size
  · intro c; rw [HS.out.2.1]; simp only [List.flatten_cons, List.flatten_nil, List.append_nil, coverN_pos, memR_append]
  · have := HS.out.2.2; simpa using this

theorem RangesV.nil (w : World) (B : Nat) : RangesV w B [] none 0 0 := ⟨rfl, ⟨Nat.le_refl _, by omega⟩, .inl rfl⟩
theorem sets_Norm (rs : List (Int × Int)) (sa : Option Addr) (sn sc B : Nat) (w : World) (h : RangesV w B rs sa sn sc) (hB : B ≤ w.heap.size) (hN : rs.length ≤ 1000000000000) :
    Calls Tryz.prog 50 #[.slice sa sn sc] w (SetOf w (fun c => memR rs c) (2 * rs.length + 1)) := by
  have HU := Lib.hid (sets_Union rs [] sa none sn sc 0 0 B w h (RangesV.nil w B) hB (by simpa using hN))
  go_enter Tryz.func50, Tryz.ntmps50
  go_wp2_with fail
  refine (HU.out).mono ?_
  rintro e w1 ⟨v, out, rfl, h1, h2, h3, h4, h5⟩
  have H := Lib.hid (And.intro h1 (And.intro h2 (And.intro h3 (And.intro h4 h5))))
  clear h1 h2 h3 h4 h5
  go_wp2_with fail
  go_ret
  obtain ⟨h1, h2, h3, h4, h5⟩ := H.out
  exact ⟨v, out, rfl, h1, h2, fun c => by rw [h3]; simp [memR], by simpa using h4, h5⟩
end Go.Proofs.YtnhnldmldnhaoaaGreatDoor

namespace Go.Proofs.YtnhnldmldnhaoaaGreatDoor
open Go Go.RowKit Go.Proofs Go.Shelf

/-- All old blocks are as they were, but some. -/
structure GrownF (F : Nat → Prop) (w w' : World) : Prop where
  os : w'.os = w.os
  tape : w'.tape = w.tape
  output : w'.output = w.output
  size : w.heap.size ≤ w'.heap.size
  block : ∀ k, k < w.heap.size → ¬ F k → w'.heap[k]? = w.heap[k]?
theorem GrownF.refl (F : Nat → Prop) (w : World) : GrownF F w w := ⟨rfl, rfl, rfl, Nat.le_refl _, fun _ _ _ => rfl⟩
theorem GrownF.mono {F G : Nat → Prop} {w w' : World} (h : GrownF F w w') (hF : ∀ k, k < w.heap.size → F k → G k) : GrownF G w w' :=
  ⟨h.os, h.tape, h.output, h.size, fun k hk hn => h.block k hk fun hf => hn (hF k hk hf)⟩
theorem GrownF.trans {F G : Nat → Prop} {a b c : World} (h : GrownF F a b) (h' : GrownF G b c) (hG : ∀ k, k < a.heap.size → G k → F k) : GrownF F a c :=
  ⟨h'.os.trans h.os, h'.tape.trans h.tape, h'.output.trans h.output, Nat.le_trans h.size h'.size, fun k hk hn =>
    (h'.block k (Nat.lt_of_lt_of_le hk h.size) fun hg => hn (hG k hk hg)).trans (h.block k hk hn)⟩
theorem GrownF.of_below {F : Nat → Prop} {w w' : World} (h : Below w.heap.size w w') : GrownF F w w' := ⟨h.os, h.tape, h.output, h.size, fun k hk _ => h.block k hk⟩
theorem GrownF.of_grown {F : Nat → Prop} {w w' : World} {row : Option Nat} (h : w.grownBy w' row) (hr : ∀ k, row = some k → k < w.heap.size → F k) : GrownF F w w' :=
  ⟨h.os, h.tape, h.output, h.size, fun k hk hn => h.block k hk fun e => hn (hr k e.symm hk)⟩
theorem GrownF.below {F : Nat → Prop} {w w' : World} {B : Nat} (h : GrownF F w w') (hB : B ≤ w.heap.size) (hF : ∀ k, k < B → ¬ F k) : Below B w w' :=
  ⟨h.os, h.tape, h.output, h.size, fun k hk => h.block k (Nat.lt_of_lt_of_le hk hB) (hF k hk)⟩
theorem GrownF.then_below {F : Nat → Prop} {a b c : World} (h : GrownF F a b) (h' : Below b.heap.size b c) : GrownF F a c := h.trans (GrownF.of_below (F := fun _ => False) h') (fun _ _ hf => hf.elim)
theorem GrownF.alloc {F : Nat → Prop} {a b : World} (h : GrownF F a b) (o : Obj) : GrownF F a (b.alloc o) := h.then_below ((Below.refl _ b).alloc (Nat.le_refl _) o)
theorem GrownF.drew {F : Nat → Prop} {a b : World} (h : GrownF F a b) : GrownF F a b.drew := h.then_below (Below.refl _ b).drew
theorem GrownF.drewN {F : Nat → Prop} {a b : World} (h : GrownF F a b) (n : Nat) : GrownF F a (b.drewN n) := h.then_below (below_drewN (Below.refl _ b) n)
theorem GrownF.setCell {F : Nat → Prop} {a b : World} (h : GrownF F a b) {p : Addr} (hp : p.block < a.heap.size → F p.block) (v : Value) : GrownF F a (b.setCell p v) :=
  h.trans (G := fun k => k = p.block) (GrownF.of_grown (grownBy_setCell b p.block p.off v |> fun hg => (show b.grownBy (b.setCell p v) (some p.block) from ⟨rfl, rfl, rfl, by simp [World.setCell], fun k _ hk => Below.heap_setCell b p v k (fun e => hk (by rw [e]))⟩)) (fun k e _ => by cases e; rfl)) (fun k hk e => by subst e; exact hp hk)

/-- A slice of ranges in blocks that may be. -/
def SetF (w : World) (ok : Nat → Prop) (rs : List (Int × Int)) (a : Option Addr) (n c : Nat) : Prop :=
  n = rs.length ∧ (n ≤ c ∧ n ≤ 140737488351232) ∧ (n = 0 ∨ ∃ b o, a = some ⟨b, o, none⟩ ∧ ok b ∧ RangesAt w rs b o)
mutual
/-- The ten cells of a tree, in blocks that may be. -/
def TreeF (w : World) (ok : Nat → Prop) : T → List Value → Prop
  | .mk op kids rune set pl cap name mn mx lz, cs => ∃ (ka : Option Addr) (kn kc : Nat) (sa : Option Addr) (sn sc : Nat),
      cs = [.int .i64 op, .slice ka kn kc, .int .i32 rune, .slice sa sn sc, .int .i64 pl, .int .i64 cap, .string name, .int .i64 mn, .int .i64 mx, .bool lz] ∧
      kn = kids.length ∧ (kn ≤ kc ∧ kn ≤ 140737488351232) ∧ (kn = 0 ∨ ∃ b o, ka = some ⟨b, o, none⟩ ∧ ok b ∧ KidsF w ok kids b o) ∧ SetF w ok set sa sn sc
def KidsF (w : World) (ok : Nat → Prop) : List T → Nat → Nat → Prop
  | [], _, _ => True
  | t :: ts, b, o => (∃ cs, TreeF w ok t cs ∧ RowAt w b o cs) ∧ KidsF w ok ts b (o + 10)
end
/-- A slice of trees in blocks that may be. -/
def KidsS (w : World) (ok : Nat → Prop) (kids : List T) (a : Option Addr) (n c : Nat) : Prop :=
  n = kids.length ∧ (n ≤ c ∧ n ≤ 140737488351232) ∧ (n = 0 ∨ ∃ b o, a = some ⟨b, o, none⟩ ∧ ok b ∧ KidsF w ok kids b o)
theorem TreeF.open {w : World} {ok : Nat → Prop} {op : Int} {kids : List T} {rune : Int} {set : List (Int × Int)} {pl cap : Int} {name : ByteArray} {mn mx : Int} {lz : Bool} {cs : List Value}
    (h : TreeF w ok (.mk op kids rune set pl cap name mn mx lz) cs) : ∃ (ka : Option Addr) (kn kc : Nat) (sa : Option Addr) (sn sc : Nat),
      cs = [.int .i64 op, .slice ka kn kc, .int .i32 rune, .slice sa sn sc, .int .i64 pl, .int .i64 cap, .string name, .int .i64 mn, .int .i64 mx, .bool lz] ∧
      KidsS w ok kids ka kn kc ∧ SetF w ok set sa sn sc := by
  unfold TreeF at h
  obtain ⟨ka, kn, kc, sa, sn, sc, h1, h2, h3, h4, h5⟩ := h
  exact ⟨ka, kn, kc, sa, sn, sc, h1, ⟨h2, h3, h4⟩, h5⟩
theorem TreeF.mk {w : World} {ok : Nat → Prop} {op : Int} {kids : List T} {rune : Int} {set : List (Int × Int)} {pl cap : Int} {name : ByteArray} {mn mx : Int} {lz : Bool}
    {ka : Option Addr} {kn kc : Nat} {sa : Option Addr} {sn sc : Nat} (h1 : KidsS w ok kids ka kn kc) (h2 : SetF w ok set sa sn sc) :
    TreeF w ok (.mk op kids rune set pl cap name mn mx lz) [.int .i64 op, .slice ka kn kc, .int .i32 rune, .slice sa sn sc, .int .i64 pl, .int .i64 cap, .string name, .int .i64 mn, .int .i64 mx, .bool lz] := by
  unfold TreeF
  exact ⟨ka, kn, kc, sa, sn, sc, rfl, h1.1, h1.2.1, h1.2.2, h2⟩
theorem TreeF.length {w : World} {ok : Nat → Prop} {t : T} {cs : List Value} (h : TreeF w ok t cs) : cs.length = 10 := by
  cases t
  obtain ⟨ka, kn, kc, sa, sn, sc, rfl, _⟩ := h.open
  rfl
theorem TreeF.one {w : World} {ok : Nat → Prop} {t : T} {cs : List Value} (h : TreeF w ok t cs) : ∀ u ∈ cs, u.oneCell' = true := by
  cases t
  obtain ⟨ka, kn, kc, sa, sn, sc, rfl, _⟩ := h.open
  intro u hu
  simp only [List.mem_cons, List.not_mem_nil, or_false] at hu
  rcases hu with rfl | rfl | rfl | rfl | rfl | rfl | rfl | rfl | rfl | rfl <;> rfl
theorem TreeF.form {w : World} {ok : Nat → Prop} {t : T} {cs : List Value} (h : TreeF w ok t cs) : ∃ (op : Int) (ka : Option Addr) (kn kc : Nat) (rune : Int) (sa : Option Addr) (sn sc : Nat) (pl cap : Int) (name : ByteArray) (mn mx : Int) (lz : Bool),
    cs = [.int .i64 op, .slice ka kn kc, .int .i32 rune, .slice sa sn sc, .int .i64 pl, .int .i64 cap, .string name, .int .i64 mn, .int .i64 mx, .bool lz] := by
  cases t
  obtain ⟨ka, kn, kc, sa, sn, sc, rfl, _⟩ := h.open
  exact ⟨_, _, _, _, _, _, _, _, _, _, _, _, _, _, rfl⟩
theorem KidsF.nil {w : World} {ok : Nat → Prop} {b o : Nat} : KidsF w ok [] b o := by unfold KidsF; trivial
theorem KidsF.cons {w : World} {ok : Nat → Prop} {b o : Nat} {t : T} {ts : List T} : KidsF w ok (t :: ts) b o ↔ (∃ cs, TreeF w ok t cs ∧ RowAt w b o cs) ∧ KidsF w ok ts b (o + 10) := by
  constructor
  · intro h; unfold KidsF at h; exact h
  · intro h; unfold KidsF; exact h
theorem RangesAt.turned {w w' : World} {b : Nat} (hb : w'.heap[b]? = w.heap[b]?) : ∀ {rs : List (Int × Int)} {o : Nat}, RangesAt w rs b o → RangesAt w' rs b o
  | [], _, _ => trivial
  | (_, _) :: _, _, h => ⟨(World.cell?_of_block (w := w) hb).trans h.1, (World.cell?_of_block (w := w) hb).trans h.2.1, RangesAt.turned hb h.2.2⟩
theorem RowAt.turned {w w' : World} {b o : Nat} {cs : List Value} (h : RowAt w b o cs) (hb : w'.heap[b]? = w.heap[b]?) : RowAt w' b o cs := fun j hj => (World.cell?_of_block (w := w) hb).trans (h j hj)
theorem SetF.turned {w w' : World} {ok ok' : Nat → Prop} {rs : List (Int × Int)} {a : Option Addr} {n c : Nat} (h : SetF w ok rs a n c) (hb : ∀ b, ok b → w'.heap[b]? = w.heap[b]?) (hk : ∀ b, ok b → ok' b) : SetF w' ok' rs a n c := by
  obtain ⟨h1, h2, h3⟩ := h
  refine ⟨h1, h2, ?_⟩
  rcases h3 with h3 | ⟨b, o, e, hok, hr⟩
  · exact .inl h3
  · exact .inr ⟨b, o, e, hk b hok, hr.turned (hb b hok)⟩
mutual
theorem TreeF.turned {w w' : World} {ok ok' : Nat → Prop} (hb : ∀ b, ok b → w'.heap[b]? = w.heap[b]?) (hk : ∀ b, ok b → ok' b) : ∀ {t : T} {cs : List Value}, TreeF w ok t cs → TreeF w' ok' t cs
  | .mk op kids rune set pl cap name mn mx lz, cs, h => by
    obtain ⟨ka, kn, kc, sa, sn, sc, rfl, ⟨h1, h2, h3⟩, h4⟩ := h.open
    refine TreeF.mk ⟨h1, h2, ?_⟩ (h4.turned hb hk)
    rcases h3 with h3 | ⟨b, o, e, hok, hr⟩
    · exact .inl h3
    · exact .inr ⟨b, o, e, hk b hok, KidsF.turned hb hk (hb b hok) hr⟩
theorem KidsF.turned {w w' : World} {ok ok' : Nat → Prop} (hb : ∀ b, ok b → w'.heap[b]? = w.heap[b]?) (hk : ∀ b, ok b → ok' b) {b : Nat} (hbb : w'.heap[b]? = w.heap[b]?) : ∀ {ts : List T} {o : Nat}, KidsF w ok ts b o → KidsF w' ok' ts b o
  | [], _, _ => KidsF.nil
  | t :: ts, o, h => by
    obtain ⟨⟨cs, h1, h2⟩, h3⟩ := KidsF.cons.1 h
    exact KidsF.cons.2 ⟨⟨cs, TreeF.turned hb hk h1, h2.turned hbb⟩, KidsF.turned hb hk hbb h3⟩
end
mutual
theorem TreeF.treeV {w : World} {ok : Nat → Prop} {B : Nat} (hk : ∀ b, ok b → b < B) : ∀ {t : T} {cs : List Value}, TreeF w ok t cs → TreeV w B t cs
  | .mk op kids rune set pl cap name mn mx lz, cs, h => by
    obtain ⟨ka, kn, kc, sa, sn, sc, rfl, ⟨h1, h2, h3⟩, h4, h5, h6⟩ := h.open
    refine TreeV.mk ⟨h1, h2, ?_⟩ ⟨h4, h5, ?_⟩
    · rcases h3 with h3 | ⟨b, o, e, hok, hr⟩
      · exact .inl h3
      · exact .inr ⟨b, o, e, hk b hok, KidsF.kidsAt hk hr⟩
    · rcases h6 with h6 | ⟨b, o, e, hok, hr⟩
      · exact .inl h6
      · exact .inr ⟨b, o, e, hk b hok, hr⟩
theorem KidsF.kidsAt {w : World} {ok : Nat → Prop} {B : Nat} (hk : ∀ b, ok b → b < B) {b : Nat} : ∀ {ts : List T} {o : Nat}, KidsF w ok ts b o → KidsAt w B ts b o
  | [], _, _ => KidsAt.nil
  | t :: ts, o, h => by
    obtain ⟨⟨cs, h1, h2⟩, h3⟩ := KidsF.cons.1 h
    exact KidsAt.cons.2 ⟨⟨cs, TreeF.treeV hk h1, h2⟩, KidsF.kidsAt hk h3⟩
end
/-- Trees' cells, one behind the other. -/
def TreesF (w : World) (ok : Nat → Prop) : List T → List Value → Prop
  | [], xs => xs = []
  | t :: ts, xs => ∃ cs rest, xs = cs ++ rest ∧ TreeF w ok t cs ∧ TreesF w ok ts rest
theorem TreesF.length {w : World} {ok : Nat → Prop} : ∀ {ts : List T} {xs : List Value}, TreesF w ok ts xs → xs.length = ts.length * 10
  | [], xs, h => by rw [show xs = [] from h]; rfl
  | t :: ts, xs, ⟨cs, rest, e, h1, h2⟩ => by rw [e, List.length_append, h1.length, h2.length, List.length_cons]; omega
theorem TreesF.one {w : World} {ok : Nat → Prop} : ∀ {ts : List T} {xs : List Value}, TreesF w ok ts xs → ∀ u ∈ xs, u.oneCell' = true
  | [], xs, h, u, hu => by rw [show xs = [] from h] at hu; simp at hu
  | t :: ts, xs, ⟨cs, rest, e, h1, h2⟩, u, hu => by
    rw [e] at hu
    rcases List.mem_append.1 hu with hu | hu
    · exact h1.one u hu
    · exact h2.one u hu
theorem TreesF.single {w : World} {ok : Nat → Prop} {t : T} {cs : List Value} (h : TreeF w ok t cs) : TreesF w ok [t] cs := ⟨cs, [], by simp, h, rfl⟩
theorem TreesF.append {w : World} {ok : Nat → Prop} : ∀ {ts us : List T} {xs ys : List Value}, TreesF w ok ts xs → TreesF w ok us ys → TreesF w ok (ts ++ us) (xs ++ ys)
  | [], us, xs, ys, h, h' => by rw [show xs = [] from h]; exact h'
  | t :: ts, us, xs, ys, ⟨cs, rest, e, h1, h2⟩, h' => ⟨cs, rest ++ ys, by rw [e, List.append_assoc], h1, h2.append h'⟩
theorem TreesF.turned {w w' : World} {ok ok' : Nat → Prop} (hb : ∀ b, ok b → w'.heap[b]? = w.heap[b]?) (hk : ∀ b, ok b → ok' b) : ∀ {ts : List T} {xs : List Value}, TreesF w ok ts xs → TreesF w' ok' ts xs
  | [], _, h => h
  | _ :: _, _, ⟨cs, rest, e, h1, h2⟩ => ⟨cs, rest, e, h1.turned hb hk, h2.turned hb hk⟩
theorem TreesF.snoc {w : World} {ok : Nat → Prop} : ∀ {ts : List T} {t : T} {xs : List Value}, TreesF w ok (ts ++ [t]) xs → ∃ ys cs, xs = ys ++ cs ∧ TreesF w ok ts ys ∧ TreeF w ok t cs
  | [], t, xs, ⟨cs, rest, e, h1, h2⟩ => ⟨[], cs, by rw [e, show rest = [] from h2]; simp, rfl, h1⟩
  | u :: ts, t, xs, ⟨cs, rest, e, h1, h2⟩ => by
    obtain ⟨ys, ds, e2, h3, h4⟩ := TreesF.snoc h2
    exact ⟨cs ++ ys, ds, by rw [e, e2, List.append_assoc], ⟨cs, ys, rfl, h1, h3⟩, h4⟩
theorem TreesF.kids {w : World} {ok : Nat → Prop} {b : Nat} : ∀ {ts : List T} {xs : List Value} {o : Nat}, TreesF w ok ts xs → RowAt w b o xs → KidsF w ok ts b o
  | [], _, _, _, _ => KidsF.nil
  | t :: ts, xs, o, ⟨cs, rest, e, h1, h2⟩, hr => by
    subst e
    have hl := h1.length
    refine KidsF.cons.2 ⟨⟨cs, h1, fun j hj => ?_⟩, TreesF.kids h2 fun j hj => ?_⟩
    · have := hr j (by rw [List.length_append]; omega)
      rw [List.getElem?_append_left hj] at this
      exact this
    · have := hr (10 + j) (by rw [List.length_append]; omega)
      rw [List.getElem?_append_right (by omega), hl, show 10 + j - 10 = j by omega, ← Nat.add_assoc] at this
      exact this
theorem ownsRow_at {w : World} {base : Nat} {e : TypeId} {sz n cap g : Nat} {xs : List Value} (h : w.ownsRow base e sz (.slice (some ⟨g, 0, none⟩) n cap) n xs) : RowAt w g 0 xs := fun j hj => by
  have := h.cellAt j (by rw [← h.1]; exact hj)
  rw [Nat.zero_add]
  exact this
theorem TreesF.slice {w : World} {ok : Nat → Prop} {ts : List T} {xs : List Value} {base : Nat} {e : TypeId} {v : Value} (h : TreesF w ok ts xs) (ho : w.ownsRow base e 10 v ts.length xs) (hok : ∀ g, v.ownBlock = some g → ok g) (hN : ts.length ≤ 140737488351232) :
    ∃ a c, v = .slice a ts.length c ∧ KidsS w ok ts a ts.length c := by
  have ho' := ho
  rcases ho.2 with ⟨rfl, h0⟩ | ⟨g, cap, cur, rfl, hb, hg, hc, hm, _⟩
  · exact ⟨none, 0, by rw [h0], rfl, ⟨by omega, hN⟩, .inl h0⟩
  · exact ⟨_, _, rfl, rfl, ⟨hc, hN⟩, .inr ⟨g, 0, rfl, hok g rfl, h.kids (ownsRow_at ho')⟩⟩
theorem Blk.grownF {F : Nat → Prop} {w w' : World} {b : Nat} {cs : List Value} {t : TypeId} (h : Blk w b cs t) (hg : GrownF F w w') (hb : ¬ F b) : Blk w' b cs t := by
  have h1 := h.lt
  have h2 := hg.block b h1 hb
  unfold Blk at h ⊢
  rw [h2]; exact h
end Go.Proofs.YtnhnldmldnhaoaaGreatDoor
