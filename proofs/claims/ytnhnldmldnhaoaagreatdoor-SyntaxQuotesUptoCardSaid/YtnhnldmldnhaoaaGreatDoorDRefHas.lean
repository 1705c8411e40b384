/- The document's Has: is a rune in one of a list's ranges? sets.Has: is a rune in a set? What a set has with all that is alike. A set made out of a list of ranges by insertion and joining: the plain law of the document's Norm. martelloref03.set: a list of ranges of pairs. The document's Norm: martelloref02.Norm's contract, for every list. The reader of layer 7: a slice of ranges that is cut to its length and appended to. The reader of patterns: a rune's atom. -/
import Derived.Test.YtnhnldmldnhaoaaGreatDoorDSetsOps
import Derived.LoopTactic
import Derived.Test.YtnhnldmldnhaoaaGreatDoorDSetsNot
import Derived.Test.YtnhnldmldnhaoaaGreatDoorDSetsPure
import Derived.Deep.AppendLies
import Derived.Deep.RegionLaw
import Derived.Test.YtnhnldmldnhaoaaGreatDoorDCount
import Derived.Laws.AppendOwnNone
import Derived.Maps.AppendAt
import Derived.Test.YtnhnldmldnhaoaaGreatDoorDScan1
import Derived.ArgAppend
import Derived.Test.YtnhnldmldnhaoaaGreatDoorDSyTree
import Derived.Test.YtnhnldmldnhaoaaGreatDoorDOrbWalk
namespace Go.Proofs.YtnhnldmldnhaoaaGreatDoor
open Go Go.RowKit Go.Proofs

theorem memR_take (rs : List (Int × Int)) (c : Int) (k : Nat) (h : k < rs.length) : memR (rs.take (k + 1)) c = (memR (rs.take k) c || (decide (rs[k].1 ≤ c) && decide (c ≤ rs[k].2))) := by
  rw [List.take_succ_eq_append_getElem h, memR_append, memR_one]
theorem memR_at {rs : List (Int × Int)} {c : Int} {k : Nat} (h : k < rs.length) (h1 : rs[k].1 ≤ c) (h2 : c ≤ rs[k].2) : memR rs c = true := by
  unfold memR
  rw [List.any_eq_true]
  exact ⟨rs[k], List.getElem_mem h, by simp [h1, h2]⟩
/-- Is a rune in a set? -/
def hasB (rs : List (Int × Int)) (c : Int) : Bool := decide (0 ≤ c) && decide (c ≤ 1114111) && memR rs c
set_option maxHeartbeats 1000000 in
theorem ref02_Has (rs : List (Int × Int)) (sa : Option Addr) (sc B : Nat) (c : Int) (w : World) (h : RangesV w B rs sa rs.length sc) :
    Calls Tryz.prog 13 #[.slice sa rs.length sc, .int .i32 c] w fun e w' => e = .returned (.bool (hasB rs c)) ∧ w' = w := by
  obtain ⟨_, ⟨hc, hn⟩, hr⟩ := h
  by_cases hz : rs.length = 0 ∨ c < 0 ∨ 1114111 < c
  · have hb : hasB rs c = false := by
      unfold hasB
      rcases hz with hz | hz | hz
      · rw [List.eq_nil_of_length_eq_zero hz]; simp [memR]
      · rw [decide_eq_false (by omega : ¬ 0 ≤ c)]; rfl
      · rw [decide_eq_false (by omega : ¬ c ≤ 1114111)]; simp
    rw [hb]
    have HR := Lib.hid hr; clear hr hb
    go_enter Tryz.func13, Tryz.ntmps13
    go_wp2_with fail
    go_loop [5] (fun i => i = .int .i64 0) (fun _ => 0)
    case atStart => rfl
    case round =>
      subst hrel
      by_cases h0 : rs.length = 0
      · have hd : ¬ 0 < rs.length := by omega
        go_wp2_with fail
        go_ret
        exact ⟨rfl, rfl⟩
      · have hd : 0 < rs.length := by omega
        by_cases h1 : c < 0
        · have h2 : ¬ 0 ≤ c := by omega
          go_wp2_with fail
          go_ret
          exact ⟨rfl, rfl⟩
        · have h2 : 0 ≤ c := by omega
          have h3 : ¬ c ≤ 1114111 := by omega
          go_wp2_with fail
          go_ret
          exact ⟨rfl, rfl⟩
  · obtain ⟨b, o, rfl, hb, hat⟩ := hr.resolve_left (by omega)
    have h0 : 0 ≤ c := by omega
    have h1 : c ≤ 1114111 := by omega
    have hB : hasB rs c = memR rs c := by unfold hasB; rw [decide_eq_true h0, decide_eq_true h1]; rfl
    have HB := Lib.hid hB; have HA := Lib.hid hat; clear hB hat hz hr
    go_enter Tryz.func13, Tryz.ntmps13
    go_wp2_with fail
    go_loop [5] (fun i => ∃ k : Nat, k ≤ rs.length ∧ i = .int .i64 k ∧ memR (rs.take k) c = false) (fun i => rs.length - (intOf i).toNat)
    case atStart => exact ⟨0, Nat.zero_le _, rfl, rfl⟩
    case round =>
      obtain ⟨k, hk, rfl, hm⟩ := hrel
      have HM := Lib.hid hm; clear hm
      by_cases hlt : k < rs.length
      · obtain ⟨g1, g2⟩ := HA.out.get k hlt
        obtain ⟨l, hl⟩ : ∃ l, rs[k].1 = l := ⟨_, rfl⟩
        obtain ⟨u, hu⟩ : ∃ u, rs[k].2 = u := ⟨_, rfl⟩
        rw [hl] at g1; rw [hu] at g2
        have HL := Lib.hid hl; have HU := Lib.hid hu; clear hl hu
        by_cases i1 : l ≤ c
        · by_cases i2 : c ≤ u
          · go_wp2_with fail
            go_ret
            exact ⟨by rw [HB.out, memR_at hlt (by rw [HL.out]; exact i1) (by rw [HU.out]; exact i2)]; rfl, rfl⟩
          · go_wp2_with fail
            go_round
            case rel => exact ⟨k + 1, hlt, by go_num, by rw [memR_take rs c k hlt, HM.out, HL.out, HU.out, decide_eq_false i2]; simp⟩
            case measure => simp [intOf]; omega
        · go_wp2_with fail
          go_round
          case rel => exact ⟨k + 1, hlt, by go_num, by rw [memR_take rs c k hlt, HM.out, HL.out, HU.out, decide_eq_false i1]; simp⟩
          case measure => simp [intOf]; omega
      · obtain rfl : k = rs.length := by omega
        rw [List.take_length] at HM
        go_wp2_with fail
        go_ret
        exact ⟨by rw [HB.out, HM.out]; rfl, rfl⟩
end Go.Proofs.YtnhnldmldnhaoaaGreatDoor

namespace Go.Proofs.YtnhnldmldnhaoaaGreatDoor
open Go Go.RowKit Go.Proofs

end Go.Proofs.YtnhnldmldnhaoaaGreatDoor

namespace Go.Proofs.YtnhnldmldnhaoaaGreatDoor
open Go Go.RowKit Go.Proofs

/-- A set with all that is alike. -/
def foldF (g : Int → Bool) (c : Int) : Bool := (orbL c).any g
theorem orb_sym : (lettersL.all fun y => (orbL y).contains y && (orbL y).all fun x => lettersL.contains x && decide (orbL x = orbL y)) = true := by kernel_rfl
theorem orb_self (c : Int) : c ∈ orbL c := by
  cases h : letterB c with
  | false => rw [orbL_none h]; simp
  | true =>
    have := List.all_eq_true.1 orb_sym c (letter_mem h)
    simp only [Bool.and_eq_true] at this
    simpa using this.1
/-- What was gathered of some letters. -/
def Gath (g : Int → Bool) (P M : List Int) : Prop := ∀ x, x ∈ M ↔ ∃ y ∈ P, g y = true ∧ x ∈ orbL y
theorem Gath.nil (g : Int → Bool) : Gath g [] [] := fun x => by simp
theorem Gath.skip {g : Int → Bool} {P M : List Int} (h : Gath g P M) {c : Int} (hc : g c = false) : Gath g (P ++ [c]) M := fun x => by
  rw [h x]
  constructor
  · rintro ⟨y, hy, h1, h2⟩
    exact ⟨y, List.mem_append_left _ hy, h1, h2⟩
  · rintro ⟨y, hy, h1, h2⟩
    rcases List.mem_append.1 hy with hy | hy
    · exact ⟨y, hy, h1, h2⟩
    · rw [List.mem_singleton] at hy; subst hy; rw [hc] at h1; cases h1
theorem Gath.take {g : Int → Bool} {P M os : List Int} (h : Gath g P M) {c : Int} (hc : g c = true) (ho : os.Perm (orbL c)) : Gath g (P ++ [c]) (M ++ os) := fun x => by
  rw [List.mem_append, h x, ho.mem_iff]
  constructor
  · rintro (⟨y, hy, h1, h2⟩ | h2)
    · exact ⟨y, List.mem_append_left _ hy, h1, h2⟩
    · exact ⟨c, List.mem_append_right _ (by simp), hc, h2⟩
  · rintro ⟨y, hy, h1, h2⟩
    rcases List.mem_append.1 hy with hy | hy
    · exact .inl ⟨y, hy, h1, h2⟩
    · rw [List.mem_singleton] at hy; subst hy; exact .inr h2
/-- Runes as ranges. -/
def dupR (M : List Int) : List (Int × Int) := M.map fun x => (x, x)
theorem memR_dup (M : List Int) (c : Int) : memR (dupR M) c = decide (c ∈ M) := by
  unfold memR dupR
  rw [Bool.eq_iff_iff, List.any_eq_true, decide_eq_true_eq]
  constructor
  · rintro ⟨r, hr, h⟩
    rw [List.mem_map] at hr
    obtain ⟨x, hx, rfl⟩ := hr
    simp only [Bool.and_eq_true, decide_eq_true_eq] at h
    have : x = c := by omega
    rw [← this]; exact hx
  · intro h
    exact ⟨(c, c), List.mem_map.2 ⟨c, h, rfl⟩, by simp⟩
end Go.Proofs.YtnhnldmldnhaoaaGreatDoor

namespace Go.Proofs.YtnhnldmldnhaoaaGreatDoor

structure NormInv (rs L : List (Int × Int)) : Prop where
  sorted : L.Pairwise fun a b => a.1 ≤ b.1
  ok : ∀ x ∈ L, 0 ≤ x.1 ∧ x.1 ≤ x.2 ∧ x.2 ≤ 1114111
  mem : ∀ c, memR L c = (decide (0 ≤ c) && decide (c ≤ 1114111) && memR rs c)
  len : L.length ≤ rs.length

theorem NormInv.nil : NormInv [] [] := ⟨List.Pairwise.nil, fun _ h => by simp at h, fun c => by simp [memR], Nat.le_refl _⟩

structure MergeInv (L : List (Int × Int)) (i : Nat) (O : List (Int × Int)) : Prop where
  right : setRight O = true
  mem : ∀ c, memR O c = memR (L.take i) c
  le : ∀ x ∈ O, ∀ y ∈ L.drop i, x.1 ≤ y.1
  len : O.length ≤ i

theorem MergeInv.nil (L : List (Int × Int)) : MergeInv L 0 [] := ⟨rfl, fun c => by simp, fun _ h => by simp at h, Nat.le_refl _⟩

end Go.Proofs.YtnhnldmldnhaoaaGreatDoor

namespace Go.Proofs.YtnhnldmldnhaoaaGreatDoor
open Go Go.RowKit Go.Proofs Go.Shelf

end Go.Proofs.YtnhnldmldnhaoaaGreatDoor

namespace Go.Proofs.YtnhnldmldnhaoaaGreatDoor
open Go Go.RowKit Go.Proofs Go.Shelf

end Go.Proofs.YtnhnldmldnhaoaaGreatDoor

namespace Go.Proofs.YtnhnldmldnhaoaaGreatDoor
open Go Go.RowKit Go.Proofs Go.Shelf

/-- A slice of ranges in a block of its own, from B on. -/
def AllV (w : World) (B : Nat) (v : Value) (out : List (Int × Int)) : Prop :=
  ∃ sa sc, v = .slice sa out.length sc ∧ out.length ≤ sc ∧ ((sa = none ∧ out = [] ∧ sc = 0) ∨ ∃ g cur, sa = some ⟨g, 0, none⟩ ∧ B ≤ g ∧ w.heap[g]? = some (.cells cur 61 (0, 0)) ∧ cur.toList.take (out.length * 2) = flatR out)
theorem AllV.grown {w w' : World} {B b : Nat} {v : Value} {out : List (Int × Int)} (h : AllV w B v out) (hg : w.grownBy w' (some b)) (hb : b < B) : AllV w' B v out := by
  obtain ⟨sa, sc, rfl, h1, h2⟩ := h
  refine ⟨sa, sc, rfl, h1, ?_⟩
  rcases h2 with h2 | ⟨g, cur, rfl, h3, h4, h5⟩
  · exact .inl h2
  · exact .inr ⟨g, cur, rfl, h3, by rw [hg.block g (Array.getElem?_eq_some_iff.1 h4).1 (ne_some (by omega))]; exact h4, h5⟩
theorem AllV.mono {w : World} {B B' : Nat} {v : Value} {out : List (Int × Int)} (h : AllV w B v out) (hb : B' ≤ B) : AllV w B' v out := by
  obtain ⟨sa, sc, rfl, h1, h2⟩ := h
  refine ⟨sa, sc, rfl, h1, ?_⟩
  rcases h2 with h2 | ⟨g, cur, rfl, h3, h4, h5⟩
  · exact .inl h2
  · exact .inr ⟨g, cur, rfl, by omega, h4, h5⟩
theorem AllV.cut {w : World} {B sc : Nat} {sa : Option Addr} {out : List (Int × Int)} (h : AllV w B (.slice sa out.length sc) out) : AllV w B (.slice sa out.length out.length) out := by
  obtain ⟨sa', sc', e, h1, h2⟩ := h
  cases e
  refine ⟨sa, _, rfl, Nat.le_refl _, ?_⟩
  rcases h2 with ⟨h3, h4, _⟩ | h2
  · exact .inl ⟨h3, h4, by rw [h4]; rfl⟩
  · exact .inr h2
theorem cell_row {w : World} {g : Nat} {cur : Array Value} {e : TypeId} {xs : List Value} {n : Nat} (h4 : w.heap[g]? = some (.cells cur e (0, 0))) (h5 : cur.toList.take n = xs) (j : Nat) (u : Value) (hj : xs[j]? = some u) : w.cell? ⟨g, j, none⟩ = some u := by
  have hu : cur.toList[j]? = some u := by
    rw [← h5] at hj
    have hlt := (List.getElem?_eq_some_iff.1 hj).1
    rw [List.getElem?_take_of_lt (by simp at hlt; omega)] at hj
    exact hj
  simp only [World.cell?, h4]
  simpa using hu
theorem AllV.ranges {w : World} {B : Nat} {v : Value} {out : List (Int × Int)} (h : AllV w B v out) (hN : out.length ≤ 140737488351232) : ∃ sa sc, v = .slice sa out.length sc ∧ RangesV w w.heap.size out sa out.length sc := by
  obtain ⟨sa, sc, rfl, h1, h2⟩ := h
  refine ⟨sa, sc, rfl, rfl, ⟨h1, hN⟩, ?_⟩
  rcases h2 with ⟨_, h2, _⟩ | ⟨g, cur, rfl, h3, h4, h5⟩
  · exact .inl (by rw [h2]; rfl)
  · refine .inr ⟨g, 0, rfl, (Array.getElem?_eq_some_iff.1 h4).1, RangesAt.of_cells out 0 fun j hj => ?_⟩
    have hf := flatR_get out j hj
    exact ⟨cell_row h4 h5 _ _ (by rw [Nat.zero_add]; exact hf.1), cell_row h4 h5 _ _ (by rw [Nat.zero_add]; exact hf.2)⟩

end Go.Proofs.YtnhnldmldnhaoaaGreatDoor

namespace Go.Proofs.YtnhnldmldnhaoaaGreatDoor
open Go Go.RowKit Go.Proofs Go.Shelf

theorem laid_setF {w W : World} {out : List (Int × Int)} {v : Value} (h : Laid w W out v) (hN : out.length ≤ 140737488351232) : ∃ sa sc, v = .slice sa out.length sc ∧ SetF W (fun k => Fresh w W k) out sa out.length sc := by
  obtain ⟨sa, sc, rfl, hr, hz⟩ := Laid.ranges h hN
  have hlt := h.lt
  refine ⟨sa, sc, rfl, hr.1, hr.2.1, ?_⟩
  rcases hr.2.2 with h0 | ⟨b, o, rfl, hb, hat⟩
  · exact .inl h0
  · exact .inr ⟨b, o, rfl, ⟨(hlt b rfl).1, hb⟩, hat⟩
theorem dup_snoc (os : List Int) (q : Nat) (h : q < os.length) (x : Int) (hx : os[q] = x) : dupR (os.take (q + 1)) = dupR (os.take q) ++ [(x, x)] := by
  rw [List.take_succ_eq_append_getElem h, hx]
  simp [dupR]
theorem dup_len (os : List Int) : (dupR os).length = os.length := by unfold dupR; rw [List.length_map]
set_option maxRecDepth 100000 in
set_option maxHeartbeats 4000000 in
theorem syn_atom_rune (f c : Int) (w : World) (h0 : 0 ≤ c) (h1 : c ≤ 1114111) (hn : ¬ (onB f 1 = true ∧ 1 < (orbL c).length)) :
    Calls Tryz.prog 46 #[.agg #[.int .i64 f], .int .i32 c] w fun e w' => e = .returned (.agg (leafC 3 c none 0 0 0).toArray) ∧ Below w.heap.size w w' := by
  obtain ⟨W0, hW0⟩ : ∃ W0, W0 = (w.alloc (.cells #[.int .i64 f] 49)).alloc (.cells zero10.toArray 29) := ⟨_, rfl⟩
  have K0 := Lib.hid (show Blk W0 w.heap.size [.int .i64 f] 49 by rw [hW0]; exact (Blk.new w [.int .i64 f] 49).alloc _)
  have L0 := Lib.hid (show Blk W0 (w.heap.size + 1) zero10 29 by
    have k := Blk.new (w.alloc (.cells #[.int .i64 f] 49)) zero10 29
    rw [World.size_alloc] at k
    rw [hW0]; exact k)
  have B0 := Lib.hid (show Below w.heap.size w W0 by rw [hW0]; exact ((Below.refl _ w).alloc (Nat.le_refl _) _).alloc (by simp) _)
  have HO := Lib.hid (show Calls Tryz.prog 58 #[.int .i32 c] W0 (OrbOut c W0) from tables_Orbit c W0 h0 h1)
  rw [hW0] at HO
  have HW := Lib.hid hW0
  clear hW0
  go_enter Tryz.func46, Tryz.ntmps46
  go_wp2_with fail
  refine (HO.out).mono ?_
  rintro e w3 ⟨ov, os, rfl, hperm, hown, hB⟩
  rw [← HW.out] at hB
  have hpos : 0 < os.length := by rw [hperm.length_eq]; exact List.length_pos_of_mem (orb_self c)
  obtain ⟨og, ocap, rfl, _, _⟩ := World.ownsRow.form hown hpos
  have K3 := Lib.hid (Blk.below K0.out hB K0.out.lt); have L3 := Lib.hid (Blk.below L0.out hB L0.out.lt)
  have B3 := Lib.hid (B0.out.trans (hB.mono B0.out.size))
  have km := Blk.cell K3.out (j := 0) rfl
  have HL := Lib.hid hperm.length_eq
  have HN := Lib.hid hn
  clear hperm hown hB hn hpos
  go_wp2_with fail
  refine (syn_on f 1 _).mono ?_
  rintro e w4 ⟨rfl, hB⟩
  have L4 := Lib.hid (Blk.below L3.out hB L3.out.lt); have B4 := Lib.hid (B3.out.trans (hB.mono B3.out.size))
  clear hB km
  obtain ⟨c0, c1, c2, c3, c4, c5, c6, c7, c8, c9, f0, f1, f2, f3, f4, f5, f6, f7, f8, f9⟩ := L4.out.ten
  have hff : onB f 1 = false ∨ (onB f 1 = true ∧ ¬ 1 < os.length) := by
    cases hx : onB f 1 with
    | false => exact .inl rfl
    | true => exact .inr ⟨rfl, fun h => HN.out ⟨hx, by rw [← HL.out]; exact h⟩⟩
  rcases hff with hx | ⟨hx, hl⟩
  · rw [hx]
    go_wp2_with fail
    change bodyPost _ _ _ _ _ (World.set10 w4 (w.heap.size + 1) (.int .i64 3) (.slice none 0 0) (.int .i32 c) (.slice none 0 0) (.int .i64 0) (.int .i64 0) (.string ⟨#[]⟩) (.int .i64 0) (.int .i64 0) (.bool false))
    have O := L4.out.set10 (.int .i64 3) (.slice none 0 0) (.int .i32 c) (.slice none 0 0) (.int .i64 0) (.int .i64 0) (.string ⟨#[]⟩) (.int .i64 0) (.int .i64 0) (.bool false)
    obtain ⟨d0, d1, d2, d3, d4, d5, d6, d7, d8, d9, _, _, _, _, _, _, _, _, _, _⟩ := O.ten
    refine ⟨rfl, .agg (leafC 3 c none 0 0 0).toArray, ?_, rfl, below_next B4.out (Nat.le_refl _) (grownBy_set10 _ _ _ _ _ _ _ _ _ _ _ _) (fun k e => by cases e; omega)⟩
    simp [results, Tryz.results46, go_sem, leafC, d0, d1, d2, d3, d4, d5, d6, d7, d8, d9]
  · rw [hx]
    have hl' : ¬ (1 : Int) < (os.length : Int) := by omega
    go_wp2_with fail
    change bodyPost _ _ _ _ _ (World.set10 w4 (w.heap.size + 1) (.int .i64 3) (.slice none 0 0) (.int .i32 c) (.slice none 0 0) (.int .i64 0) (.int .i64 0) (.string ⟨#[]⟩) (.int .i64 0) (.int .i64 0) (.bool false))
    have O := L4.out.set10 (.int .i64 3) (.slice none 0 0) (.int .i32 c) (.slice none 0 0) (.int .i64 0) (.int .i64 0) (.string ⟨#[]⟩) (.int .i64 0) (.int .i64 0) (.bool false)
    obtain ⟨d0, d1, d2, d3, d4, d5, d6, d7, d8, d9, _, _, _, _, _, _, _, _, _, _⟩ := O.ten
    refine ⟨rfl, .agg (leafC 3 c none 0 0 0).toArray, ?_, rfl, below_next B4.out (Nat.le_refl _) (grownBy_set10 _ _ _ _ _ _ _ _ _ _ _ _) (fun k e => by cases e; omega)⟩
    simp [results, Tryz.results46, go_sem, leafC, d0, d1, d2, d3, d4, d5, d6, d7, d8, d9]
set_option maxRecDepth 100000 in
set_option maxHeartbeats 8000000 in
theorem syn_atom_set (f c : Int) (w : World) (h0 : 0 ≤ c) (h1 : c ≤ 1114111) (hx : onB f 1 = true) (hn : 1 < (orbL c).length) :
    Calls Tryz.prog 46 #[.agg #[.int .i64 f], .int .i32 c] w fun e w' => ∃ cs, e = .returned (.agg cs.toArray) ∧ TreeF w' (fun k => Fresh w w' k) (setT (normL fun x => decide (x ∈ orbL c))) cs ∧ Below w.heap.size w w' := by
  obtain ⟨i0, hi, hz0, hz1, hz2⟩ := info_parts infoRange
  obtain ⟨W0, hW0⟩ : ∃ W0, W0 = (w.alloc (.cells #[.int .i64 f] 49)).alloc (.cells zero10.toArray 29) := ⟨_, rfl⟩
  have K0 := Lib.hid (show Blk W0 w.heap.size [.int .i64 f] 49 by rw [hW0]; exact (Blk.new w [.int .i64 f] 49).alloc _)
  have L0 := Lib.hid (show Blk W0 (w.heap.size + 1) zero10 29 by
    have k := Blk.new (w.alloc (.cells #[.int .i64 f] 49)) zero10 29
    rw [World.size_alloc] at k
    rw [hW0]; exact k)
  have B0 := Lib.hid (show Below w.heap.size w W0 by rw [hW0]; exact ((Below.refl _ w).alloc (Nat.le_refl _) _).alloc (by simp) _)
  have HO := Lib.hid (show Calls Tryz.prog 58 #[.int .i32 c] W0 (OrbOut c W0) from tables_Orbit c W0 h0 h1)
  rw [hW0] at HO
  have HW := Lib.hid hW0
  clear hW0
  go_enter Tryz.func46, Tryz.ntmps46
  go_wp2_with fail
  refine (HO.out).mono ?_
  rintro e w3 ⟨ov, os, rfl, hperm, hown, hB⟩
  rw [← HW.out] at hB
  have hpos : 0 < os.length := by rw [hperm.length_eq]; exact List.length_pos_of_mem (orb_self c)
  obtain ⟨og, ocap, rfl, _, _⟩ := World.ownsRow.form hown hpos
  have K3 := Lib.hid (Blk.below K0.out hB K0.out.lt); have L3 := Lib.hid (Blk.below L0.out hB L0.out.lt)
  have B3 := Lib.hid (B0.out.trans (hB.mono B0.out.size))
  have km := Blk.cell K3.out (j := 0) rfl
  have hol : os.length ≤ 3 := by rw [hperm.length_eq, ← (orb_good h0 h1).2.2.2.length_eq]; exact (orb_good h0 h1).2.1
  have hlt : 1 < os.length := by rw [hperm.length_eq]; exact hn
  have hlt' : (1 : Int) < (os.length : Int) := by omega
  have HPM := Lib.hid hperm; have HOW := Lib.hid hown
  clear hperm hown hB hn hpos
  go_wp2_with fail
  refine (syn_on f 1 _).mono ?_
  rintro e w4 ⟨rfl, hB⟩
  have L4 := Lib.hid (Blk.below L3.out hB L3.out.lt); have B4 := Lib.hid (B3.out.trans (hB.mono B3.out.size))
  have O4 := Lib.hid (show OwnR w4 W0.heap.size (.slice (some ⟨og, 0, none⟩) os.length ocap) os from by rw [HW.out]; exact HOW.out.kept (grownBy_below hB none) (.inr (by simp [Value.ownBlock])))
  clear hB km
  rw [hx]
  go_wp2_with fail
  go_loopw [6, 20] (fun lv iv W => ∃ k : Nat, k ≤ os.length ∧ iv = .int .i64 k ∧ Below w4.heap.size w4 W ∧ W.ownsRow w4.heap.size 61 2 lv (dupR (os.take k)).length (flatR (dupR (os.take k)))) (fun _ iv _ => os.length - (intOf iv).toNat)
  case atStart => exact ⟨0, Nat.zero_le _, rfl, Below.refl _ _, World.ownsRow_nil _ _ _ _⟩
  case round =>
    obtain ⟨k, hk, rfl, hbw, hro⟩ := hrel
    have BW := Lib.hid hbw; have RO := Lib.hid hro
    have OW := Lib.hid (show OwnR wr W0.heap.size (.slice (some ⟨og, 0, none⟩) os.length ocap) os from O4.out.kept (grownBy_below hbw none) (.inr (by simp [Value.ownBlock])))
    clear hbw hro
    by_cases hqo : k < os.length
    case pos =>
      have gq := OW.out.cellAt k (by omega)
      rw [vR_get os k hqo] at gq
      obtain ⟨x, hx'⟩ : ∃ x, os[k] = x := ⟨_, rfl⟩
      rw [hx'] at gq
      have hqi : (k : Int) < (os.length : Int) := by omega
      have HX := Lib.hid hx'; clear hx'
      have hml : (dupR (os.take k)).length ≤ 3 := by rw [dup_len, List.length_take]; omega
      have hzr := BW.out.size
      go_wp2_with (at_builtin; refine wpList_append_own_at _ rfl _ _ 26 rfl w4.heap.size 61 i0 (.agg #[.int .i32 0, .int .i32 0]) 2 8 Tryz.underlying26 hi hz0 hz1 hz2 rfl (by decide) u6 (dupR (os.take k)).length (flatR (dupR (os.take k))) rfl (RO.out.alloc (.cells #[.int .i32 x, .int .i32 x] 61)) ⟨wr.heap.size, 0, none⟩ 1 1 [.int .i32 x, .int .i32 x] rfl rfl (cell_two_new _ _ _ _) (by intro u hu; simp only [List.mem_cons, List.not_mem_nil, or_false, or_self] at hu; subst hu; rfl) (by unfold maxLen; omega) (by omega) (by simp; omega) ?_; intro v' w10 hown hgrow hiff)
      intro hat
      clear hiff hat
      have F10 := Lib.hid (show Below w4.heap.size w4 w10 ∧ w10.ownsRow w4.heap.size 61 2 v' (dupR (os.take (k + 1))).length (flatR (dupR (os.take (k + 1)))) from ⟨below_next (BW.out.alloc hzr _) (Nat.le_refl _) hgrow (fun k' e => (RO.out.lt k' e).1), by
        rw [dup_snoc os k hqo x HX.out, List.length_append, show flatR (dupR (os.take k) ++ [(x, x)]) = flatR (dupR (os.take k)) ++ [.int .i32 x, .int .i32 x] by simp [flatR]]
        exact hown⟩)
      clear hown hgrow gq hml
      go_wp2_with fail
      go_roundw
      case rel => exact ⟨k + 1, hqo, by go_num, F10.out.1, F10.out.2⟩
      case measure => simp [intOf]; omega
    case neg =>
      obtain rfl : k = os.length := by omega
      have hro := RO.out
      rw [List.take_length] at hro
      have hLd : Laid w4 wr (dupR os) u6 := hro
      obtain ⟨la, lc, rfl, hlr, _⟩ := hLd.ranges (by rw [dup_len]; omega)
      have HN := Lib.hid (sets_Norm (dupR os) la (dupR os).length lc wr.heap.size wr hlr (Nat.le_refl _) (by rw [dup_len]; omega))
      clear hro hLd hlr
      go_wp2_with fail
      refine (HN.out).mono ?_
      rintro e w7 ⟨v7, out, rfl, hL7, hs7, hm7, hn7, hB7⟩
      have hIS : IsSet out (fun x => decide (x ∈ orbL c)) := (show IsSet out (fun x => memR (dupR os) x) from ⟨hs7, hm7⟩).congr fun y _ _ => by
        rw [memR_dup, Bool.eq_iff_iff, decide_eq_true_eq, decide_eq_true_eq, HPM.out.mem_iff]
      rw [dup_len] at hn7
      obtain ⟨ya, yc, rfl, hSF⟩ := laid_setF hL7 (by omega)
      have SF := Lib.hid hSF; have NI := Lib.hid (normL_is hIS)
      have B7 := Lib.hid (BW.out.trans (hB7.mono BW.out.size)); have HZ7 := Lib.hid hB7.size
      clear hL7 hs7 hm7 hB7 hIS hSF
      go_wp2_with fail
      refine (syn_set out ya out.length yc (fun k => Fresh wr w7 k) w7 SF.out (fun k hk => hk.2)).mono ?_
      rintro e w8 ⟨cs, rfl, hT8, hB8⟩
      obtain ⟨op, ka, kn, kc, rune, xa, xn, xc, pl, cap, name, mn, mx, lz, rfl⟩ := hT8.form
      have T8 := Lib.hid hT8
      have B8 := Lib.hid (B7.out.trans (hB8.mono (by have := B7.out.size; have := HZ7.out; have := BW.out.size; omega)))
      have L8 := Lib.hid (Blk.below L4.out B8.out L4.out.lt)
      have Z8 := Lib.hid hB8.size
      clear hT8 hB8
      obtain ⟨c0, c1, c2, c3, c4, c5, c6, c7, c8, c9, f0, f1, f2, f3, f4, f5, f6, f7, f8, f9⟩ := L8.out.ten
      go_wp2_with fail
      change bodyPost _ _ _ _ _ (World.set10 w8 (w.heap.size + 1) (.int .i64 op) (.slice ka kn kc) (.int .i32 rune) (.slice xa xn xc) (.int .i64 pl) (.int .i64 cap) (.string name) (.int .i64 mn) (.int .i64 mx) (.bool lz))
      have O := L8.out.set10 (.int .i64 op) (.slice ka kn kc) (.int .i32 rune) (.slice xa xn xc) (.int .i64 pl) (.int .i64 cap) (.string name) (.int .i64 mn) (.int .i64 mx) (.bool lz)
      obtain ⟨d0, d1, d2, d3, d4, d5, d6, d7, d8, d9, _, _, _, _, _, _, _, _, _, _⟩ := O.ten
      have hzw := BW.out.size
      have hz4 := L4.out.lt
      have hz7 := HZ7.out
      have hz8 := Z8.out
      refine ⟨rfl, .agg #[.int .i64 op, .slice ka kn kc, .int .i32 rune, .slice xa xn xc, .int .i64 pl, .int .i64 cap, .string name, .int .i64 mn, .int .i64 mx, .bool lz], ?_, _, rfl, ?_, ?_⟩
      · simp [results, Tryz.results46, go_sem, d0, d1, d2, d3, d4, d5, d6, d7, d8, d9]
      · rw [NI.out]
        refine T8.out.turned (fun k hk => set10_block _ _ _ _ _ _ _ _ _ _ _ _ k (by have := hk.1; omega)) (fun k hk => ⟨by have := hk.1; omega, ?_⟩)
        have e : (World.set10 w8 (w.heap.size + 1) (.int .i64 op) (.slice ka kn kc) (.int .i32 rune) (.slice xa xn xc) (.int .i64 pl) (.int .i64 cap) (.string name) (.int .i64 mn) (.int .i64 mx) (.bool lz)).heap.size = w8.heap.size := by simp [World.set10, World.setCell]
        rw [e]
        have := hk.2; omega
      · exact below_next (B4.out.trans (B8.out.mono B4.out.size)) (Nat.le_refl _) (grownBy_set10 _ _ _ _ _ _ _ _ _ _ _ _) (fun k e => by cases e; omega)
/-- A rune's atom. -/
theorem syn_atom (f c : Int) (w : World) (h0 : 0 ≤ c) (h1 : c ≤ 1114111) :
    Calls Tryz.prog 46 #[.agg #[.int .i64 f], .int .i32 c] w fun e w' => ∃ cs, e = .returned (.agg cs.toArray) ∧ TreeF w' (fun k => Fresh w w' k) (atomT f c) cs ∧ Below w.heap.size w w' := by
  unfold atomT
  by_cases h : onB f 1 = true ∧ 1 < (orbL c).length
  · rw [if_pos h]
    exact syn_atom_set f c w h0 h1 h.1 h.2
  · rw [if_neg h]
    refine (syn_atom_rune f c w h0 h1 h).mono ?_
    rintro e w' ⟨rfl, hB⟩
    exact ⟨_, rfl, leafC_none, hB⟩
end Go.Proofs.YtnhnldmldnhaoaaGreatDoor
