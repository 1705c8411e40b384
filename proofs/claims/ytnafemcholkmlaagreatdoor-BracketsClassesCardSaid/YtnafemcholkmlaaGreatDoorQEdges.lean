/- The edges of some lists of ranges: sets.edges. A tree's parts, in order, and the walk that hands them on. -/
import Derived.Test.YtnafemcholkmlaaGreatDoorQSortEdges
import Derived.Test.YtnafemcholkmlaaGreatDoorQBase
import Derived.Maps.AppendAt
import Derived.RangeFuncBox
import Derived.Lib.OthersKept
import Derived.Lib.FrozenHead
import Derived.Test.YtnafemcholkmlaaGreatDoorProg
import Derived.RangeFuncNested
import Derived.RangeFuncBound
import Derived.RangeFuncCalls
import Derived.RangeFuncLeaves
import Derived.RangeFuncWrites
import Derived.Shelf.Abstract
import Derived.Shelf.RegionOpen
import Derived.WalkKit
import Derived.OwnWalkIn
import Derived.TacticsInMore
import Derived.LoopNIn
import Derived.LoopIn
import Derived.Lib.Hide
namespace Go.Proofs.YtnafemcholkmlaaGreatDoor
open Go Go.RowKit Go.Proofs Go.Shelf

theorem infoEdge : (Tryz.prog.info? 97).map (fun i => (i.zero, i.size, i.bytes)) = some (some (.agg #[.int .i32 0, .int .i64 0]), 2, 16) := by kernel_rfl

/-- Slices of ranges, one behind the other. -/
def ListsAt (w : World) (B : Nat) (ls : List (List (Int × Int))) (b : Nat) : Prop :=
  ∀ j (h : j < ls.length), ∃ sa sn sc, w.cell? ⟨b, j, none⟩ = some (.slice sa sn sc) ∧ RangesV w B ls[j] sa sn sc

def edgesOf (ls : List (List (Int × Int))) : List (Int × Int) := ls.flatMap edgesL
theorem edgesOf_snoc (a : List (List (Int × Int))) (x : List (Int × Int)) : edgesOf (a ++ [x]) = edgesOf a ++ edgesL x := by simp [edgesOf]
theorem edgesL_snoc (a : List (Int × Int)) (l h : Int) : edgesL (a ++ [(l, h)]) = edgesL a ++ (if max l 0 ≤ min h 1114111 then [(max l 0, 1), (min h 1114111 + 1, -1)] else []) := by
  rw [edges_append]; simp [edgesL]
theorem take_snoc {α} (l : List α) (k : Nat) (h : k < l.length) : l.take (k + 1) = l.take k ++ [l[k]] := by simp

theorem edgesOf_split (ls : List (List (Int × Int))) (k : Nat) (h : k < ls.length) : edgesOf ls = edgesOf (ls.take k) ++ (edgesL ls[k] ++ edgesOf (ls.drop (k + 1))) := by
  have e : ls = ls.take k ++ (ls[k] :: ls.drop (k + 1)) := by rw [← List.drop_eq_getElem_cons h, List.take_append_drop]
  calc edgesOf ls = edgesOf (ls.take k ++ (ls[k] :: ls.drop (k + 1))) := by rw [← e]
    _ = _ := by unfold edgesOf; rw [List.flatMap_append, List.flatMap_cons]
theorem cells_four_new (w : World) (a b c d : Value) (t : TypeId) : ∀ j u, [a, b, c, d][j]? = some u → (w.alloc (.cells #[a, b, c, d] t)).cell? ((⟨w.heap.size, 0, none⟩ : Addr).add j) = some u := by
  intro j u hj
  match j, hj with
  | 0, hj => simp at hj; subst hj; simp [Addr.add]
  | 1, hj => simp at hj; subst hj; simp [Addr.add]
  | 2, hj => simp at hj; subst hj; simp [Addr.add]
  | 3, hj => simp at hj; subst hj; simp [Addr.add]
  | j + 4, hj => simp at hj

set_option maxRecDepth 100000 in
set_option maxHeartbeats 1000000 in
theorem edges_any (ls : List (List (Int × Int))) (b c B : Nat) (w : World) (h : ListsAt w B ls b) (hb : b < w.heap.size) (hB : B ≤ w.heap.size) (hn : ls.length ≤ 1000) (hN : (edgesOf ls).length ≤ 4000000000000) :
    Calls Tryz.prog 40 #[.slice (some ⟨b, 0, none⟩) ls.length c] w fun e w' => ∃ v es, e = .returned v ∧ es.Perm (edgesOf ls) ∧ es.Pairwise (fun a b => a.1 ≤ b.1) ∧
      w'.ownsRow w.heap.size 97 2 v es.length (flatE es) ∧ Below w.heap.size w w' := by
  obtain ⟨i0, hi, hz0, hz1, hz2⟩ := info_parts infoEdge
  have H := Lib.hid h; clear h
  go_enter Tryz.func40, Tryz.ntmps40
  go_wp2_with fail
  go_loopw [3, 12] (fun v i wr => ∃ k : Nat, k ≤ ls.length ∧ i = .int .i64 k ∧ wr.ownsRow w.heap.size 97 2 v (edgesOf (ls.take k)).length (flatE (edgesOf (ls.take k))) ∧ Below w.heap.size w wr) (fun _ i _ => ls.length - (intOf i).toNat)
  case atStart => exact ⟨0, Nat.zero_le _, rfl, by simpa [edgesOf, flatE] using World.ownsRow_nil _ _ _ _, Below.refl _ _⟩
  case round =>
    obtain ⟨k, hk, rfl, ho, hbw⟩ := hrel
    by_cases hlt : k < ls.length
    · obtain ⟨sa, sn, sc, hc, hR⟩ := H.out k hlt
      have hc' := cell_lift hbw hb hc
      have HSN := Lib.hid hR.1
      have HR := Lib.hid hR.2
      have HT := Lib.hid (take_snoc ls k hlt)
      have HO := Lib.hid ho; have HB := Lib.hid hbw
      clear hc hR ho hbw
      go_wp2_with fail
      go_loopw [3, 18] (fun v i wr => ∃ k2 : Nat, k2 ≤ ls[k].length ∧ i = .int .i64 k2 ∧ wr.ownsRow w.heap.size 97 2 v (edgesOf (ls.take k) ++ edgesL (ls[k].take k2)).length (flatE (edgesOf (ls.take k) ++ edgesL (ls[k].take k2))) ∧ Below w.heap.size w wr) (fun _ i _ => ls[k].length - (intOf i).toNat)
      case atStart => exact ⟨0, Nat.zero_le _, rfl, by simpa [edgesL] using HO.out, HB.out⟩
      case round =>
        obtain ⟨k2, hk2, rfl, ho2, hbi⟩ := hrel
        have hsn := HSN.out
        have hsn2 := HR.out.1.2
        have HOI := Lib.hid ho2; have HBI := Lib.hid hbi; have HBS := Lib.hid hbi.size
        clear ho2 hbi
        by_cases hlt2 : k2 < ls[k].length
        · rcases HR.out.2 with h0 | ⟨b2, o2, rfl, hb2B, hRA⟩
          · omega
          · obtain ⟨g1, g2⟩ := (hRA.below (HBI.out.mono hB) hb2B).get k2 hlt2
            have HS2 := Lib.hid (show edgesL (ls[k].take (k2 + 1)) = edgesL (ls[k].take k2) ++ (if max ls[k][k2].1 0 ≤ min ls[k][k2].2 1114111 then [(max ls[k][k2].1 0, 1), (min ls[k][k2].2 1114111 + 1, -1)] else []) by
              rw [take_snoc _ _ hlt2]; exact edgesL_snoc _ _ _)
            have HNL := Lib.hid (show ((edgesOf (ls.take k) ++ edgesL (ls[k].take k2)) ++ (if max ls[k][k2].1 0 ≤ min ls[k][k2].2 1114111 then [(max ls[k][k2].1 0, (1 : Int)), (min ls[k][k2].2 1114111 + 1, -1)] else [])).length ≤ 4000000000000 from by
              refine Nat.le_trans ?_ hN
              rw [List.append_assoc, ← HS2.out, edgesOf_split ls k hlt]
              have e2 : edgesL ls[k] = edgesL (ls[k].take (k2 + 1)) ++ edgesL (ls[k].drop (k2 + 1)) := by rw [← edges_append, List.take_append_drop]
              rw [e2]; simp only [List.length_append]; omega)
            obtain ⟨es, hes⟩ : ∃ es, es = edgesOf (ls.take k) ++ edgesL (ls[k].take k2) := ⟨_, rfl⟩
            rw [← hes] at HOI HNL
            obtain ⟨l, hll⟩ : ∃ l, ls[k][k2].1 = l := ⟨_, rfl⟩
            obtain ⟨h, hhh⟩ : ∃ h, ls[k][k2].2 = h := ⟨_, rfl⟩
            rw [hll] at g1 HS2 HNL; rw [hhh] at g2 HS2 HNL
            have HES := Lib.hid hes
            clear hRA hll hhh hes
            have hlt3 : k2 < sn := by omega
            clear hsn
            go_wp2_with fail
            go_region
            have HO3 := Lib.hid (show (wr.alloc (.cells #[.int .i32 l, .int .i32 h] 43)).drew.ownsRow w.heap.size 97 2 u3 es.length (flatE es) from (HOI.out.alloc _))
            have HB3 := Lib.hid (below_drewN (HBI.out.alloc HBS.out (.cells #[.int .i32 l, .int .i32 h] 43)) 1)
            obtain ⟨W1, hW1⟩ : ∃ W1, (wr.alloc (.cells #[.int .i32 l, .int .i32 h] 43)).drew = W1 := ⟨_, rfl⟩
            have HB4 := Lib.hid (show Below w.heap.size w W1 from hW1 ▸ HB3.out)
            rw [hW1] at HO3 ⊢
            obtain ⟨lo, hlo⟩ : ∃ lo, max l 0 = lo := ⟨_, rfl⟩
            obtain ⟨hi', hhi⟩ : ∃ hi', min h 1114111 = hi' := ⟨_, rfl⟩
            have hr1 : 0 ≤ lo := by omega
            have hr2 : hi' ≤ 1114111 := by omega
            rw [hlo, hhi] at HS2 HNL ⊢
            clear hW1 HB3 hlo hhi g1 g2
            by_cases c3 : lo ≤ hi'
            · have hwr : IntKind.i32.wrap (hi' + 1) = hi' + 1 := IntWalk.i32_in _ (by omega)
              rw [if_pos c3] at HS2 HNL
              have hle : es.length + 2 ≤ 4000000000000 := by have := HNL.out; simpa using this
              have hW1s := HB4.out.size
              go_wp2_with (at_builtin; refine wpList_append_own _ rfl _ _ 73 rfl w.heap.size 97 i0 (.agg #[.int .i32 0, .int .i64 0]) 2 16 Tryz.underlying73 hi hz0 hz1 hz2 rfl (by decide) _ _ _ rfl (HO3.out.alloc _) ⟨W1.heap.size, 0, none⟩ 2 2 [.int .i32 lo, .int .i64 1, .int .i32 (hi' + 1), .int .i64 (-1)] rfl rfl (cells_four_new _ _ _ _ _ _) (fun x hx => by simp at hx; rcases hx with rfl | rfl | rfl | rfl <;> rfl) (by unfold maxLen; omega) (by omega) (by simp; omega) ?_; intro v' w3 hown' hgrow3 hnil3; have X := Lib.hid (And.intro hown' (show Below w.heap.size w w3 from Below.grown (HB4.out.alloc hW1s _) hgrow3 (by simp; omega) (fun j hj => (HO3.out.lt j hj).1))); clear hown' hgrow3 hnil3)
              go_roundw
              case rel =>
                refine ⟨k2 + 1, hlt2, by go_num, ?_, X.out.2⟩
                rw [HS2.out, ← List.append_assoc, ← HES.out, flatE_append, List.length_append]
                exact X.out.1
              case measure => simp [intOf]; omega
            · rw [if_neg c3, List.append_nil] at HS2
              go_wp2_with fail
              go_roundw
              case rel =>
                refine ⟨k2 + 1, hlt2, by go_num, ?_, HB4.out⟩
                rw [HS2.out, ← HES.out]
                exact HO3.out
              case measure => simp [intOf]; omega
        · have hk2' : k2 = ls[k].length := by omega
          subst hk2'
          rw [List.take_length] at HOI
          have hlt3 : ¬ ls[k].length < sn := by omega
          clear hsn
          go_wp2_with fail
          go_roundw
          case rel =>
            refine ⟨k + 1, hlt, by go_num, ?_, HBI.out⟩
            rw [HT.out, edgesOf_snoc]
            exact HOI.out
          case measure => simp [intOf]; omega
    · have hk' : k = ls.length := by omega
      subst hk'
      rw [List.take_length] at ho
      have HO := Lib.hid ho; have HB := Lib.hid hbw
      clear ho hbw
      go_wp2_with fail
      refine (sort_edges _ _ _ _ HO.out (by omega)).mono ?_
      rintro e w2 ⟨rfl, es', hp, hs, ho2, hg⟩
      have HX := Lib.hid (And.intro hp (And.intro hs ho2)); have HG := Lib.hid hg
      clear hp hs ho2 hg
      go_wp2_with fail
      go_ret
      exact ⟨_, es', rfl, HX.out.1, HX.out.2.1, HX.out.2.2, HB.out.grown HG.out HB.out.size (fun j hj => (HO.out.lt j hj).1)⟩
end Go.Proofs.YtnafemcholkmlaaGreatDoor

namespace Go.Proofs.YtnafemcholkmlaaGreatDoor
open Go Go.RowKit Go.Proofs Go.Shelf
attribute [local go_sem] Oper.semAt_some

mutual
/-- All of a tree's parts, in order. -/
def parts : T → List T
  | .mk op kids rune set pl cap name mn mx lz => .mk op kids rune set pl cap name mn mx lz :: partsL kids
def partsL : List T → List T
  | [] => []
  | t :: ts => parts t ++ partsL ts
end
theorem partsL_append (a b : List T) : partsL (a ++ b) = partsL a ++ partsL b := by
  induction a with
  | nil => rfl
  | cons t a ih => simp [partsL, ih]
theorem partsL_take (l : List T) (k : Nat) (h : k < l.length) : partsL (l.take (k + 1)) = partsL (l.take k) ++ parts l[k] := by
  rw [List.take_succ_eq_append_getElem h, partsL_append]; simp [partsL]
theorem partsL_take_prefix (l : List T) (k : Nat) : partsL (l.take k) <+: partsL l := by
  have h := partsL_append (l.take k) (l.drop k)
  rw [List.take_append_drop] at h
  exact ⟨_, h.symm⟩

/-- A part with its cells, as they lay in a world. -/
abbrev Part (w0 : World) (B : Nat) (Pr : T → Prop) := { x : T × List Value // TreeV w0 B x.1 x.2 ∧ Pr x.1 }
theorem mem_partsL {l : List T} {k : Nat} (hk : k < l.length) {p : T} (h : p ∈ parts l[k]) : p ∈ partsL l := by
  have e := partsL_take_prefix l (k + 1)
  rw [partsL_take l k hk] at e
  exact e.subset (List.mem_append.2 (.inr h))
theorem mem_parts_kid {op : Int} {kids : List T} {rune : Int} {set : List (Int × Int)} {pl cap : Int} {name : ByteArray} {mn mx : Int} {lz : Bool} {k : Nat} (hk : k < kids.length) {p : T} (h : p ∈ parts kids[k]) :
    p ∈ parts (.mk op kids rune set pl cap name mn mx lz) := by
  simp only [parts, List.mem_cons]; exact .inr (mem_partsL hk h)
theorem mem_parts_self (t : T) : t ∈ parts t := by cases t; simp [parts]

theorem YieldAt.anyDepthK {F : Fence} (hd : F.depth = none) {m : Nat} (m' : Nat) {P : Program} {l : Nat} {args : Array Value} {W : World} {R : Ending → World → Prop} (h : YieldAt F m P l args W R) : YieldAt F m' P l args W R := by
  obtain ⟨fn, tmps, assign, body, hy, hR⟩ := h
  exact ⟨fn, tmps, assign, body, hy, ⟨hR.1, fun c cs _ => hR.2 c cs (fun d h => by rw [hd] at h; cases h)⟩⟩

end Go.Proofs.YtnafemcholkmlaaGreatDoor
