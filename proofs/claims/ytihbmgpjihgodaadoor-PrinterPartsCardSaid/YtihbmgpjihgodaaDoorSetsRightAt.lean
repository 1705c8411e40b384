/- sets.Right as a contract: is a list a set? -/
import Derived.Test.YtihbmgpjihgodaaDoorSetsOps
import Derived.Test.YtihbmgpjihgodaaDoorQPlainAll
import Derived.Laws.StructEq
import Derived.Shelf.SlicesQ.Equal
namespace Go.Proofs.YtihbmgpjihgodaaDoor
open Go Go.RowKit Go.Proofs Go.Shelf Go.Lib

def encR (x : Int × Int) : List Value := [.int .i32 x.1, .int .i32 x.2]

theorem neqRange : NeqAt Tryd.prog 61 (fun x => .agg (encR x).toArray) (fun x y => x.1 == y.1 && x.2 == y.2) := by
  refine ⟨fun x y w => ?_, GuardAt.agg _ (by kernel_rfl)⟩
  have u21 := Tryd.underlying21
  have a21 := Tryd.isAgg21
  have z21 := Tryd.sizeOf21
  have hS : Tryd.prog.underlying 61 = some (.struct (Tryd.prog.fieldsOf 61)) := by kernel_rfl
  have hp : Tryd.prog.stoodInHeld 61 = false := by kernel_rfl
  simp only [encR]
  rw [run_neq_struct, show (10000 : Nat) = 9999 + 1 from rfl, run_equalIn_agg w 9999 61 _ _ hS hp]
  simp only [Program.fieldsOf, Tryd.underlying61]
  go_simp
  by_cases h1 : x.fst = y.fst <;> by_cases h2 : x.snd = y.snd <;> simp [h1, h2]

theorem allEq_iff : ∀ (xs ys : List (Int × Int)), allEq (fun x y : Int × Int => x.1 == y.1 && x.2 == y.2) xs ys = decide (xs = ys)
  | [], [] => by simp [allEq]
  | [], _ :: _ => by simp [allEq]
  | _ :: _, [] => by simp [allEq]
  | x :: xs, y :: ys => by
    rw [allEq, allEq_iff xs ys]
    obtain ⟨a, b⟩ := x; obtain ⟨c, d⟩ := y
    rw [Bool.eq_iff_iff]
    simp [and_assoc]

theorem equal_len (a1 a2 : Option Addr) (n1 c1 n2 c2 : Nat) (w : World) (h : n1 ≠ n2) :
    Calls Tryd.prog 35 #[.slice a1 n1 c1, .slice a2 n2 c2] w fun e w' => e = .returned (.bool false) ∧ Below w.heap.size w w' := by
  have h' : (n1 : Int) ≠ n2 := by omega
  have h2 : ((n1 : Int) != n2) = true := by simpa using h'
  go_enter Tryd.func35, Tryd.ntmps35
  go_wp2
  go_ret
  exact ⟨rfl, Below.refl _ _⟩

theorem equal_ranges (xs ys : List (Int × Int)) (b1 o1 c1 b2 o2 c2 : Nat) (w : World) (h1 : RangesAt w xs b1 o1) (h2 : RangesAt w ys b2 o2) (hx : xs.length ≤ 140737488351232) (hy : ys.length ≤ 140737488351232) :
    Calls Tryd.prog 35 #[.slice (some ⟨b1, o1, none⟩) xs.length c1, .slice (some ⟨b2, o2, none⟩) ys.length c2] w fun e w' => e = .returned (.bool (decide (xs = ys))) ∧ Below w.heap.size w w' := by
  have key : ∀ (zs : List (Int × Int)) (b o : Nat), RangesAt w zs b o → ∀ j, j < zs.length → ∀ i v, (encR zs[j]!)[i]? = some v → w.cell? ⟨b, o + j * 2 + i, none⟩ = some v := by
    intro zs b o h j hj i v hv
    obtain ⟨g1, g2⟩ := h.get j hj
    rw [getElem!_pos zs j hj] at hv
    match i, hv with
    | 0, hv => simp [encR] at hv; subst hv; simpa using g1
    | 1, hv => simp [encR] at hv; subst hv; exact g2
    | i + 2, hv => simp [encR] at hv
  refine (AnyQ.slices_Equal Tryd.equalRanges 2 Tryd.isAgg61 Tryd.sizeOf61 encR (fun _ => rfl) _ neqRange b1 o1 xs.length c1 b2 o2 ys.length c2 xs ys w (Nat.le_refl _) (Nat.le_refl _) (by omega) (by omega) (key xs b1 o1 h1) (key ys b2 o2 h2)).mono ?_
  rintro e w' ⟨rfl, q, rfl⟩
  rw [List.take_length, List.take_length, allEq_iff]
  exact ⟨rfl, below_drewN (Below.refl _ _) q⟩

set_option maxHeartbeats 1000000 in
/-- The contract that PlainAll and Right want. -/
theorem sets_Right : SetsRight (fun rs => rs.length ≤ 1000000000000) := by
  intro rs hN B W sa sn sc h hB hsn
  have HN := Lib.hid (sets_Norm rs sa sn sc B W h hB hN)
  have HH := Lib.hid h
  obtain ⟨rfl, h2, h3⟩ := h
  obtain ⟨b, o, rfl, hb, hra⟩ := h3.resolve_left (by omega)
  clear h2 h3
  have HRA := Lib.hid hra; clear hra
  go_enter Tryd.func25, Tryd.ntmps25
  go_wp2_with fail
  refine (HN.out).mono ?_
  rintro e w1 ⟨v, out, rfl, p1, p2, p3, p4, p5⟩
  obtain ⟨oa, oc, rfl, q1, q2⟩ := p1.ranges (by omega)
  have HQ := Lib.hid (right_iff p2 p3)
  have HB1 := Lib.hid p5
  have hcall : Calls Tryd.prog 35 #[.slice (some ⟨b, o, none⟩) rs.length sc, .slice oa out.length oc] w1 fun e w' => e = .returned (.bool (setRight rs)) ∧ Below w1.heap.size w1 w' := by
    rw [← HQ.out]
    by_cases hl : rs.length = out.length
    · rcases q1.2.2 with h0 | ⟨g, go, rfl, hg, hr⟩
      · omega
      · exact equal_ranges rs out b o sc g go oc w1 (HRA.out.below (p5.mono hB) hb) hr (by omega) (by omega)
    · have : decide (rs = out) = false := decide_eq_false fun e => hl (by rw [e])
      rw [this]
      exact equal_len _ _ _ _ _ _ w1 hl
  have HC := Lib.hid hcall
  clear hcall p1 p2 p3 p4 p5 q1 q2
  go_wp2_with fail
  refine (HC.out).mono ?_
  rintro e w2 ⟨rfl, hb2⟩
  have HB2 := Lib.hid hb2; clear hb2
  go_wp2_with fail
  go_ret
  exact ⟨rfl, HB1.out.trans (HB2.out.mono HB1.out.size)⟩
end Go.Proofs.YtihbmgpjihgodaaDoor
