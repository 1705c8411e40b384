/- A tree, or its Kid, if it has one alone to put together: the document's bare. A rune's number: the document's. -/
import Derived.Test.YtihbmgpjihgodaaGreatDoorPrintThrough
import Derived.Test.YtihbmgpjihgodaaGreatDoorQPrintAid
namespace Go.Proofs.YtihbmgpjihgodaaGreatDoor
open Go Go.RowKit Go.Proofs

theorem exists_min (p : Nat → Prop) (h : ∃ n, p n) : ∃ n, p n ∧ ∀ m, p m → n ≤ m := by
  obtain ⟨n, hn⟩ := h
  induction n using Nat.strongRecOn with
  | _ n ih =>
    by_cases hm : ∃ m, m < n ∧ p m
    · obtain ⟨m, h1, h2⟩ := hm
      exact ih m h1 h2
    · exact ⟨n, hn, fun m h => by
        rcases Nat.lt_or_ge m n with h1 | h1
        · exact absurd ⟨m, h1, h⟩ hm
        · exact h1⟩
open Classical in
/-- The least number that p has. -/
noncomputable def minOf (p : Nat → Prop) : Nat := if h : ∃ n, p n then Classical.choose (exists_min p h) else 0
theorem minOf_spec {p : Nat → Prop} (h : ∃ n, p n) : p (minOf p) ∧ ∀ m, p m → minOf p ≤ m := by
  unfold minOf
  rw [dif_pos h]
  exact Classical.choose_spec (exists_min p h)

/-- What the document's loop holds: a tree, of a size. -/
def BareAt (b B : Nat) (t : T) (w : World) (n : Nat) : Prop := ∃ u cs, Blk w b cs 27 ∧ TreeV w B u cs ∧ throughT u = throughT t ∧ SizeOf.sizeOf u = n
set_option maxHeartbeats 4000000 in
theorem ref09_bare (t : T) (cs : List Value) (B : Nat) (w : World) (h : TreeV w B t cs) (hB : B ≤ w.heap.size) :
    Calls Tryz.prog 28 #[.agg cs.toArray] w (TreeOut w B (throughT t)) := by
  have H := Lib.hid h
  have HBB := Lib.hid hB
  obtain ⟨op, ka, kn, kc, rune, sa, sn, sc, pl, cap, name, mn, mx, lz, rfl⟩ := h.form
  clear h hB
  go_enter Tryz.func28, Tryz.ntmps28
  go_wp2_with fail
  go_loopw [3] (fun _ wr => (∃ n, BareAt w.heap.size B t wr n) ∧ Blk wr (w.heap.size + 1) zeroT 27 ∧ Below w.heap.size w wr) (fun _ wr => minOf (BareAt w.heap.size B t wr))
  case atStart =>
    refine ⟨⟨_, t, _, (Blk.new w [.int .i64 op, .slice ka kn kc, .int .i32 rune, .slice sa sn sc, .int .i64 pl, .int .i64 cap, .string name, .int .i64 mn, .int .i64 mx, .bool lz] 27).alloc _, H.out.below ((((Below.refl _ w).alloc (Nat.le_refl _) _).trans ((Below.refl _ _).alloc (by simp) _)).mono HBB.out), rfl, rfl⟩, ?_, ((Below.refl _ w).alloc (Nat.le_refl _) _).trans ((Below.refl _ _).alloc (by simp) _)⟩
    have := Blk.new (w.alloc (.cells #[.int .i64 op, .slice ka kn kc, .int .i32 rune, .slice sa sn sc, .int .i64 pl, .int .i64 cap, .string name, .int .i64 mn, .int .i64 mx, .bool lz] 27)) zeroT 27
    simpa only [World.size_alloc] using this
  case round =>
    obtain ⟨hn, hz, hb⟩ := hrel
    obtain ⟨⟨u, cs, hu, hv, he, hs⟩, hmin⟩ := minOf_spec hn
    obtain ⟨uop, ukids, urune, uset, upl, ucap, uname, umn, umx, ulz⟩ := u
    obtain ⟨uka, ukn, ukc, usa, usn, usc, rfl, ⟨rfl, h2, h3⟩, h4⟩ := hv.open
    have HU := Lib.hid hu; have HV := Lib.hid hv; have HE := Lib.hid he; have HM := Lib.hid hs; have HZ := Lib.hid hz; have HB := Lib.hid hb; have H3 := Lib.hid h3
    have c0 := hu.cell (j := 0) rfl
    have c1 := hu.cell (j := 1) rfl
    have c2 := hu.cell (j := 2) rfl
    have c3 := hu.cell (j := 3) rfl
    have c4 := hu.cell (j := 4) rfl
    have c5 := hu.cell (j := 5) rfl
    have c6 := hu.cell (j := 6) rfl
    have c7 := hu.cell (j := 7) rfl
    have c8 := hu.cell (j := 8) rfl
    have c9 := hu.cell (j := 9) rfl
    have z0 := hz.cell (j := 0) rfl
    have y0 := hz.frozen 0
    have z1 := hz.cell (j := 1) rfl
    have y1 := hz.frozen 1
    have z2 := hz.cell (j := 2) rfl
    have y2 := hz.frozen 2
    have z3 := hz.cell (j := 3) rfl
    have y3 := hz.frozen 3
    have z4 := hz.cell (j := 4) rfl
    have y4 := hz.frozen 4
    have z5 := hz.cell (j := 5) rfl
    have y5 := hz.frozen 5
    have z6 := hz.cell (j := 6) rfl
    have y6 := hz.frozen 6
    have z7 := hz.cell (j := 7) rfl
    have y7 := hz.frozen 7
    have z8 := hz.cell (j := 8) rfl
    have y8 := hz.frozen 8
    have z9 := hz.cell (j := 9) rfl
    have y9 := hz.frozen 9
    have x0 := hu.frozen 0
    have x1 := hu.frozen 1
    have x2 := hu.frozen 2
    have x3 := hu.frozen 3
    have x4 := hu.frozen 4
    have x5 := hu.frozen 5
    have x6 := hu.frozen 6
    have x7 := hu.frozen 7
    have x8 := hu.frozen 8
    have x9 := hu.frozen 9
    clear hn hmin hu hv he hs hz hb h3 h4
    by_cases hc : ukids.length = 1 ∧ (uop = 11 ∨ uop = 12)
    · obtain ⟨h1, ho⟩ := hc
      obtain ⟨k1, rfl⟩ : ∃ k1, ukids = [k1] := List.length_eq_one_iff.1 h1
      obtain ⟨b, o, rfl, hbB, hK⟩ : ∃ b o, uka = some ⟨b, o, none⟩ ∧ b < B ∧ KidsAt wr B [k1] b o := H3.out.resolve_left (by simp)
      obtain ⟨cs1, hc1, hr1⟩ := (KidsAt.cons.1 hK).1
      have HC := Lib.hid hc1
      obtain ⟨op1, ka1, kn1, kc1, rune1, sa1, sn1, sc1, pl1, cap1, name1, mn1, mx1, lz1, rfl⟩ := hc1.form
      obtain ⟨g0, g1, g2, g3, g4, g5, g6, g7, g8, g9⟩ := hr1.ten
      have HN := Lib.hid (show throughT k1 = throughT t by rw [← HE.out, throughT_one, if_pos ho])
      clear hK hc1 hr1
      simp only [List.length_singleton] at *
      rcases ho with rfl | rfl
      · go_wp2_with fail
        obtain ⟨W3, hW3⟩ : ∃ W3, W3 = World.set10 wr w.heap.size (.int .i64 op1) (.slice ka1 kn1 kc1) (.int .i32 rune1) (.slice sa1 sn1 sc1) (.int .i64 pl1) (.int .i64 cap1) (.string name1) (.int .i64 mn1) (.int .i64 mx1) (.bool lz1) := ⟨_, rfl⟩
        have hb3 := HU.out.set10 (.int .i64 op1) (.slice ka1 kn1 kc1) (.int .i32 rune1) (.slice sa1 sn1 sc1) (.int .i64 pl1) (.int .i64 cap1) (.string name1) (.int .i64 mn1) (.int .i64 mx1) (.bool lz1)
        have hg3 := grownBy_set10 wr w.heap.size (.int .i64 op1) (.slice ka1 kn1 kc1) (.int .i32 rune1) (.slice sa1 sn1 sc1) (.int .i64 pl1) (.int .i64 cap1) (.string name1) (.int .i64 mn1) (.int .i64 mx1) (.bool lz1)
        rw [← hW3] at hb3 hg3
        unfold World.set10 at hW3
        rw [← hW3]
        clear hW3
        have hB3 : Below w.heap.size w W3 := below_next HB.out (Nat.le_refl _) hg3 (fun k e => by cases e; exact Nat.le_refl _)
        have hV3 := HC.out.below ((Below.refl _ wr).grown hg3 (Nat.le_trans HBB.out HB.out.size) (fun k e => by cases e; exact HBB.out) : Below B wr W3)
        have hz3 : Blk W3 (w.heap.size + 1) zeroT 27 := HZ.out.grown hg3 (by simp)
        have hA : BareAt w.heap.size B t W3 (SizeOf.sizeOf k1) := ⟨k1, _, hb3, hV3, HN.out, rfl⟩
        have hlt : minOf (BareAt w.heap.size B t W3) < minOf (BareAt w.heap.size B t wr) := by
          have h1 := (minOf_spec ⟨_, hA⟩).2 _ hA
          have h2 := HM.out
          simp at h2
          omega
        go_roundw
        case rel => exact ⟨⟨_, hA⟩, hz3, hB3⟩
        case measure => exact hlt
      · go_wp2_with fail
        obtain ⟨W3, hW3⟩ : ∃ W3, W3 = World.set10 wr w.heap.size (.int .i64 op1) (.slice ka1 kn1 kc1) (.int .i32 rune1) (.slice sa1 sn1 sc1) (.int .i64 pl1) (.int .i64 cap1) (.string name1) (.int .i64 mn1) (.int .i64 mx1) (.bool lz1) := ⟨_, rfl⟩
        have hb3 := HU.out.set10 (.int .i64 op1) (.slice ka1 kn1 kc1) (.int .i32 rune1) (.slice sa1 sn1 sc1) (.int .i64 pl1) (.int .i64 cap1) (.string name1) (.int .i64 mn1) (.int .i64 mx1) (.bool lz1)
        have hg3 := grownBy_set10 wr w.heap.size (.int .i64 op1) (.slice ka1 kn1 kc1) (.int .i32 rune1) (.slice sa1 sn1 sc1) (.int .i64 pl1) (.int .i64 cap1) (.string name1) (.int .i64 mn1) (.int .i64 mx1) (.bool lz1)
        rw [← hW3] at hb3 hg3
        unfold World.set10 at hW3
        rw [← hW3]
        clear hW3
        have hB3 : Below w.heap.size w W3 := below_next HB.out (Nat.le_refl _) hg3 (fun k e => by cases e; exact Nat.le_refl _)
        have hV3 := HC.out.below ((Below.refl _ wr).grown hg3 (Nat.le_trans HBB.out HB.out.size) (fun k e => by cases e; exact HBB.out) : Below B wr W3)
        have hz3 : Blk W3 (w.heap.size + 1) zeroT 27 := HZ.out.grown hg3 (by simp)
        have hA : BareAt w.heap.size B t W3 (SizeOf.sizeOf k1) := ⟨k1, _, hb3, hV3, HN.out, rfl⟩
        have hlt : minOf (BareAt w.heap.size B t W3) < minOf (BareAt w.heap.size B t wr) := by
          have h1 := (minOf_spec ⟨_, hA⟩).2 _ hA
          have h2 := HM.out
          simp at h2
          omega
        go_roundw
        case rel => exact ⟨⟨_, hA⟩, hz3, hB3⟩
        case measure => exact hlt
    · have HN := Lib.hid (throughT_other (t := .mk uop ukids urune uset upl ucap uname umn umx ulz) (by simp only [T.kids, T.op]; exact not_one hc))
      by_cases h1 : uop = 11 ∨ uop = 12
      · have d1 : ((ukids.length : Int) == 1) = false := by
          have : ukids.length ≠ 1 := fun e => hc ⟨e, h1⟩
          simp; omega
        clear hc
        rcases h1 with rfl | rfl
        · go_wp2_with fail
          obtain ⟨W3, hW3⟩ : ∃ W3, W3 = World.set10 wr (w.heap.size + 1) (.int .i64 11) (.slice uka ukids.length ukc) (.int .i32 urune) (.slice usa usn usc) (.int .i64 upl) (.int .i64 ucap) (.string uname) (.int .i64 umn) (.int .i64 umx) (.bool ulz) := ⟨_, rfl⟩
          have hb3 := HZ.out.set10 (.int .i64 11) (.slice uka ukids.length ukc) (.int .i32 urune) (.slice usa usn usc) (.int .i64 upl) (.int .i64 ucap) (.string uname) (.int .i64 umn) (.int .i64 umx) (.bool ulz)
          have hg3 := grownBy_set10 wr (w.heap.size + 1) (.int .i64 11) (.slice uka ukids.length ukc) (.int .i32 urune) (.slice usa usn usc) (.int .i64 upl) (.int .i64 ucap) (.string uname) (.int .i64 umn) (.int .i64 umx) (.bool ulz)
          rw [← hW3] at hb3 hg3
          unfold World.set10 at hW3
          rw [← hW3]
          clear hW3
          have hB3 : Below w.heap.size w W3 := below_next HB.out (Nat.le_refl _) hg3 (fun k e => by cases e; omega)
          have hV3 := HV.out.below ((Below.refl _ wr).grown hg3 (Nat.le_trans HBB.out HB.out.size) (fun k e => by cases e; have := HBB.out; omega) : Below B wr W3)
          rw [show T.mk 11 ukids urune uset upl ucap uname umn umx ulz = throughT t by rw [← HE.out, HN.out]] at hV3
          have q0 := hb3.cell (j := 0) rfl
          have q1 := hb3.cell (j := 1) rfl
          have q2 := hb3.cell (j := 2) rfl
          have q3 := hb3.cell (j := 3) rfl
          have q4 := hb3.cell (j := 4) rfl
          have q5 := hb3.cell (j := 5) rfl
          have q6 := hb3.cell (j := 6) rfl
          have q7 := hb3.cell (j := 7) rfl
          have q8 := hb3.cell (j := 8) rfl
          have q9 := hb3.cell (j := 9) rfl
          refine bodyPost_ret (v := .agg #[.int .i64 11, .slice uka ukids.length ukc, .int .i32 urune, .slice usa usn usc, .int .i64 upl, .int .i64 ucap, .string uname, .int .i64 umn, .int .i64 umx, .bool ulz]) ?_ rfl ⟨⟨_, rfl, hV3⟩, hB3⟩
          simp [results, Tryz.results28, go_sem, q0, q1, q2, q3, q4, q5, q6, q7, q8, q9]
        · go_wp2_with fail
          obtain ⟨W3, hW3⟩ : ∃ W3, W3 = World.set10 wr (w.heap.size + 1) (.int .i64 12) (.slice uka ukids.length ukc) (.int .i32 urune) (.slice usa usn usc) (.int .i64 upl) (.int .i64 ucap) (.string uname) (.int .i64 umn) (.int .i64 umx) (.bool ulz) := ⟨_, rfl⟩
          have hb3 := HZ.out.set10 (.int .i64 12) (.slice uka ukids.length ukc) (.int .i32 urune) (.slice usa usn usc) (.int .i64 upl) (.int .i64 ucap) (.string uname) (.int .i64 umn) (.int .i64 umx) (.bool ulz)
          have hg3 := grownBy_set10 wr (w.heap.size + 1) (.int .i64 12) (.slice uka ukids.length ukc) (.int .i32 urune) (.slice usa usn usc) (.int .i64 upl) (.int .i64 ucap) (.string uname) (.int .i64 umn) (.int .i64 umx) (.bool ulz)
          rw [← hW3] at hb3 hg3
          unfold World.set10 at hW3
          rw [← hW3]
          clear hW3
          have hB3 : Below w.heap.size w W3 := below_next HB.out (Nat.le_refl _) hg3 (fun k e => by cases e; omega)
          have hV3 := HV.out.below ((Below.refl _ wr).grown hg3 (Nat.le_trans HBB.out HB.out.size) (fun k e => by cases e; have := HBB.out; omega) : Below B wr W3)
          rw [show T.mk 12 ukids urune uset upl ucap uname umn umx ulz = throughT t by rw [← HE.out, HN.out]] at hV3
          have q0 := hb3.cell (j := 0) rfl
          have q1 := hb3.cell (j := 1) rfl
          have q2 := hb3.cell (j := 2) rfl
          have q3 := hb3.cell (j := 3) rfl
          have q4 := hb3.cell (j := 4) rfl
          have q5 := hb3.cell (j := 5) rfl
          have q6 := hb3.cell (j := 6) rfl
          have q7 := hb3.cell (j := 7) rfl
          have q8 := hb3.cell (j := 8) rfl
          have q9 := hb3.cell (j := 9) rfl
          refine bodyPost_ret (v := .agg #[.int .i64 12, .slice uka ukids.length ukc, .int .i32 urune, .slice usa usn usc, .int .i64 upl, .int .i64 ucap, .string uname, .int .i64 umn, .int .i64 umx, .bool ulz]) ?_ rfl ⟨⟨_, rfl, hV3⟩, hB3⟩
          simp [results, Tryz.results28, go_sem, q0, q1, q2, q3, q4, q5, q6, q7, q8, q9]
      · have d1 : (uop == 11) = false := by simp; exact fun e => h1 (.inl e)
        have d2 : (uop == 12) = false := by simp; exact fun e => h1 (.inr e)
        clear hc h1
        go_wp2_with fail
        obtain ⟨W3, hW3⟩ : ∃ W3, W3 = World.set10 wr (w.heap.size + 1) (.int .i64 uop) (.slice uka ukids.length ukc) (.int .i32 urune) (.slice usa usn usc) (.int .i64 upl) (.int .i64 ucap) (.string uname) (.int .i64 umn) (.int .i64 umx) (.bool ulz) := ⟨_, rfl⟩
        have hb3 := HZ.out.set10 (.int .i64 uop) (.slice uka ukids.length ukc) (.int .i32 urune) (.slice usa usn usc) (.int .i64 upl) (.int .i64 ucap) (.string uname) (.int .i64 umn) (.int .i64 umx) (.bool ulz)
        have hg3 := grownBy_set10 wr (w.heap.size + 1) (.int .i64 uop) (.slice uka ukids.length ukc) (.int .i32 urune) (.slice usa usn usc) (.int .i64 upl) (.int .i64 ucap) (.string uname) (.int .i64 umn) (.int .i64 umx) (.bool ulz)
        rw [← hW3] at hb3 hg3
        unfold World.set10 at hW3
        rw [← hW3]
        clear hW3
        have hB3 : Below w.heap.size w W3 := below_next HB.out (Nat.le_refl _) hg3 (fun k e => by cases e; omega)
        have hV3 := HV.out.below ((Below.refl _ wr).grown hg3 (Nat.le_trans HBB.out HB.out.size) (fun k e => by cases e; have := HBB.out; omega) : Below B wr W3)
        rw [show T.mk uop ukids urune uset upl ucap uname umn umx ulz = throughT t by rw [← HE.out, HN.out]] at hV3
        have q0 := hb3.cell (j := 0) rfl
        have q1 := hb3.cell (j := 1) rfl
        have q2 := hb3.cell (j := 2) rfl
        have q3 := hb3.cell (j := 3) rfl
        have q4 := hb3.cell (j := 4) rfl
        have q5 := hb3.cell (j := 5) rfl
        have q6 := hb3.cell (j := 6) rfl
        have q7 := hb3.cell (j := 7) rfl
        have q8 := hb3.cell (j := 8) rfl
        have q9 := hb3.cell (j := 9) rfl
        refine bodyPost_ret (v := .agg #[.int .i64 uop, .slice uka ukids.length ukc, .int .i32 urune, .slice usa usn usc, .int .i64 upl, .int .i64 ucap, .string uname, .int .i64 umn, .int .i64 umx, .bool ulz]) ?_ rfl ⟨⟨_, rfl, hV3⟩, hB3⟩
        simp [results, Tryz.results28, go_sem, q0, q1, q2, q3, q4, q5, q6, q7, q8, q9]
end Go.Proofs.YtihbmgpjihgodaaGreatDoor

namespace Go.Proofs.YtihbmgpjihgodaaGreatDoor
open Go Go.RowKit Go.Proofs Go.Shelf

set_option maxRecDepth 100000 in
set_option maxHeartbeats 1000000 in
theorem ref09_code (c : Int) (w : World) (h0 : 0 ≤ c) (hn : c < 2147483648) (hT : Bru w) :
    Calls Tryz.prog 50 #[.int .i32 c] w fun e w' => e = .returned (.string ⟨(codeTx c).toArray⟩) ∧ Below w.heap.size w w' := by
  obtain ⟨n, rfl⟩ : ∃ n : Nat, c = n := ⟨c.toNat, by omega⟩
  go_enter Tryz.func50, Tryz.ntmps50
  go_wp2_with fail
  refine (FormatInt16 n w (by omega) hT).mono ?_
  rintro e w1 ⟨rfl, hB⟩
  generalize hA : (⟨(hexTx n).toArray⟩ : ByteArray) = A
  have h8 : A.size ≤ 8 := by rw [← hA]; exact hexTx_len 7 n (by omega)
  have HA := Lib.hid hA
  clear hA
  go_wp2_with fail
  go_ret
  refine ⟨?_, hB⟩
  rw [← HA.out]
  show Ending.returned (.string ((⟨[92, 120, 123].toArray⟩ : ByteArray) ++ ⟨(hexTx n).toArray⟩ ++ ⟨[125].toArray⟩)) = _
  rw [ba_app, ba_app]
  simp [codeTx]
end Go.Proofs.YtihbmgpjihgodaaGreatDoor
