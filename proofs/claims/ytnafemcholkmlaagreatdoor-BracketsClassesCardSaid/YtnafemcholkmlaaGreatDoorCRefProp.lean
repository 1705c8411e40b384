/- The document's sets of a name: martelloref04.Property. (Printed by gen_refprop.py.) martelloref04.set: a list of ranges of pairs. The document's sets of a letter: martelloref04.Perl. (Printed by gen_refperl.py.) The document's escape: martelloref06.perls, Escape. (Printed by gen_refesc.py.) The document's escape: martelloref06.Escape. (Printed by gen_refesc.py.) martelloref06.Escape, whole. -/
import Derived.Test.YtnafemcholkmlaaGreatDoorNShiftPure
import Derived.Test.YtnafemcholkmlaaGreatDoorQProperty
import Derived.Test.YtnafemcholkmlaaGreatDoorQSetsNot
import Derived.Deep.AppendLies
import Derived.Deep.RegionLaw
import Derived.Test.YtnafemcholkmlaaGreatDoorQPerl
import Derived.Test.YtnafemcholkmlaaGreatDoorQEscSpec
import Derived.Test.YtnafemcholkmlaaGreatDoorQRefNum2
namespace Go.Proofs.YtnafemcholkmlaaGreatDoor
open Go Go.RowKit Go.Proofs Go.Shelf
open Lib (hid)

theorem SetOf.prop {w0 w : World} {p q : Int → Bool} {N : Nat} {v : Value} {out : List (Int × Int)} {w' : World} (h1 : Laid w w' out v) (h2 : setRight out = true) (h3 : ∀ c, memR out c = (decide (0 ≤ c) && decide (c ≤ 1114111) && p c)) (h4 : out.length ≤ N) (h5 : Below w.heap.size w w')
    (hb : Below w0.heap.size w0 w) (hN : N ≤ 1000) (hq : ∀ c, 0 ≤ c → c ≤ 1114111 → p c = q c) : PropR w0 (some q) (.returned (.tuple #[v, .bool true])) w' :=
  ⟨v, out, rfl, Joins.ownsRow_le h1 hb.size, (show IsSet out p from ⟨h2, h3⟩).congr hq, by omega, hb.trans (h5.mono hb.size)⟩
theorem Laid.mono {w0 w w' : World} {out : List (Int × Int)} {v : Value} (h : Laid w w' out v) (hb : w0.heap.size ≤ w.heap.size) : Laid w0 w' out v := Joins.ownsRow_le h hb
theorem ranges_nil (w : World) (B : Nat) : RangesV w B [] none 0 0 := ⟨rfl, ⟨Nat.le_refl _, by omega⟩, .inl rfl⟩

set_option maxHeartbeats 2000000 in
theorem rprop_1_any (name : ByteArray) (nt : Bool) (w : World) (h0 : 0 < name.size) (hb : ((name[0].toNat : Int) == 94) = false) (hn : name.data.toList = [65, 110, 121]) :
    Calls Tryz.prog 96 #[.string name, .bool nt] w (PropR w (some fun _ => !(false != nt))) := by
  obtain ⟨s2, hs2⟩ : ∃ s2 : ByteArray, name = s2 := ⟨_, rfl⟩
  have HS2 := hid (show s2.toList = [65, 110, 121] by rw [← hs2, ByteArray.toList_eq]; exact hn)
  have hq : (s2.toList == [65, 110, 121]) = true := by rw [HS2.out]; rfl
  have HN := hid (ref03_named s2)
  have H4 := hid (show tabOf [65, 110, 121] = none by decide)
  subst hs2
  clear hn
  have hlen : (0 : Int) < name.size := by omega
  cases nt
  all_goals (
    go_enter Tryz.func96, Tryz.ntmps96
    go_wp2_with fail
    refine (HN.out _).mono ?_
    rintro e w2 ⟨v, rfl, p1, p2⟩
    rw [HS2.out, H4.out] at p1 ⊢
    simp only [Option.isSome_none, Option.getD_none] at p1 ⊢
    have HB := hid p2
    clear p1 p2
    go_wp2_with fail
    refine (ref02_Not [] none 0 0 w2.heap.size w2 (ranges_nil _ _) (Nat.le_refl _) (by simp)).mono ?_
    rintro e w3 ⟨v3, o3, rfl, q1, q2, q3, q4, q5⟩
    obtain ⟨sa, sc, rfl, hr, _⟩ := q1.ranges (by simp at q4; omega)
    have HNOT := hid (ref02_Not o3 sa o3.length sc w3.heap.size w3 hr (Nat.le_refl _) (by simp at q4; omega))
    have Q1 := hid q1; have Q2 := hid q2; have Q3 := hid q3; have Q4 := hid q4; have Q5 := hid q5
    clear q1 q2 q3 q4 q5 hr
    go_wp2_with fail)
  · go_ret2
    exact SetOf.prop Q1.out Q2.out Q3.out Q4.out Q5.out HB.out (by simp) (fun c _ _ => by simp [memR])
  · refine (HNOT.out).mono ?_
    rintro e w4 ⟨v4, o4, rfl, q1, q2, q3, q4, q5⟩
    have P1 := hid q1; have P2 := hid q2; have P3 := hid q3; have P4 := hid q4; have P5 := hid q5
    clear q1 q2 q3 q4 q5
    go_wp2_with fail
    go_ret2
    exact SetOf.prop P1.out P2.out P3.out P4.out P5.out (HB.out.trans (Q5.out.mono HB.out.size)) (by have := Q4.out; simp at this; omega) (fun c h0 h1 => by rw [Q3.out]; simp [memR, h0, h1])

set_option maxHeartbeats 2000000 in
theorem rprop_1_none (name : ByteArray) (nm : List UInt8) (nt : Bool) (w : World) (h0 : 0 < name.size) (hb : ((name[0].toNat : Int) == 94) = false) (hn : name.data.toList = nm) (h3 : (nm == [65, 110, 121]) = false) (h4 : tabOf nm = none) :
    Calls Tryz.prog 96 #[.string name, .bool nt] w (PropR w none) := by
  obtain ⟨s2, hs2⟩ : ∃ s2 : ByteArray, name = s2 := ⟨_, rfl⟩
  have HS2 := hid (show s2.toList = nm by rw [← hs2, ByteArray.toList_eq]; exact hn)
  have hq : (s2.toList == [65, 110, 121]) = false := by rw [HS2.out]; exact h3
  have HN := hid (ref03_named s2)
  have H4 := hid h4
  subst hs2
  clear hn h3 h4
  have hlen : (0 : Int) < name.size := by omega
  cases nt
  all_goals (
    go_enter Tryz.func96, Tryz.ntmps96
    go_wp2_with fail
    refine (HN.out _).mono ?_
    rintro e w2 ⟨v, rfl, p1, p2⟩
    rw [HS2.out, H4.out] at p1 ⊢
    simp only [Option.isSome_none, Option.getD_none] at p1 ⊢
    have HB := hid p2; have HL := hid p1
    clear p1 p2
    go_wp2_with fail
    go_ret2
    exact ⟨_, [], rfl, HL.out, rfl, by simp, HB.out⟩)

set_option maxHeartbeats 2000000 in
theorem rprop_1_tab (name : ByteArray) (nm : List UInt8) (nt : Bool) (w : World) (h0 : 0 < name.size) (hb : ((name[0].toNat : Int) == 94) = false) (hn : name.data.toList = nm) (l : List (Int × Int)) (h3 : (nm == [65, 110, 121]) = false) (h4 : tabOf nm = some l) :
    Calls Tryz.prog 96 #[.string name, .bool nt] w (PropR w (some fun c => memR l c != (false != nt))) := by
  obtain ⟨s2, hs2⟩ : ∃ s2 : ByteArray, name = s2 := ⟨_, rfl⟩
  have HS2 := hid (show s2.toList = nm by rw [← hs2, ByteArray.toList_eq]; exact hn)
  have hq : (s2.toList == [65, 110, 121]) = false := by rw [HS2.out]; exact h3
  have HN := hid (ref03_named s2)
  have H4 := hid h4
  subst hs2
  clear hn h3 h4
  have hlen : (0 : Int) < name.size := by omega
  cases nt
  all_goals (
    go_enter Tryz.func96, Tryz.ntmps96
    go_wp2_with fail
    refine (HN.out _).mono ?_
    rintro e w2 ⟨v, rfl, p1, p2⟩
    rw [HS2.out, H4.out] at p1 ⊢
    have HRT := hid (tabOf_right H4.out)
    simp only [Option.isSome_some, Option.getD_some] at p1 ⊢
    obtain ⟨sa, sc, rfl, hr, _⟩ := p1.ranges (by have := HRT.out.2; omega)
    have HB := hid p2; have HL := hid p1
    have HNOT := hid (ref02_Not l sa l.length sc w2.heap.size w2 hr (Nat.le_refl _) (by have := HRT.out.2; omega))
    clear p1 p2 hr
    go_wp2_with fail)
  · go_ret2
    exact ⟨_, l, rfl, HL.out, (IsSet.of_right HRT.out.1).congr (fun c _ _ => by simp), by have := HRT.out.2; omega, HB.out⟩
  · refine (HNOT.out).mono ?_
    rintro e w3 ⟨v3, o3, rfl, q1, q2, q3, q4, q5⟩
    have Q1 := hid q1; have Q2 := hid q2; have Q3 := hid q3; have Q4 := hid q4; have Q5 := hid q5
    clear q1 q2 q3 q4 q5
    go_wp2_with fail
    go_ret2
    exact SetOf.prop Q1.out Q2.out Q3.out Q4.out Q5.out HB.out (by have := HRT.out.2; omega) (fun c _ _ => by simp)

set_option maxHeartbeats 2000000 in
theorem rprop_2_any (name : ByteArray) (nt : Bool) (w : World) (h0 : 0 < name.size) (hb : ((name[0].toNat : Int) == 94) = true) (hn : name.data.toList.drop 1 = [65, 110, 121]) :
    Calls Tryz.prog 96 #[.string name, .bool nt] w (PropR w (some fun _ => !(true != nt))) := by
  obtain ⟨s2, hs2⟩ : ∃ s2 : ByteArray, name.extract 1 name.size = s2 := ⟨_, rfl⟩
  have HS2 := hid (show s2.toList = [65, 110, 121] by rw [← hs2, ByteArray.toList_eq, Lib.extract_data, List.take_of_length_le (by simp)]; exact hn)
  have HX := hid hs2
  have hq : (s2.toList == [65, 110, 121]) = true := by rw [HS2.out]; rfl
  have HN := hid (ref03_named s2)
  have H4 := hid (show tabOf [65, 110, 121] = none by decide)
  clear hs2 hn
  have hlen : (0 : Int) < name.size := by omega
  have hlen1 : (1 : Int) ≤ name.size := by omega
  cases nt
  all_goals (
    go_enter Tryz.func96, Tryz.ntmps96
    go_wp2_with fail
    rw [HX.out]
    refine (HN.out _).mono ?_
    rintro e w2 ⟨v, rfl, p1, p2⟩
    rw [HS2.out, H4.out] at p1 ⊢
    simp only [Option.isSome_none, Option.getD_none] at p1 ⊢
    have HB := hid p2
    clear p1 p2
    go_wp2_with fail
    refine (ref02_Not [] none 0 0 w2.heap.size w2 (ranges_nil _ _) (Nat.le_refl _) (by simp)).mono ?_
    rintro e w3 ⟨v3, o3, rfl, q1, q2, q3, q4, q5⟩
    obtain ⟨sa, sc, rfl, hr, _⟩ := q1.ranges (by simp at q4; omega)
    have HNOT := hid (ref02_Not o3 sa o3.length sc w3.heap.size w3 hr (Nat.le_refl _) (by simp at q4; omega))
    have Q1 := hid q1; have Q2 := hid q2; have Q3 := hid q3; have Q4 := hid q4; have Q5 := hid q5
    clear q1 q2 q3 q4 q5 hr
    go_wp2_with fail)
  · refine (HNOT.out).mono ?_
    rintro e w4 ⟨v4, o4, rfl, q1, q2, q3, q4, q5⟩
    have P1 := hid q1; have P2 := hid q2; have P3 := hid q3; have P4 := hid q4; have P5 := hid q5
    clear q1 q2 q3 q4 q5
    go_wp2_with fail
    go_ret2
    exact SetOf.prop P1.out P2.out P3.out P4.out P5.out (HB.out.trans (Q5.out.mono HB.out.size)) (by have := Q4.out; simp at this; omega) (fun c h0 h1 => by rw [Q3.out]; simp [memR, h0, h1])
  · go_ret2
    exact SetOf.prop Q1.out Q2.out Q3.out Q4.out Q5.out HB.out (by simp) (fun c _ _ => by simp [memR])

set_option maxHeartbeats 2000000 in
theorem rprop_2_none (name : ByteArray) (nm : List UInt8) (nt : Bool) (w : World) (h0 : 0 < name.size) (hb : ((name[0].toNat : Int) == 94) = true) (hn : name.data.toList.drop 1 = nm) (h3 : (nm == [65, 110, 121]) = false) (h4 : tabOf nm = none) :
    Calls Tryz.prog 96 #[.string name, .bool nt] w (PropR w none) := by
  obtain ⟨s2, hs2⟩ : ∃ s2 : ByteArray, name.extract 1 name.size = s2 := ⟨_, rfl⟩
  have HS2 := hid (show s2.toList = nm by rw [← hs2, ByteArray.toList_eq, Lib.extract_data, List.take_of_length_le (by simp)]; exact hn)
  have HX := hid hs2
  have hq : (s2.toList == [65, 110, 121]) = false := by rw [HS2.out]; exact h3
  have HN := hid (ref03_named s2)
  have H4 := hid h4
  clear hs2 hn h3 h4
  have hlen : (0 : Int) < name.size := by omega
  have hlen1 : (1 : Int) ≤ name.size := by omega
  cases nt
  all_goals (
    go_enter Tryz.func96, Tryz.ntmps96
    go_wp2_with fail
    rw [HX.out]
    refine (HN.out _).mono ?_
    rintro e w2 ⟨v, rfl, p1, p2⟩
    rw [HS2.out, H4.out] at p1 ⊢
    simp only [Option.isSome_none, Option.getD_none] at p1 ⊢
    have HB := hid p2; have HL := hid p1
    clear p1 p2
    go_wp2_with fail
    go_ret2
    exact ⟨_, [], rfl, HL.out, rfl, by simp, HB.out⟩)

set_option maxHeartbeats 2000000 in
theorem rprop_2_tab (name : ByteArray) (nm : List UInt8) (nt : Bool) (w : World) (h0 : 0 < name.size) (hb : ((name[0].toNat : Int) == 94) = true) (hn : name.data.toList.drop 1 = nm) (l : List (Int × Int)) (h3 : (nm == [65, 110, 121]) = false) (h4 : tabOf nm = some l) :
    Calls Tryz.prog 96 #[.string name, .bool nt] w (PropR w (some fun c => memR l c != (true != nt))) := by
  obtain ⟨s2, hs2⟩ : ∃ s2 : ByteArray, name.extract 1 name.size = s2 := ⟨_, rfl⟩
  have HS2 := hid (show s2.toList = nm by rw [← hs2, ByteArray.toList_eq, Lib.extract_data, List.take_of_length_le (by simp)]; exact hn)
  have HX := hid hs2
  have hq : (s2.toList == [65, 110, 121]) = false := by rw [HS2.out]; exact h3
  have HN := hid (ref03_named s2)
  have H4 := hid h4
  clear hs2 hn h3 h4
  have hlen : (0 : Int) < name.size := by omega
  have hlen1 : (1 : Int) ≤ name.size := by omega
  cases nt
  all_goals (
    go_enter Tryz.func96, Tryz.ntmps96
    go_wp2_with fail
    rw [HX.out]
    refine (HN.out _).mono ?_
    rintro e w2 ⟨v, rfl, p1, p2⟩
    rw [HS2.out, H4.out] at p1 ⊢
    have HRT := hid (tabOf_right H4.out)
    simp only [Option.isSome_some, Option.getD_some] at p1 ⊢
    obtain ⟨sa, sc, rfl, hr, _⟩ := p1.ranges (by have := HRT.out.2; omega)
    have HB := hid p2; have HL := hid p1
    have HNOT := hid (ref02_Not l sa l.length sc w2.heap.size w2 hr (Nat.le_refl _) (by have := HRT.out.2; omega))
    clear p1 p2 hr
    go_wp2_with fail)
  · refine (HNOT.out).mono ?_
    rintro e w3 ⟨v3, o3, rfl, q1, q2, q3, q4, q5⟩
    have Q1 := hid q1; have Q2 := hid q2; have Q3 := hid q3; have Q4 := hid q4; have Q5 := hid q5
    clear q1 q2 q3 q4 q5
    go_wp2_with fail
    go_ret2
    exact SetOf.prop Q1.out Q2.out Q3.out Q4.out Q5.out HB.out (by have := HRT.out.2; omega) (fun c _ _ => by simp)
  · go_ret2
    exact ⟨_, l, rfl, HL.out, (IsSet.of_right HRT.out.1).congr (fun c _ _ => by simp), by have := HRT.out.2; omega, HB.out⟩

theorem rprop_nil (nt : Bool) (w : World) : Calls Tryz.prog 96 #[.string ⟨#[]⟩, .bool nt] w (PropR w none) := by
  have HN := hid (ref03_named ⟨#[]⟩)
  have H4 := hid (show tabOf (⟨#[]⟩ : ByteArray).toList = none by rw [ByteArray.toList_eq]; decide)
  cases nt
  all_goals (
    go_enter Tryz.func96, Tryz.ntmps96
    go_wp2_with fail
    refine (HN.out _).mono ?_
    rintro e w2 ⟨v, rfl, p1, p2⟩
    rw [H4.out] at p1 ⊢
    simp only [Option.isSome_none, Option.getD_none] at p1 ⊢
    have HB := hid p2; have HL := hid p1
    clear p1 p2
    go_wp2_with fail
    go_ret2
    exact ⟨_, [], rfl, HL.out, rfl, by simp, HB.out⟩)

/-- The contract of martelloref04.Property. -/
theorem ref04_Property (name : ByteArray) (nt : Bool) (w : World) : Calls Tryz.prog 96 #[.string name, .bool nt] w (PropR w (propSpec name.data.toList nt)) := by
  unfold propSpec propOf
  by_cases h0 : 0 < name.size
  · have hl : name.data.toList = name[0] :: name.data.toList.drop 1 := by
      rw [← List.drop_zero (l := name.data.toList), List.drop_eq_getElem_cons (by simpa using h0)]
      simp
      rfl
    by_cases hb : name[0] = 94
    · have h1 : Lib.hasPrefix name.data.toList [94] = true := by rw [hl, hb]; rfl
      have h2 : Lib.trimPrefix name.data.toList [94] = name.data.toList.drop 1 := by unfold Lib.trimPrefix; rw [h1]; rfl
      have hb' : ((name[0].toNat : Int) == 94) = true := by rw [hb]; rfl
      rw [h1, h2]
      by_cases h : name.data.toList.drop 1 = [65, 110, 121]
      · rw [if_pos (by rw [h]; rfl)]
        exact rprop_2_any name nt w h0 hb' h
      · have h' : (name.data.toList.drop 1 == [65, 110, 121]) = false := beq_eq_false_iff_ne.2 h
        rw [if_neg (by rw [h']; decide)]
        cases ht : tabOf (name.data.toList.drop 1) with
        | none => exact rprop_2_none name _ nt w h0 hb' rfl h' ht
        | some l => exact rprop_2_tab name _ nt w h0 hb' rfl l h' ht
    · have h1 : Lib.hasPrefix name.data.toList [94] = false := by
        rw [hl]
        simp [Lib.hasPrefix, List.isPrefixOf]
        exact fun e => hb e.symm
      have h2 : Lib.trimPrefix name.data.toList [94] = name.data.toList := by unfold Lib.trimPrefix; rw [h1]; rfl
      have hb' : ((name[0].toNat : Int) == 94) = false := by
        rw [beq_eq_false_iff_ne]
        intro e
        have h9 : name[0].toNat = 94 := by omega
        exact hb (UInt8.toNat_inj.1 h9)
      rw [h1, h2]
      by_cases h : name.data.toList = [65, 110, 121]
      · rw [if_pos (by rw [h]; rfl)]
        exact rprop_1_any name nt w h0 hb' h
      · have h' : (name.data.toList == [65, 110, 121]) = false := beq_eq_false_iff_ne.2 h
        rw [if_neg (by rw [h']; decide)]
        cases ht : tabOf name.data.toList with
        | none => exact rprop_1_none name _ nt w h0 hb' rfl h' ht
        | some l => exact rprop_1_tab name _ nt w h0 hb' rfl l h' ht
  · obtain rfl : name = ⟨#[]⟩ := by
      cases name with | mk d =>
      have h9 : d.size = 0 := Nat.eq_zero_of_not_pos h0
      rw [Array.eq_empty_of_size_eq_zero h9]
    exact rprop_nil nt w

set_option maxHeartbeats 1000000 in
set_option maxRecDepth 100000 in
theorem ref04_set (ps : List (Int × Int)) (b c : Nat) (w : World) (h : RangesAt w ps b 0) (hb : b < w.heap.size) (hN : ps.length ≤ 1000000000) :
    Calls Tryz.prog 90 #[.slice (some ⟨b, 0, none⟩) ps.length c] w fun e w' => ∃ v, e = .returned v ∧ Laid w w' ps v ∧ Below w.heap.size w w' := by
  obtain ⟨i0, hi, hz0, hz1, hz2⟩ := info_parts infoRange
  have H := hid h; clear h
  go_enter Tryz.func90, Tryz.ntmps90
  go_wp2_with fail
  go_loopw [3, 4] (fun v i wr => ∃ k : Nat, k ≤ ps.length ∧ i = .int .i64 k ∧ wr.ownsRow w.heap.size 43 2 v k (flatR (ps.take k)) ∧ Below w.heap.size w wr) (fun _ i _ => ps.length - (intOf i).toNat)
  case atStart => exact ⟨0, Nat.zero_le _, rfl, World.ownsRow_nil _ _ _ _, Below.refl _ _⟩
  case round =>
    obtain ⟨k, hk, rfl, ho, hbw⟩ := hrel
    by_cases hlt : k < ps.length
    · obtain ⟨g1, g2⟩ := (H.out.below hbw hb).get k hlt
      have HT := hid (flatR_take ps k hlt)
      obtain ⟨l, hl⟩ : ∃ l, ps[k].1 = l := ⟨_, rfl⟩
      obtain ⟨h, hh⟩ : ∃ h, ps[k].2 = h := ⟨_, rfl⟩
      rw [hl] at g1 HT; rw [hh] at g2 HT
      have c126 : Tryz.prog.cellsOf 71 = 2 := by kernel_rfl
      have HO := hid ho; have HB := hid hbw; have HBS := hid hbw.size
      rw [Nat.zero_add] at g1 g2
      clear hl hh ho hbw
      go_wp2_with fail
      go_region_law ((refine step_append_lies _ (by rfl) _ _ 24 (by rfl) w.heap.size 43 i0 (.agg #[.int .i32 0, .int .i32 0]) 2 8 Tryz.underlying24 hi hz0 hz1 hz2 rfl (by decide) _ _ _ (by rfl) (HO.out.alloc _) ⟨wr.heap.size, 0, none⟩ 1 1 [.int .i32 l, .int .i32 h] (by rfl) rfl (cells_two_at _ _ (by simp) _ _ _) (fun x hx => by simp at hx; rcases hx with rfl | rfl <;> rfl) (by decide) (by unfold maxLen; omega) (by omega) (by have := HBS.out; simp; omega) (wr.heap.size + 1) (by simp) ?_; intro g cap w3 hown' hgrow3 hat3 hlt3))
      all_goals (
        have HX := hid (And.intro hown' (show Below w.heap.size w w3 from Below.grown ((HB.out.trans (below_drewN (Below.refl _ _) 1)).alloc (by have := HBS.out; simp; omega) _) hgrow3 (by have := HBS.out; simp; omega) (fun j hj => (HO.out.lt j hj).1)))
        clear hown' hgrow3 hat3 hlt3
        simp only [Act.put, Array.setIfInBounds]
        go_simp
        go_wp2_with fail
        go_roundw
        case rel =>
          refine ⟨k + 1, hlt, by go_num, ?_, HX.out.2⟩
          rw [HT.out]; exact HX.out.1
        case measure => simp [intOf]; omega)
    · obtain rfl : k = ps.length := by omega
      rw [List.take_length] at ho
      have HO := hid ho; have HB := hid hbw; clear ho hbw
      go_wp2_with fail
      go_ret
      exact ⟨_, rfl, HO.out, HB.out⟩

set_option maxHeartbeats 1000000 in
set_option maxRecDepth 100000 in
theorem rperl_100 (w : World) : Calls Tryz.prog 135 #[.int .u8 100] w fun e w' => ∃ v, e = .returned (.tuple #[v, .bool true]) ∧ Laid w w' [(48, 57)] v ∧ Below w.heap.size w w' := by
  have hr : RangesAt (w.alloc (.cells (flatR [(48, 57)]).toArray 71)) [(48, 57)] w.heap.size 0 := RangesAt.of_cells _ 0 fun j hj => ⟨by rw [Nat.zero_add]; exact (Blk.new w (flatR [(48, 57)]) 71).cell (flatR_get _ j hj).1, by rw [Nat.zero_add]; exact (Blk.new w (flatR [(48, 57)]) 71).cell (flatR_get _ j hj).2⟩
  have hs := ref04_set [(48, 57)] w.heap.size 1 _ hr (by simp) (by decide)
  have HS := hid hs; clear hs hr
  go_enter Tryz.func135, Tryz.ntmps135
  go_wp2_with fail
  refine (HS.out).mono ?_
  rintro e w1 ⟨v, rfl, h1, h2⟩
  have H1 := hid h1; have H2 := hid h2; clear h1 h2
  go_wp2_with fail
  go_ret2
  have hb := (Below.refl w.heap.size w).alloc (Nat.le_refl _) (.cells (flatR [(48, 57)]).toArray 71)
  exact ⟨v, rfl, Joins.ownsRow_le H1.out hb.size, hb.trans (H2.out.mono hb.size)⟩

set_option maxHeartbeats 1000000 in
set_option maxRecDepth 100000 in
theorem rperl_68 (w : World) : Calls Tryz.prog 135 #[.int .u8 68] w (PropR w (some fun x => memR [(48, 57)] x != true)) := by
  have HC := hid (rperl_100 w)
  go_enter Tryz.func135, Tryz.ntmps135
  go_wp2_with fail
  refine (HC.out).mono ?_
  rintro e w1 ⟨v, rfl, h1, h2⟩
  obtain ⟨sa, sc, rfl, hr, _⟩ := h1.ranges (by decide)
  have HNOT := hid (ref02_Not [(48, 57)] sa _ sc w1.heap.size w1 hr (Nat.le_refl _) (by decide))
  have HB := hid h2; clear h1 h2 hr
  go_wp2_with fail
  refine (HNOT.out).mono ?_
  rintro e w3 ⟨v3, o3, rfl, q1, q2, q3, q4, q5⟩
  have Q1 := hid q1; have Q2 := hid q2; have Q3 := hid q3; have Q4 := hid q4; have Q5 := hid q5
  clear q1 q2 q3 q4 q5
  go_wp2_with fail
  go_ret2
  exact SetOf.prop Q1.out Q2.out Q3.out Q4.out Q5.out HB.out (by decide) (fun c _ _ => by simp)

set_option maxHeartbeats 1000000 in
set_option maxRecDepth 100000 in
theorem rperl_115 (w : World) : Calls Tryz.prog 135 #[.int .u8 115] w fun e w' => ∃ v, e = .returned (.tuple #[v, .bool true]) ∧ Laid w w' [(9, 10), (12, 13), (32, 32)] v ∧ Below w.heap.size w w' := by
  have hr : RangesAt (w.alloc (.cells (flatR [(9, 10), (12, 13), (32, 32)]).toArray 71)) [(9, 10), (12, 13), (32, 32)] w.heap.size 0 := RangesAt.of_cells _ 0 fun j hj => ⟨by rw [Nat.zero_add]; exact (Blk.new w (flatR [(9, 10), (12, 13), (32, 32)]) 71).cell (flatR_get _ j hj).1, by rw [Nat.zero_add]; exact (Blk.new w (flatR [(9, 10), (12, 13), (32, 32)]) 71).cell (flatR_get _ j hj).2⟩
  have hs := ref04_set [(9, 10), (12, 13), (32, 32)] w.heap.size 3 _ hr (by simp) (by decide)
  have HS := hid hs; clear hs hr
  go_enter Tryz.func135, Tryz.ntmps135
  go_wp2_with fail
  refine (HS.out).mono ?_
  rintro e w1 ⟨v, rfl, h1, h2⟩
  have H1 := hid h1; have H2 := hid h2; clear h1 h2
  go_wp2_with fail
  go_ret2
  have hb := (Below.refl w.heap.size w).alloc (Nat.le_refl _) (.cells (flatR [(9, 10), (12, 13), (32, 32)]).toArray 71)
  exact ⟨v, rfl, Joins.ownsRow_le H1.out hb.size, hb.trans (H2.out.mono hb.size)⟩

set_option maxHeartbeats 1000000 in
set_option maxRecDepth 100000 in
theorem rperl_83 (w : World) : Calls Tryz.prog 135 #[.int .u8 83] w (PropR w (some fun x => memR [(9, 10), (12, 13), (32, 32)] x != true)) := by
  have HC := hid (rperl_115 w)
  go_enter Tryz.func135, Tryz.ntmps135
  go_wp2_with fail
  refine (HC.out).mono ?_
  rintro e w1 ⟨v, rfl, h1, h2⟩
  obtain ⟨sa, sc, rfl, hr, _⟩ := h1.ranges (by decide)
  have HNOT := hid (ref02_Not [(9, 10), (12, 13), (32, 32)] sa _ sc w1.heap.size w1 hr (Nat.le_refl _) (by decide))
  have HB := hid h2; clear h1 h2 hr
  go_wp2_with fail
  refine (HNOT.out).mono ?_
  rintro e w3 ⟨v3, o3, rfl, q1, q2, q3, q4, q5⟩
  have Q1 := hid q1; have Q2 := hid q2; have Q3 := hid q3; have Q4 := hid q4; have Q5 := hid q5
  clear q1 q2 q3 q4 q5
  go_wp2_with fail
  go_ret2
  exact SetOf.prop Q1.out Q2.out Q3.out Q4.out Q5.out HB.out (by decide) (fun c _ _ => by simp)

set_option maxHeartbeats 1000000 in
set_option maxRecDepth 100000 in
theorem rperl_119 (w : World) : Calls Tryz.prog 135 #[.int .u8 119] w fun e w' => ∃ v, e = .returned (.tuple #[v, .bool true]) ∧ Laid w w' [(48, 57), (65, 90), (95, 95), (97, 122)] v ∧ Below w.heap.size w w' := by
  have hr : RangesAt (w.alloc (.cells (flatR [(48, 57), (65, 90), (95, 95), (97, 122)]).toArray 71)) [(48, 57), (65, 90), (95, 95), (97, 122)] w.heap.size 0 := RangesAt.of_cells _ 0 fun j hj => ⟨by rw [Nat.zero_add]; exact (Blk.new w (flatR [(48, 57), (65, 90), (95, 95), (97, 122)]) 71).cell (flatR_get _ j hj).1, by rw [Nat.zero_add]; exact (Blk.new w (flatR [(48, 57), (65, 90), (95, 95), (97, 122)]) 71).cell (flatR_get _ j hj).2⟩
  have hs := ref04_set [(48, 57), (65, 90), (95, 95), (97, 122)] w.heap.size 4 _ hr (by simp) (by decide)
  have HS := hid hs; clear hs hr
  go_enter Tryz.func135, Tryz.ntmps135
  go_wp2_with fail
  refine (HS.out).mono ?_
  rintro e w1 ⟨v, rfl, h1, h2⟩
  have H1 := hid h1; have H2 := hid h2; clear h1 h2
  go_wp2_with fail
  go_ret2
  have hb := (Below.refl w.heap.size w).alloc (Nat.le_refl _) (.cells (flatR [(48, 57), (65, 90), (95, 95), (97, 122)]).toArray 71)
  exact ⟨v, rfl, Joins.ownsRow_le H1.out hb.size, hb.trans (H2.out.mono hb.size)⟩

set_option maxHeartbeats 1000000 in
set_option maxRecDepth 100000 in
theorem rperl_87 (w : World) : Calls Tryz.prog 135 #[.int .u8 87] w (PropR w (some fun x => memR [(48, 57), (65, 90), (95, 95), (97, 122)] x != true)) := by
  have HC := hid (rperl_119 w)
  go_enter Tryz.func135, Tryz.ntmps135
  go_wp2_with fail
  refine (HC.out).mono ?_
  rintro e w1 ⟨v, rfl, h1, h2⟩
  obtain ⟨sa, sc, rfl, hr, _⟩ := h1.ranges (by decide)
  have HNOT := hid (ref02_Not [(48, 57), (65, 90), (95, 95), (97, 122)] sa _ sc w1.heap.size w1 hr (Nat.le_refl _) (by decide))
  have HB := hid h2; clear h1 h2 hr
  go_wp2_with fail
  refine (HNOT.out).mono ?_
  rintro e w3 ⟨v3, o3, rfl, q1, q2, q3, q4, q5⟩
  have Q1 := hid q1; have Q2 := hid q2; have Q3 := hid q3; have Q4 := hid q4; have Q5 := hid q5
  clear q1 q2 q3 q4 q5
  go_wp2_with fail
  go_ret2
  exact SetOf.prop Q1.out Q2.out Q3.out Q4.out Q5.out HB.out (by decide) (fun c _ _ => by simp)

set_option maxHeartbeats 1000000 in
theorem rperl_none (c : Int) (w : World) (h : ¬ (c = 100 ∨ c = 68) ∧ ¬ (c = 115 ∨ c = 83) ∧ ¬ (c = 119 ∨ c = 87)) : Calls Tryz.prog 135 #[.int .u8 c] w (PropR w none) := by
  have n1 : (c == 100) = false := beq_eq_false_iff_ne.2 (by omega)
  have n2 : (c == 68) = false := beq_eq_false_iff_ne.2 (by omega)
  have n3 : (c == 115) = false := beq_eq_false_iff_ne.2 (by omega)
  have n4 : (c == 83) = false := beq_eq_false_iff_ne.2 (by omega)
  have n5 : (c == 119) = false := beq_eq_false_iff_ne.2 (by omega)
  have n6 : (c == 87) = false := beq_eq_false_iff_ne.2 (by omega)
  clear h
  go_enter Tryz.func135, Tryz.ntmps135
  go_wp2_with fail
  go_ret2
  exact ⟨_, [], rfl, World.ownsRow_nil _ _ _ _, rfl, by simp, Below.refl _ _⟩

theorem perl_yes {l : List (Int × Int)} {w w' : World} {e : Ending} (hr : setRight l = true) (hl : l.length ≤ 1000) (h : ∃ v, e = .returned (.tuple #[v, .bool true]) ∧ Laid w w' l v ∧ Below w.heap.size w w') : PropR w (some fun x => memR l x != false) e w' := by
  obtain ⟨v, rfl, h1, h2⟩ := h
  exact ⟨v, l, rfl, h1, (IsSet.of_right hr).congr (fun c _ _ => by simp), hl, h2⟩

/-- The contract of martelloref04.Perl. -/
theorem ref04_Perl (c : Int) (w : World) : Calls Tryz.prog 135 #[.int .u8 c] w (PropR w (perlSpec c)) := by
  by_cases h : (c = 100 ∨ c = 68) ∨ (c = 115 ∨ c = 83) ∨ (c = 119 ∨ c = 87)
  · rcases h with (rfl | rfl) | (rfl | rfl) | (rfl | rfl)
    · exact (rperl_100 w).mono fun e w' h => perl_yes (by decide) (by decide) h
    · exact rperl_68 w
    · exact (rperl_115 w).mono fun e w' h => perl_yes (by decide) (by decide) h
    · exact rperl_83 w
    · exact (rperl_119 w).mono fun e w' h => perl_yes (by decide) (by decide) h
    · exact rperl_87 w
  · have h2 : perlSpec c = none := by unfold perlSpec perlL; rw [if_neg (by omega), if_neg (by omega), if_neg (by omega)]; rfl
    rw [h2]
    exact rperl_none c w ⟨by omega, by omega, by omega⟩

def esc0R : List Value := [.int .i64 0, .int .i32 0, .slice none 0 0, .int .i64 0]
def wrong0R : List Value := [.int .i64 0, .int .i64 0, .int .i64 0]
theorem own_neR {w : World} {base n : Nat} {e : TypeId} {v : Value} {xs : List Value} (h : w.ownsRow base e 2 v n xs) {b : Nat} (hb : b < base) : v.ownBlock = none ∨ v.ownBlock ≠ some b := by
  rcases h.2 with ⟨rfl, _⟩ | ⟨g, cap, _, rfl, hg, _⟩
  · exact .inl rfl
  · refine .inr fun h => ?_
    simp [Value.ownBlock] at h
    omega
theorem ownsRow_setCellR {w : World} {base n : Nat} {e : TypeId} {v : Value} {xs : List Value} (h : w.ownsRow base e 2 v n xs) {b : Nat} (hb : b < base) (j : Nat) (x : Value) : (w.setCell ⟨b, j, none⟩ x).ownsRow base e 2 v n xs :=
  h.kept (grownBy_setCell w b j x) (own_neR h hb)
def perlsT (k r : Int) (v : Value) (a q : Int) (is : Bool) : Value := .tuple #[.agg #[.int .i64 k, .int .i32 r, v, .int .i64 a], .int .i64 q, .bool is]

set_option maxRecDepth 100000 in
set_option maxHeartbeats 4000000 in
theorem perls_place (c q : Int) (w : World) (h : placeI c ≠ 0) :
    Calls Tryz.prog 97 #[.int .i32 c, .int .i64 q] w fun e w' => e = .returned (perlsT 3 0 (.slice none 0 0) (placeI c) q true) ∧ Below w.heap.size w w' := by
  have HP := hid (ref06_place c)
  obtain ⟨a, ha⟩ : ∃ a, placeI c = a := ⟨_, rfl⟩
  rw [ha] at h ⊢
  simp only [ha] at HP
  have hb : (a != 0) = true := by simpa using h
  clear ha h
  go_enter Tryz.func97, Tryz.ntmps97
  go_wp2_with fail
  refine (HP.out _).mono ?_
  rintro e w1 ⟨rfl, rfl⟩
  go_wp2_with fail
  refine (HP.out _).mono ?_
  rintro e w1 ⟨rfl, rfl⟩
  go_wp2_with fail
  have k := Blk.new w [.int .i64 3, .int .i32 0, .slice none 0 0, .int .i64 a] 64
  have k0 := Blk.cell k (j := 0) rfl; have k1 := Blk.cell k (j := 1) rfl; have k2 := Blk.cell k (j := 2) rfl; have k3 := Blk.cell k (j := 3) rfl
  refine bodyPost_ret (v := perlsT 3 0 (.slice none 0 0) a q true) ?_ rfl ⟨rfl, ?_⟩
  · simp [results, Tryz.results97, perlsT, go_sem, k0, k1, k2, k3]
  · exact (Below.refl _ w).alloc (Nat.le_refl _) _

set_option maxRecDepth 100000 in
set_option maxHeartbeats 4000000 in
theorem perls_quote (c q : Int) (w : World) (h : placeI c = 0) (h2 : c = 81) :
    Calls Tryz.prog 97 #[.int .i32 c, .int .i64 q] w fun e w' => e = .returned (perlsT 4 0 (.slice none 0 0) 0 q true) ∧ Below w.heap.size w w' := by
  have HP := hid (ref06_place c)
  have n1 : (c == 81) = true := by simp; omega
  clear h2
  simp only [h] at HP
  clear h
  go_enter Tryz.func97, Tryz.ntmps97
  go_wp2_with fail
  refine (HP.out _).mono ?_
  rintro e w1 ⟨rfl, rfl⟩
  go_wp2_with fail
  have k := Blk.new w [.int .i64 4, .int .i32 0, .slice none 0 0, .int .i64 0] 64
  have k0 := Blk.cell k (j := 0) rfl; have k1 := Blk.cell k (j := 1) rfl; have k2 := Blk.cell k (j := 2) rfl; have k3 := Blk.cell k (j := 3) rfl
  refine bodyPost_ret (v := perlsT 4 0 (.slice none 0 0) 0 q true) ?_ rfl ⟨rfl, ?_⟩
  · simp [results, Tryz.results97, perlsT, go_sem, k0, k1, k2, k3]
  · exact (Below.refl _ w).alloc (Nat.le_refl _) _

set_option maxRecDepth 100000 in
set_option maxHeartbeats 4000000 in
theorem perls_high (c q : Int) (w : World) (h : placeI c = 0) (h2 : c ≠ 81) (h3 : 127 < c) :
    Calls Tryz.prog 97 #[.int .i32 c, .int .i64 q] w fun e w' => e = .returned (perlsT 0 0 (.slice none 0 0) 0 0 false) ∧ Below w.heap.size w w' := by
  have HP := hid (ref06_place c)
  have n1 : (c == 81) = false := by simp; omega
  have n2 : c > 127 := h3
  clear h2 h3
  simp only [h] at HP
  clear h
  go_enter Tryz.func97, Tryz.ntmps97
  go_wp2_with fail
  refine (HP.out _).mono ?_
  rintro e w1 ⟨rfl, rfl⟩
  go_wp2_with fail
  have k := Blk.new w [.int .i64 0, .int .i32 0, .slice none 0 0, .int .i64 0] 64
  have k0 := Blk.cell k (j := 0) rfl; have k1 := Blk.cell k (j := 1) rfl; have k2 := Blk.cell k (j := 2) rfl; have k3 := Blk.cell k (j := 3) rfl
  refine bodyPost_ret (v := perlsT 0 0 (.slice none 0 0) 0 0 false) ?_ rfl ⟨rfl, ?_⟩
  · simp [results, Tryz.results97, perlsT, go_sem, k0, k1, k2, k3]
  · exact (Below.refl _ w).alloc (Nat.le_refl _) _

set_option maxRecDepth 100000 in
set_option maxHeartbeats 4000000 in
theorem perls_none (c q : Int) (w : World) (h : placeI c = 0) (h2 : c ≠ 81) (h0 : 0 ≤ c) (h3 : c ≤ 127) (hq : perlSpec c = none) :
    Calls Tryz.prog 97 #[.int .i32 c, .int .i64 q] w fun e w' => e = .returned (perlsT 0 0 (.slice none 0 0) 0 0 false) ∧ Below w.heap.size w w' := by
  have HP := hid (ref06_place c)
  have n1 : (c == 81) = false := by simp; omega
  have n2 : ¬ c > 127 := by omega
  have n3 : c ≤ 127 := by omega
  clear h2 h3
  have HQ := hid hq; clear hq
  simp only [h] at HP
  clear h
  go_enter Tryz.func97, Tryz.ntmps97
  go_wp2_with fail
  refine (HP.out _).mono ?_
  rintro e w1 ⟨rfl, rfl⟩
  go_wp2_with fail
  have A1 := Blk.new w esc0R 64
  refine (ref04_Perl c _).mono ?_
  rintro e w2 ⟨v, out, rfl, p1, p2, p3, p4⟩
  rw [HQ.out] at p2 ⊢
  obtain ⟨sa, sc, rfl, hr, _⟩ := p1.ranges (by omega)
  have HLD := hid p1; have HST := hid p2; have HLN := hid p3
  have A2 := hid (Blk.below A1 p4 (by simp))
  have B2 := hid (((Below.refl _ w).alloc (Nat.le_refl _) (.cells esc0R.toArray 64)).trans (p4.mono (by simp)))
  clear hr p1 p2 p3 p4 A1
  have a0 := Blk.cell A2.out (j := 0) rfl; have a1 := Blk.cell A2.out (j := 1) rfl; have a2 := Blk.cell A2.out (j := 2) rfl; have a3 := Blk.cell A2.out (j := 3) rfl
  have b0 := A2.out.frozen 0; have b1 := A2.out.frozen 1; have b2 := A2.out.frozen 2; have b3 := A2.out.frozen 3
  go_wp2_with fail
  refine bodyPost_ret (v := perlsT 0 0 (.slice none 0 0) 0 0 false) ?_ rfl ⟨rfl, ?_⟩
  · simp [results, Tryz.results97, perlsT, go_sem, a0, a1, a2, a3]
  · exact (((B2.out.setCell (Nat.le_refl _) _).setCell (Nat.le_refl _) _).setCell (Nat.le_refl _) _).setCell (Nat.le_refl _) _

set_option maxRecDepth 100000 in
set_option maxHeartbeats 4000000 in
theorem perls_set (c q : Int) (w : World) (h : placeI c = 0) (h2 : c ≠ 81) (h0 : 0 ≤ c) (h3 : c ≤ 127) (f : Int → Bool) (hq : perlSpec c = some f) :
    Calls Tryz.prog 97 #[.int .i32 c, .int .i64 q] w fun e w' => ∃ v out, e = .returned (perlsT 2 0 v 0 q true) ∧ Laid w w' out v ∧ IsSet out f ∧ out.length ≤ 1000 ∧ Below w.heap.size w w' := by
  have HP := hid (ref06_place c)
  have n1 : (c == 81) = false := by simp; omega
  have n2 : ¬ c > 127 := by omega
  have n3 : c ≤ 127 := by omega
  clear h2 h3
  have HQ := hid hq; clear hq
  simp only [h] at HP
  clear h
  go_enter Tryz.func97, Tryz.ntmps97
  go_wp2_with fail
  refine (HP.out _).mono ?_
  rintro e w1 ⟨rfl, rfl⟩
  go_wp2_with fail
  have A1 := Blk.new w esc0R 64
  refine (ref04_Perl c _).mono ?_
  rintro e w2 ⟨v, out, rfl, p1, p2, p3, p4⟩
  rw [HQ.out] at p2 ⊢
  obtain ⟨sa, sc, rfl, hr, _⟩ := p1.ranges (by omega)
  have HLD := hid p1; have HST := hid p2; have HLN := hid p3
  have A2 := hid (Blk.below A1 p4 (by simp))
  have B2 := hid (((Below.refl _ w).alloc (Nat.le_refl _) (.cells esc0R.toArray 64)).trans (p4.mono (by simp)))
  clear hr p1 p2 p3 p4 A1
  have a0 := Blk.cell A2.out (j := 0) rfl; have a1 := Blk.cell A2.out (j := 1) rfl; have a2 := Blk.cell A2.out (j := 2) rfl; have a3 := Blk.cell A2.out (j := 3) rfl
  have b0 := A2.out.frozen 0; have b1 := A2.out.frozen 1; have b2 := A2.out.frozen 2; have b3 := A2.out.frozen 3
  go_wp2_with fail
  refine bodyPost_ret (v := perlsT 2 0 (.slice sa out.length sc) 0 q true) ?_ rfl ⟨_, out, rfl, ?_, HST.out, HLN.out, ?_⟩
  · simp [results, Tryz.results97, perlsT, go_sem, a0, a1, a2, a3]
  · have h9 : World.ownsRow w2 (w.heap.size + 1) 43 2 (.slice sa out.length sc) out.length (flatR out) := by have := HLD.out; unfold Laid at this; simpa using this
    exact Joins.ownsRow_le (ownsRow_setCellR (ownsRow_setCellR (ownsRow_setCellR (ownsRow_setCellR h9 (by omega) _ _) (by omega) _ _) (by omega) _ _) (by omega) _ _) (Nat.le_succ _)
  · exact (((B2.out.setCell (Nat.le_refl _) _).setCell (Nat.le_refl _) _).setCell (Nat.le_refl _) _).setCell (Nat.le_refl _) _

theorem ref06_wrongR (a b c : Int) (w : World) : Calls Tryz.prog 91 #[.int .i64 a, .int .i64 b, .int .i64 c] w fun e w' => e = .returned (.agg #[.int .i64 a, .int .i64 b, .int .i64 c]) ∧ Below w.heap.size w w' := by
  go_enter Tryz.func91, Tryz.ntmps91
  go_wp2_with fail
  have k := Blk.new w [.int .i64 a, .int .i64 b, .int .i64 c] 27
  have k0 := Blk.cell k (j := 0) rfl; have k1 := Blk.cell k (j := 1) rfl; have k2 := Blk.cell k (j := 2) rfl
  exact bodyPost_ret (v := .agg #[.int .i64 a, .int .i64 b, .int .i64 c]) (by simp [results, Tryz.results91, go_sem, k0, k1, k2]) rfl ⟨rfl, (Below.refl _ w).alloc (Nat.le_refl _) _⟩
theorem refesc_blocks (w : World) :
    let W := (w.alloc (.cells #[.int .i64 0, .int .i32 0, .slice none 0 0, .int .i64 0] 64)).alloc (.cells #[.int .i64 0, .int .i64 0, .int .i64 0] 27)
    Blk W w.heap.size esc0R 64 ∧ Blk W (w.heap.size + 1) wrong0R 27 ∧ Below w.heap.size w W ∧ w.heap.size + 1 < W.heap.size := by
  have a := Blk.new w esc0R 64
  have b := Blk.new (w.alloc (.cells esc0R.toArray 64)) wrong0R 27
  simp only [World.size_alloc] at b
  exact ⟨a.alloc _, b, ((Below.refl _ w).alloc (Nat.le_refl _) _).alloc (by simp) _, by simp⟩

set_option maxRecDepth 100000 in
set_option maxHeartbeats 4000000 in
theorem refesc_end (s : ByteArray) (p : Nat) (b : Bool) (w : World) (_ : s.size ≤ 140737488355328) (h0 : s.size ≤ p) :
    Calls Tryz.prog 64 #[.string s, .int .i64 p, .bool b] w (fun e w' => e = .returned (escT 0 0 (.slice none 0 0) 0 0 1 p p) ∧ Below w.heap.size w w') := by
  obtain ⟨bA, bC, bB, bZ⟩ := refesc_blocks w
  have A0 := hid bA; have C0 := hid bC; have B0 := hid bB; have Z0 := hid bZ
  clear bA bC bB bZ
  have h0' : (s.size : Int) ≤ (p : Int) := by omega
  go_enter Tryz.func64, Tryz.ntmps64
  go_wp2_with fail
  refine (ref06_wrongR _ _ _ _).mono ?_
  rintro e w1 ⟨rfl, hB⟩
  have A1 := hid (A0.out.below hB A0.out.lt); have C1 := hid (C0.out.below hB C0.out.lt); have B1 := hid (B0.out.trans (hB.mono B0.out.size))
  clear hB
  have a0 := Blk.cell A1.out (j := 0) rfl; have a1 := Blk.cell A1.out (j := 1) rfl; have a2 := Blk.cell A1.out (j := 2) rfl; have a3 := Blk.cell A1.out (j := 3) rfl
  have b0 := A1.out.frozen 0; have b1 := A1.out.frozen 1; have b2 := A1.out.frozen 2; have b3 := A1.out.frozen 3
  have d0' := Blk.cell C1.out (j := 0) rfl; have d1' := Blk.cell C1.out (j := 1) rfl; have d2' := Blk.cell C1.out (j := 2) rfl
  have d0 := C1.out.frozen 0; have d1 := C1.out.frozen 1; have d2 := C1.out.frozen 2
  go_wp2_with fail
  refine bodyPost_ret (v := escT 0 0 (.slice none 0 0) 0 0 1 p p) ?_ rfl ⟨rfl, ?_⟩
  · simp [results, Tryz.results64, escT, go_sem, a0, a1, a2, a3, d0', d1', d2']
  · exact (((((((B1.out.setCell (by simp) _).setCell (by simp) _).setCell (by simp) _).setCell (by simp) _).setCell (by simp) _).setCell (by simp) _).setCell (by simp) _)

set_option maxRecDepth 100000 in
set_option maxHeartbeats 4000000 in
theorem refesc_nob (s : ByteArray) (p : Nat) (b : Bool) (w : World) (_ : s.size ≤ 140737488355328) (h0 : p < s.size) (hc : ((s[p].toNat : Int) != 92) = true) :
    Calls Tryz.prog 64 #[.string s, .int .i64 p, .bool b] w (fun e w' => e = .returned (escT 0 0 (.slice none 0 0) 0 0 1 p p) ∧ Below w.heap.size w w') := by
  obtain ⟨bA, bC, bB, bZ⟩ := refesc_blocks w
  have A0 := hid bA; have C0 := hid bC; have B0 := hid bB; have Z0 := hid bZ
  clear bA bC bB bZ
  have h0' : (p : Int) < (s.size : Int) := by omega
  go_enter Tryz.func64, Tryz.ntmps64
  go_wp2_with fail
  refine (ref06_wrongR _ _ _ _).mono ?_
  rintro e w1 ⟨rfl, hB⟩
  have A1 := hid (A0.out.below hB A0.out.lt); have C1 := hid (C0.out.below hB C0.out.lt); have B1 := hid (B0.out.trans (hB.mono B0.out.size))
  clear hB
  have a0 := Blk.cell A1.out (j := 0) rfl; have a1 := Blk.cell A1.out (j := 1) rfl; have a2 := Blk.cell A1.out (j := 2) rfl; have a3 := Blk.cell A1.out (j := 3) rfl
  have b0 := A1.out.frozen 0; have b1 := A1.out.frozen 1; have b2 := A1.out.frozen 2; have b3 := A1.out.frozen 3
  have d0' := Blk.cell C1.out (j := 0) rfl; have d1' := Blk.cell C1.out (j := 1) rfl; have d2' := Blk.cell C1.out (j := 2) rfl
  have d0 := C1.out.frozen 0; have d1 := C1.out.frozen 1; have d2 := C1.out.frozen 2
  go_wp2_with fail
  refine bodyPost_ret (v := escT 0 0 (.slice none 0 0) 0 0 1 p p) ?_ rfl ⟨rfl, ?_⟩
  · simp [results, Tryz.results64, escT, go_sem, a0, a1, a2, a3, d0', d1', d2']
  · exact (((((((B1.out.setCell (by simp) _).setCell (by simp) _).setCell (by simp) _).setCell (by simp) _).setCell (by simp) _).setCell (by simp) _).setCell (by simp) _)

set_option maxRecDepth 100000 in
set_option maxHeartbeats 4000000 in
theorem refesc_trail (s : ByteArray) (p : Nat) (b : Bool) (w : World) (hs : s.size ≤ 140737488355328) (h0 : p < s.size) (hc : ((s[p].toNat : Int) != 92) = false) (h1 : p + 1 = s.size) :
    Calls Tryz.prog 64 #[.string s, .int .i64 p, .bool b] w (fun e w' => e = .returned (escT 0 0 (.slice none 0 0) 0 0 62 p ((p : Int) + 1)) ∧ Below w.heap.size w w') := by
  obtain ⟨bA, bC, bB, bZ⟩ := refesc_blocks w
  have A0 := hid bA; have C0 := hid bC; have B0 := hid bB; have Z0 := hid bZ
  clear bA bC bB bZ
  have h0' : (p : Int) < (s.size : Int) := by omega
  have h1' : (p : Int) + 1 = (s.size : Int) := by omega
  have h2 : ((p : Int) + 1 == (s.size : Int)) = true := by simp; omega
  have HH := hid h1'
  clear h1' h1
  go_enter Tryz.func64, Tryz.ntmps64
  go_wp2_with fail
  refine (ref06_wrongR _ _ _ _).mono ?_
  rintro e w1 ⟨rfl, hB⟩
  have A1 := hid (A0.out.below hB A0.out.lt); have C1 := hid (C0.out.below hB C0.out.lt); have B1 := hid (B0.out.trans (hB.mono B0.out.size))
  clear hB
  have a0 := Blk.cell A1.out (j := 0) rfl; have a1 := Blk.cell A1.out (j := 1) rfl; have a2 := Blk.cell A1.out (j := 2) rfl; have a3 := Blk.cell A1.out (j := 3) rfl
  have b0 := A1.out.frozen 0; have b1 := A1.out.frozen 1; have b2 := A1.out.frozen 2; have b3 := A1.out.frozen 3
  have d0' := Blk.cell C1.out (j := 0) rfl; have d1' := Blk.cell C1.out (j := 1) rfl; have d2' := Blk.cell C1.out (j := 2) rfl
  have d0 := C1.out.frozen 0; have d1 := C1.out.frozen 1; have d2 := C1.out.frozen 2
  go_wp2_with fail
  refine bodyPost_ret (v := escT 0 0 (.slice none 0 0) 0 0 62 p ((p : Int) + 1)) ?_ rfl ⟨rfl, ?_⟩
  · simp [results, Tryz.results64, escT, go_sem, a0, a1, a2, a3, d0', d1', d2']
  · exact (((((((B1.out.setCell (by simp) _).setCell (by simp) _).setCell (by simp) _).setCell (by simp) _).setCell (by simp) _).setCell (by simp) _).setCell (by simp) _)

set_option maxRecDepth 100000 in
set_option maxHeartbeats 4000000 in
theorem refesc_sign (s : ByteArray) (p : Nat) (b : Bool) (w : World) (hs : s.size ≤ 140737488355328) (h0 : p < s.size) (hc : ((s[p].toNat : Int) != 92) = false) (h1 : p + 1 < s.size) (hT : Tabs w) (C : Int) (Q : Nat) (hC : nextC s (p + 1) = C) (hQ : nextW s (p + 1) = Q) (_ : 0 ≤ C) (_ : C ≤ 1114111) (hsg : signI C = true)  :
    Calls Tryz.prog 64 #[.string s, .int .i64 p, .bool b] w (fun e w' => e = .returned (escT 1 C (.slice none 0 0) 0 Q 0 0 0) ∧ Below w.heap.size w w') := by
  obtain ⟨bA, bC, bB, bZ⟩ := refesc_blocks w
  have A0 := hid bA; have C0 := hid bC; have B0 := hid bB; have Z0 := hid bZ
  clear bA bC bB bZ
  have HSG := hid hsg; clear hsg
  have h0' : (p : Int) < (s.size : Int) := by omega
  have h1' : (p : Int) + 1 < (s.size : Int) := by omega
  have h12 : ((p : Int) + 1 == (s.size : Int)) = false := by simp; omega
  have T0 := hid ((hT.alloc (.cells #[.int .i64 0, .int .i32 0, .slice none 0 0, .int .i64 0] 64)).alloc (.cells #[.int .i64 0, .int .i64 0, .int .i64 0] 27))
  clear hT
  have HQS := hid (show Q ≤ s.size by rw [← hQ]; exact nextW_le s (p + 1) (by omega))
  have HDC := hid (show ((Lib.decodeGo (tail s (p + 1))).1 : Int) = C by rw [← hC, decodeGo_tail s (p + 1) h1]; unfold nextC; rw [if_pos h1])
  have HDW := hid (show p + 1 + (Lib.decodeGo (tail s (p + 1))).2 = Q by rw [← hQ, decodeGo_tail s (p + 1) h1]; unfold nextW; rw [if_pos h1])
  clear hC hQ
  go_enter Tryz.func64, Tryz.ntmps64
  go_wp2_with fail
  refine (Tryz.utf8_DecodeRuneInString (tail s (p + 1)) _ T0.out).mono ?_
  rintro e w1 ⟨rfl, hB1⟩
  have A1 := hid (A0.out.below hB1 A0.out.lt); have C1 := hid (C0.out.below hB1 C0.out.lt); have B1 := hid (B0.out.trans (hB1.mono B0.out.size)); have T1 := hid (T0.out.below hB1)
  clear hB1
  rw [HDC.out]
  generalize Lib.decodeGo (tail s (p + 1)) = D at HDC HDW ⊢
  obtain ⟨d1, d2⟩ := D
  have hq : (p : Int) + 1 + (d2 : Int) = (Q : Int) := by have := HDW.out; simp only at this; omega
  have hqb : (Q : Int) ≤ 140737488355328 := by have := HQS.out; omega
  simp only
  clear HDC HDW
  go_wp2_with fail
  refine (ref06_wrongR _ _ _ _).mono ?_
  rintro e w2 ⟨rfl, hB2⟩
  obtain ⟨W3, hW3⟩ : ∃ W3, W3 = w2.alloc (.cells #[.int .i64 61, .int .i64 p, .int .i64 Q] 27) := ⟨_, rfl⟩
  have A3 := hid (show Blk W3 w.heap.size esc0R 64 by rw [hW3]; exact (A1.out.below hB2 A1.out.lt).alloc _)
  have C3 := hid (show Blk W3 (w.heap.size + 1) wrong0R 27 by rw [hW3]; exact (C1.out.below hB2 C1.out.lt).alloc _)
  have T3 := hid (show Tabs W3 by rw [hW3]; exact (T1.out.below hB2).alloc _)
  have hz2 := (B1.out.trans (hB2.mono B1.out.size)).size
  have B3 := hid (show Below w.heap.size w W3 by rw [hW3]; exact (B1.out.trans (hB2.mono B1.out.size)).alloc hz2 _)
  obtain ⟨DB, hDB⟩ : ∃ DB, DB = w2.heap.size := ⟨_, rfl⟩
  have D3 := hid (show Blk W3 DB [.int .i64 61, .int .i64 p, .int .i64 Q] 27 by rw [hW3, hDB]; exact Blk.new _ _ _)
  have hdb : w.heap.size + 1 < DB := by rw [hDB]; exact (C1.out.below hB2 C1.out.lt).lt
  have hd1 : ¬ w.heap.size = DB := by omega
  have hd2 : ¬ DB = w.heap.size := by omega
  have hd3 : ¬ w.heap.size + 1 = DB := by omega
  have hd4 : ¬ DB = w.heap.size + 1 := by omega
  clear hdb
  clear hB2 hz2 A1 C1 B1 T1 T0 A0 C0 B0 Z0
  go_wp2_with fail
  rw [← hW3, ← hDB]
  clear hW3 hDB
  refine (ref06_SignI C _).mono ?_
  rintro e w4 ⟨rfl, rfl⟩
  rw [HSG.out]
  have a0 := Blk.cell A3.out (j := 0) rfl; have a1 := Blk.cell A3.out (j := 1) rfl; have a2 := Blk.cell A3.out (j := 2) rfl; have a3 := Blk.cell A3.out (j := 3) rfl
  have b0 := A3.out.frozen 0; have b1 := A3.out.frozen 1; have b2 := A3.out.frozen 2; have b3 := A3.out.frozen 3
  have d0' := Blk.cell C3.out (j := 0) rfl; have d1' := Blk.cell C3.out (j := 1) rfl; have d2' := Blk.cell C3.out (j := 2) rfl
  have d0 := C3.out.frozen 0; have d1 := C3.out.frozen 1; have d2 := C3.out.frozen 2
  go_wp2_with fail
  refine bodyPost_ret (v := escT 1 C (.slice none 0 0) 0 Q 0 0 0) ?_ rfl ⟨rfl, ?_⟩
  · simp [results, Tryz.results64, escT, go_sem, a0, a1, a2, a3, d0', d1', d2']
  · exact (((((((B3.out.setCell (by simp) _).setCell (by simp) _).setCell (by simp) _).setCell (by simp) _).setCell (by simp) _).setCell (by simp) _).setCell (by simp) _)

set_option maxRecDepth 100000 in
set_option maxHeartbeats 4000000 in
theorem refesc_letter (s : ByteArray) (p : Nat) (b : Bool) (w : World) (hs : s.size ≤ 140737488355328) (h0 : p < s.size) (hc : ((s[p].toNat : Int) != 92) = false) (h1 : p + 1 < s.size) (hT : Tabs w) (C : Int) (Q : Nat) (hC : nextC s (p + 1) = C) (hQ : nextW s (p + 1) = Q) (_ : 0 ≤ C) (_ : C ≤ 1114111) (hsg : signI C = false) (hl : 0 ≤ letterI C) :
    Calls Tryz.prog 64 #[.string s, .int .i64 p, .bool b] w (fun e w' => e = .returned (escT 1 (letterI C) (.slice none 0 0) 0 Q 0 0 0) ∧ Below w.heap.size w w') := by
  obtain ⟨bA, bC, bB, bZ⟩ := refesc_blocks w
  have A0 := hid bA; have C0 := hid bC; have B0 := hid bB; have Z0 := hid bZ
  clear bA bC bB bZ
  obtain ⟨lv, hlv⟩ : ∃ lv, letterI C = lv := ⟨_, rfl⟩
  have HLE := hid (ref06_letter C)
  simp only [hlv] at HLE
  rw [hlv] at hl
  rw [hlv]
  clear hlv
  have HSG := hid hsg; clear hsg
  have h0' : (p : Int) < (s.size : Int) := by omega
  have h1' : (p : Int) + 1 < (s.size : Int) := by omega
  have h12 : ((p : Int) + 1 == (s.size : Int)) = false := by simp; omega
  have T0 := hid ((hT.alloc (.cells #[.int .i64 0, .int .i32 0, .slice none 0 0, .int .i64 0] 64)).alloc (.cells #[.int .i64 0, .int .i64 0, .int .i64 0] 27))
  clear hT
  have HQS := hid (show Q ≤ s.size by rw [← hQ]; exact nextW_le s (p + 1) (by omega))
  have HDC := hid (show ((Lib.decodeGo (tail s (p + 1))).1 : Int) = C by rw [← hC, decodeGo_tail s (p + 1) h1]; unfold nextC; rw [if_pos h1])
  have HDW := hid (show p + 1 + (Lib.decodeGo (tail s (p + 1))).2 = Q by rw [← hQ, decodeGo_tail s (p + 1) h1]; unfold nextW; rw [if_pos h1])
  clear hC hQ
  go_enter Tryz.func64, Tryz.ntmps64
  go_wp2_with fail
  refine (Tryz.utf8_DecodeRuneInString (tail s (p + 1)) _ T0.out).mono ?_
  rintro e w1 ⟨rfl, hB1⟩
  have A1 := hid (A0.out.below hB1 A0.out.lt); have C1 := hid (C0.out.below hB1 C0.out.lt); have B1 := hid (B0.out.trans (hB1.mono B0.out.size)); have T1 := hid (T0.out.below hB1)
  clear hB1
  rw [HDC.out]
  generalize Lib.decodeGo (tail s (p + 1)) = D at HDC HDW ⊢
  obtain ⟨d1, d2⟩ := D
  have hq : (p : Int) + 1 + (d2 : Int) = (Q : Int) := by have := HDW.out; simp only at this; omega
  have hqb : (Q : Int) ≤ 140737488355328 := by have := HQS.out; omega
  simp only
  clear HDC HDW
  go_wp2_with fail
  refine (ref06_wrongR _ _ _ _).mono ?_
  rintro e w2 ⟨rfl, hB2⟩
  obtain ⟨W3, hW3⟩ : ∃ W3, W3 = w2.alloc (.cells #[.int .i64 61, .int .i64 p, .int .i64 Q] 27) := ⟨_, rfl⟩
  have A3 := hid (show Blk W3 w.heap.size esc0R 64 by rw [hW3]; exact (A1.out.below hB2 A1.out.lt).alloc _)
  have C3 := hid (show Blk W3 (w.heap.size + 1) wrong0R 27 by rw [hW3]; exact (C1.out.below hB2 C1.out.lt).alloc _)
  have T3 := hid (show Tabs W3 by rw [hW3]; exact (T1.out.below hB2).alloc _)
  have hz2 := (B1.out.trans (hB2.mono B1.out.size)).size
  have B3 := hid (show Below w.heap.size w W3 by rw [hW3]; exact (B1.out.trans (hB2.mono B1.out.size)).alloc hz2 _)
  obtain ⟨DB, hDB⟩ : ∃ DB, DB = w2.heap.size := ⟨_, rfl⟩
  have D3 := hid (show Blk W3 DB [.int .i64 61, .int .i64 p, .int .i64 Q] 27 by rw [hW3, hDB]; exact Blk.new _ _ _)
  have hdb : w.heap.size + 1 < DB := by rw [hDB]; exact (C1.out.below hB2 C1.out.lt).lt
  have hd1 : ¬ w.heap.size = DB := by omega
  have hd2 : ¬ DB = w.heap.size := by omega
  have hd3 : ¬ w.heap.size + 1 = DB := by omega
  have hd4 : ¬ DB = w.heap.size + 1 := by omega
  clear hdb
  clear hB2 hz2 A1 C1 B1 T1 T0 A0 C0 B0 Z0
  go_wp2_with fail
  rw [← hW3, ← hDB]
  clear hW3 hDB
  refine (ref06_SignI C _).mono ?_
  rintro e w4 ⟨rfl, rfl⟩
  rw [HSG.out]
  have a0 := Blk.cell A3.out (j := 0) rfl; have a1 := Blk.cell A3.out (j := 1) rfl; have a2 := Blk.cell A3.out (j := 2) rfl; have a3 := Blk.cell A3.out (j := 3) rfl
  have b0 := A3.out.frozen 0; have b1 := A3.out.frozen 1; have b2 := A3.out.frozen 2; have b3 := A3.out.frozen 3
  have d0' := Blk.cell C3.out (j := 0) rfl; have d1' := Blk.cell C3.out (j := 1) rfl; have d2' := Blk.cell C3.out (j := 2) rfl
  have d0 := C3.out.frozen 0; have d1 := C3.out.frozen 1; have d2 := C3.out.frozen 2
  go_wp2_with fail
  refine (HLE.out _).mono ?_
  rintro e w5 ⟨rfl, rfl⟩
  go_wp2_with fail
  refine (HLE.out _).mono ?_
  rintro e w5 ⟨rfl, rfl⟩
  go_wp2_with fail
  refine bodyPost_ret (v := escT 1 lv (.slice none 0 0) 0 Q 0 0 0) ?_ rfl ⟨rfl, ?_⟩
  · simp [results, Tryz.results64, escT, go_sem, a0, a1, a2, a3, d0', d1', d2']
  · exact (((((((B3.out.setCell (by simp) _).setCell (by simp) _).setCell (by simp) _).setCell (by simp) _).setCell (by simp) _).setCell (by simp) _).setCell (by simp) _)

set_option maxRecDepth 100000 in
set_option maxHeartbeats 4000000 in
theorem refesc_x_yes (s : ByteArray) (p : Nat) (b : Bool) (w : World) (hs : s.size ≤ 140737488355328) (h0 : p < s.size) (hc : ((s[p].toNat : Int) != 92) = false) (h1 : p + 1 < s.size) (hT : Tabs w) (C : Int) (Q : Nat) (hC : nextC s (p + 1) = C) (hQ : nextW s (p + 1) = Q) (_ : 0 ≤ C) (_ : C ≤ 1114111) (hsg : signI C = false) (hl : letterI C = -1) (hx : C = 120) (n : Int) (r : Nat) (hcd : codeP s Q = some (n, r)) :
    Calls Tryz.prog 64 #[.string s, .int .i64 p, .bool b] w (fun e w' => e = .returned (escT 1 n (.slice none 0 0) 0 r 0 0 0) ∧ Below w.heap.size w w') := by
  obtain ⟨bA, bC, bB, bZ⟩ := refesc_blocks w
  have A0 := hid bA; have C0 := hid bC; have B0 := hid bB; have Z0 := hid bZ
  clear bA bC bB bZ
  have hlv : letterI C = -1 := hl
  have HLE := hid (ref06_letter C)
  simp only [hlv] at HLE
  clear hlv hl
  have nx : (C == 120) = true := by simp; omega
  clear hx
  have HCD := hid hcd; clear hcd
  have HSG := hid hsg; clear hsg
  have h0' : (p : Int) < (s.size : Int) := by omega
  have h1' : (p : Int) + 1 < (s.size : Int) := by omega
  have h12 : ((p : Int) + 1 == (s.size : Int)) = false := by simp; omega
  have T0 := hid ((hT.alloc (.cells #[.int .i64 0, .int .i32 0, .slice none 0 0, .int .i64 0] 64)).alloc (.cells #[.int .i64 0, .int .i64 0, .int .i64 0] 27))
  clear hT
  have HQS := hid (show Q ≤ s.size by rw [← hQ]; exact nextW_le s (p + 1) (by omega))
  have HDC := hid (show ((Lib.decodeGo (tail s (p + 1))).1 : Int) = C by rw [← hC, decodeGo_tail s (p + 1) h1]; unfold nextC; rw [if_pos h1])
  have HDW := hid (show p + 1 + (Lib.decodeGo (tail s (p + 1))).2 = Q by rw [← hQ, decodeGo_tail s (p + 1) h1]; unfold nextW; rw [if_pos h1])
  clear hC hQ
  go_enter Tryz.func64, Tryz.ntmps64
  go_wp2_with fail
  refine (Tryz.utf8_DecodeRuneInString (tail s (p + 1)) _ T0.out).mono ?_
  rintro e w1 ⟨rfl, hB1⟩
  have A1 := hid (A0.out.below hB1 A0.out.lt); have C1 := hid (C0.out.below hB1 C0.out.lt); have B1 := hid (B0.out.trans (hB1.mono B0.out.size)); have T1 := hid (T0.out.below hB1)
  clear hB1
  rw [HDC.out]
  generalize Lib.decodeGo (tail s (p + 1)) = D at HDC HDW ⊢
  obtain ⟨d1, d2⟩ := D
  have hq : (p : Int) + 1 + (d2 : Int) = (Q : Int) := by have := HDW.out; simp only at this; omega
  have hqb : (Q : Int) ≤ 140737488355328 := by have := HQS.out; omega
  simp only
  clear HDC HDW
  go_wp2_with fail
  refine (ref06_wrongR _ _ _ _).mono ?_
  rintro e w2 ⟨rfl, hB2⟩
  obtain ⟨W3, hW3⟩ : ∃ W3, W3 = w2.alloc (.cells #[.int .i64 61, .int .i64 p, .int .i64 Q] 27) := ⟨_, rfl⟩
  have A3 := hid (show Blk W3 w.heap.size esc0R 64 by rw [hW3]; exact (A1.out.below hB2 A1.out.lt).alloc _)
  have C3 := hid (show Blk W3 (w.heap.size + 1) wrong0R 27 by rw [hW3]; exact (C1.out.below hB2 C1.out.lt).alloc _)
  have T3 := hid (show Tabs W3 by rw [hW3]; exact (T1.out.below hB2).alloc _)
  have hz2 := (B1.out.trans (hB2.mono B1.out.size)).size
  have B3 := hid (show Below w.heap.size w W3 by rw [hW3]; exact (B1.out.trans (hB2.mono B1.out.size)).alloc hz2 _)
  obtain ⟨DB, hDB⟩ : ∃ DB, DB = w2.heap.size := ⟨_, rfl⟩
  have D3 := hid (show Blk W3 DB [.int .i64 61, .int .i64 p, .int .i64 Q] 27 by rw [hW3, hDB]; exact Blk.new _ _ _)
  have hdb : w.heap.size + 1 < DB := by rw [hDB]; exact (C1.out.below hB2 C1.out.lt).lt
  have hd1 : ¬ w.heap.size = DB := by omega
  have hd2 : ¬ DB = w.heap.size := by omega
  have hd3 : ¬ w.heap.size + 1 = DB := by omega
  have hd4 : ¬ DB = w.heap.size + 1 := by omega
  clear hdb
  clear hB2 hz2 A1 C1 B1 T1 T0 A0 C0 B0 Z0
  go_wp2_with fail
  rw [← hW3, ← hDB]
  clear hW3 hDB
  refine (ref06_SignI C _).mono ?_
  rintro e w4 ⟨rfl, rfl⟩
  rw [HSG.out]
  go_wp2_with fail
  refine (HLE.out _).mono ?_
  rintro e w5 ⟨rfl, rfl⟩
  go_wp2_with fail
  refine (ref06_number s Q _ HQS.out hs).mono ?_
  rintro e w6 ⟨rfl, hB⟩
  rw [HCD.out]
  have A6 := hid (A3.out.below hB A3.out.lt); have C6 := hid (C3.out.below hB C3.out.lt); have D6 := hid (D3.out.below hB D3.out.lt); have B6 := hid (B3.out.trans (hB.mono B3.out.size))
  clear hB
  simp only [codeV]
  have a0 := Blk.cell A6.out (j := 0) rfl; have a1 := Blk.cell A6.out (j := 1) rfl; have a2 := Blk.cell A6.out (j := 2) rfl; have a3 := Blk.cell A6.out (j := 3) rfl
  have b0 := A6.out.frozen 0; have b1 := A6.out.frozen 1; have b2 := A6.out.frozen 2; have b3 := A6.out.frozen 3
  have d0' := Blk.cell C6.out (j := 0) rfl; have d1' := Blk.cell C6.out (j := 1) rfl; have d2' := Blk.cell C6.out (j := 2) rfl
  have d0 := C6.out.frozen 0; have d1 := C6.out.frozen 1; have d2 := C6.out.frozen 2
  go_wp2_with fail
  refine bodyPost_ret (v := escT 1 n (.slice none 0 0) 0 r 0 0 0) ?_ rfl ⟨rfl, ?_⟩
  · simp [results, Tryz.results64, escT, go_sem, a0, a1, a2, a3, d0', d1', d2']
  · exact (((((((B6.out.setCell (by simp) _).setCell (by simp) _).setCell (by simp) _).setCell (by simp) _).setCell (by simp) _).setCell (by simp) _).setCell (by simp) _)

set_option maxRecDepth 100000 in
set_option maxHeartbeats 4000000 in
theorem refesc_x_no (s : ByteArray) (p : Nat) (b : Bool) (w : World) (hs : s.size ≤ 140737488355328) (h0 : p < s.size) (hc : ((s[p].toNat : Int) != 92) = false) (h1 : p + 1 < s.size) (hT : Tabs w) (C : Int) (Q : Nat) (hC : nextC s (p + 1) = C) (hQ : nextW s (p + 1) = Q) (_ : 0 ≤ C) (_ : C ≤ 1114111) (hsg : signI C = false) (hl : letterI C = -1) (hx : C = 120) (hcd : codeP s Q = none) :
    Calls Tryz.prog 64 #[.string s, .int .i64 p, .bool b] w (fun e w' => e = .returned (escT 0 0 (.slice none 0 0) 0 0 61 p Q) ∧ Below w.heap.size w w') := by
  obtain ⟨bA, bC, bB, bZ⟩ := refesc_blocks w
  have A0 := hid bA; have C0 := hid bC; have B0 := hid bB; have Z0 := hid bZ
  clear bA bC bB bZ
  have hlv : letterI C = -1 := hl
  have HLE := hid (ref06_letter C)
  simp only [hlv] at HLE
  clear hlv hl
  have nx : (C == 120) = true := by simp; omega
  clear hx
  have HCD := hid hcd; clear hcd
  have HSG := hid hsg; clear hsg
  have h0' : (p : Int) < (s.size : Int) := by omega
  have h1' : (p : Int) + 1 < (s.size : Int) := by omega
  have h12 : ((p : Int) + 1 == (s.size : Int)) = false := by simp; omega
  have T0 := hid ((hT.alloc (.cells #[.int .i64 0, .int .i32 0, .slice none 0 0, .int .i64 0] 64)).alloc (.cells #[.int .i64 0, .int .i64 0, .int .i64 0] 27))
  clear hT
  have HQS := hid (show Q ≤ s.size by rw [← hQ]; exact nextW_le s (p + 1) (by omega))
  have HDC := hid (show ((Lib.decodeGo (tail s (p + 1))).1 : Int) = C by rw [← hC, decodeGo_tail s (p + 1) h1]; unfold nextC; rw [if_pos h1])
  have HDW := hid (show p + 1 + (Lib.decodeGo (tail s (p + 1))).2 = Q by rw [← hQ, decodeGo_tail s (p + 1) h1]; unfold nextW; rw [if_pos h1])
  clear hC hQ
  go_enter Tryz.func64, Tryz.ntmps64
  go_wp2_with fail
  refine (Tryz.utf8_DecodeRuneInString (tail s (p + 1)) _ T0.out).mono ?_
  rintro e w1 ⟨rfl, hB1⟩
  have A1 := hid (A0.out.below hB1 A0.out.lt); have C1 := hid (C0.out.below hB1 C0.out.lt); have B1 := hid (B0.out.trans (hB1.mono B0.out.size)); have T1 := hid (T0.out.below hB1)
  clear hB1
  rw [HDC.out]
  generalize Lib.decodeGo (tail s (p + 1)) = D at HDC HDW ⊢
  obtain ⟨d1, d2⟩ := D
  have hq : (p : Int) + 1 + (d2 : Int) = (Q : Int) := by have := HDW.out; simp only at this; omega
  have hqb : (Q : Int) ≤ 140737488355328 := by have := HQS.out; omega
  simp only
  clear HDC HDW
  go_wp2_with fail
  refine (ref06_wrongR _ _ _ _).mono ?_
  rintro e w2 ⟨rfl, hB2⟩
  obtain ⟨W3, hW3⟩ : ∃ W3, W3 = w2.alloc (.cells #[.int .i64 61, .int .i64 p, .int .i64 Q] 27) := ⟨_, rfl⟩
  have A3 := hid (show Blk W3 w.heap.size esc0R 64 by rw [hW3]; exact (A1.out.below hB2 A1.out.lt).alloc _)
  have C3 := hid (show Blk W3 (w.heap.size + 1) wrong0R 27 by rw [hW3]; exact (C1.out.below hB2 C1.out.lt).alloc _)
  have T3 := hid (show Tabs W3 by rw [hW3]; exact (T1.out.below hB2).alloc _)
  have hz2 := (B1.out.trans (hB2.mono B1.out.size)).size
  have B3 := hid (show Below w.heap.size w W3 by rw [hW3]; exact (B1.out.trans (hB2.mono B1.out.size)).alloc hz2 _)
  obtain ⟨DB, hDB⟩ : ∃ DB, DB = w2.heap.size := ⟨_, rfl⟩
  have D3 := hid (show Blk W3 DB [.int .i64 61, .int .i64 p, .int .i64 Q] 27 by rw [hW3, hDB]; exact Blk.new _ _ _)
  have hdb : w.heap.size + 1 < DB := by rw [hDB]; exact (C1.out.below hB2 C1.out.lt).lt
  have hd1 : ¬ w.heap.size = DB := by omega
  have hd2 : ¬ DB = w.heap.size := by omega
  have hd3 : ¬ w.heap.size + 1 = DB := by omega
  have hd4 : ¬ DB = w.heap.size + 1 := by omega
  clear hdb
  clear hB2 hz2 A1 C1 B1 T1 T0 A0 C0 B0 Z0
  go_wp2_with fail
  rw [← hW3, ← hDB]
  clear hW3 hDB
  refine (ref06_SignI C _).mono ?_
  rintro e w4 ⟨rfl, rfl⟩
  rw [HSG.out]
  go_wp2_with fail
  refine (HLE.out _).mono ?_
  rintro e w5 ⟨rfl, rfl⟩
  go_wp2_with fail
  refine (ref06_number s Q _ HQS.out hs).mono ?_
  rintro e w6 ⟨rfl, hB⟩
  rw [HCD.out]
  have A6 := hid (A3.out.below hB A3.out.lt); have C6 := hid (C3.out.below hB C3.out.lt); have D6 := hid (D3.out.below hB D3.out.lt); have B6 := hid (B3.out.trans (hB.mono B3.out.size))
  clear hB
  simp only [codeV]
  have a0 := Blk.cell A6.out (j := 0) rfl; have a1 := Blk.cell A6.out (j := 1) rfl; have a2 := Blk.cell A6.out (j := 2) rfl; have a3 := Blk.cell A6.out (j := 3) rfl
  have b0 := A6.out.frozen 0; have b1 := A6.out.frozen 1; have b2 := A6.out.frozen 2; have b3 := A6.out.frozen 3
  have d0' := Blk.cell C6.out (j := 0) rfl; have d1' := Blk.cell C6.out (j := 1) rfl; have d2' := Blk.cell C6.out (j := 2) rfl
  have d0 := C6.out.frozen 0; have d1 := C6.out.frozen 1; have d2 := C6.out.frozen 2
  have e0 := Blk.cell D6.out (j := 0) rfl; have e1 := Blk.cell D6.out (j := 1) rfl; have e2 := Blk.cell D6.out (j := 2) rfl
  go_wp2_with fail
  go_region
  go_wp2_with fail
  refine bodyPost_ret (v := escT 0 0 (.slice none 0 0) 0 0 61 p Q) ?_ rfl ⟨rfl, ?_⟩
  · simp [results, Tryz.results64, escT, go_sem, a0, a1, a2, a3, d0', d1', d2']
  · exact (((((((B6.out.setCell (by simp) _).setCell (by simp) _).setCell (by simp) _).setCell (by simp) _).setCell (by simp) _).setCell (by simp) _).setCell (by simp) _).drew

set_option maxRecDepth 100000 in
set_option maxHeartbeats 4000000 in
theorem refesc_p112_no (s : ByteArray) (p : Nat) (b : Bool) (w : World) (hs : s.size ≤ 140737488355328) (h0 : p < s.size) (hc : ((s[p].toNat : Int) != 92) = false) (h1 : p + 1 < s.size) (hT : Tabs w) (C : Int) (Q : Nat) (hC : nextC s (p + 1) = C) (hQ : nextW s (p + 1) = Q) (_ : 0 ≤ C) (_ : C ≤ 1114111) (hsg : signI C = false) (hl : letterI C = -1) (hx : C = 112) (hcd : propP s Q = none) :
    Calls Tryz.prog 64 #[.string s, .int .i64 p, .bool b] w (fun e w' => e = .returned (escT 0 0 (.slice none 0 0) 0 0 61 p Q) ∧ Below w.heap.size w w') := by
  obtain ⟨bA, bC, bB, bZ⟩ := refesc_blocks w
  have A0 := hid bA; have C0 := hid bC; have B0 := hid bB; have Z0 := hid bZ
  clear bA bC bB bZ
  have hlv : letterI C = -1 := hl
  have HLE := hid (ref06_letter C)
  simp only [hlv] at HLE
  clear hlv hl
  have nx : (C == 120) = false := by simp; omega
  have ny : (C == 112) = true := by simp; omega
  have nz : (C == 80) = false := by simp; omega
  clear hx
  have HCD := hid hcd; clear hcd
  have HSG := hid hsg; clear hsg
  have h0' : (p : Int) < (s.size : Int) := by omega
  have h1' : (p : Int) + 1 < (s.size : Int) := by omega
  have h12 : ((p : Int) + 1 == (s.size : Int)) = false := by simp; omega
  have T0 := hid ((hT.alloc (.cells #[.int .i64 0, .int .i32 0, .slice none 0 0, .int .i64 0] 64)).alloc (.cells #[.int .i64 0, .int .i64 0, .int .i64 0] 27))
  clear hT
  have HQS := hid (show Q ≤ s.size by rw [← hQ]; exact nextW_le s (p + 1) (by omega))
  have HDC := hid (show ((Lib.decodeGo (tail s (p + 1))).1 : Int) = C by rw [← hC, decodeGo_tail s (p + 1) h1]; unfold nextC; rw [if_pos h1])
  have HDW := hid (show p + 1 + (Lib.decodeGo (tail s (p + 1))).2 = Q by rw [← hQ, decodeGo_tail s (p + 1) h1]; unfold nextW; rw [if_pos h1])
  clear hC hQ
  go_enter Tryz.func64, Tryz.ntmps64
  go_wp2_with fail
  refine (Tryz.utf8_DecodeRuneInString (tail s (p + 1)) _ T0.out).mono ?_
  rintro e w1 ⟨rfl, hB1⟩
  have A1 := hid (A0.out.below hB1 A0.out.lt); have C1 := hid (C0.out.below hB1 C0.out.lt); have B1 := hid (B0.out.trans (hB1.mono B0.out.size)); have T1 := hid (T0.out.below hB1)
  clear hB1
  rw [HDC.out]
  generalize Lib.decodeGo (tail s (p + 1)) = D at HDC HDW ⊢
  obtain ⟨d1, d2⟩ := D
  have hq : (p : Int) + 1 + (d2 : Int) = (Q : Int) := by have := HDW.out; simp only at this; omega
  have hqb : (Q : Int) ≤ 140737488355328 := by have := HQS.out; omega
  simp only
  clear HDC HDW
  go_wp2_with fail
  refine (ref06_wrongR _ _ _ _).mono ?_
  rintro e w2 ⟨rfl, hB2⟩
  obtain ⟨W3, hW3⟩ : ∃ W3, W3 = w2.alloc (.cells #[.int .i64 61, .int .i64 p, .int .i64 Q] 27) := ⟨_, rfl⟩
  have A3 := hid (show Blk W3 w.heap.size esc0R 64 by rw [hW3]; exact (A1.out.below hB2 A1.out.lt).alloc _)
  have C3 := hid (show Blk W3 (w.heap.size + 1) wrong0R 27 by rw [hW3]; exact (C1.out.below hB2 C1.out.lt).alloc _)
  have T3 := hid (show Tabs W3 by rw [hW3]; exact (T1.out.below hB2).alloc _)
  have hz2 := (B1.out.trans (hB2.mono B1.out.size)).size
  have B3 := hid (show Below w.heap.size w W3 by rw [hW3]; exact (B1.out.trans (hB2.mono B1.out.size)).alloc hz2 _)
  obtain ⟨DB, hDB⟩ : ∃ DB, DB = w2.heap.size := ⟨_, rfl⟩
  have D3 := hid (show Blk W3 DB [.int .i64 61, .int .i64 p, .int .i64 Q] 27 by rw [hW3, hDB]; exact Blk.new _ _ _)
  have hdb : w.heap.size + 1 < DB := by rw [hDB]; exact (C1.out.below hB2 C1.out.lt).lt
  have hd1 : ¬ w.heap.size = DB := by omega
  have hd2 : ¬ DB = w.heap.size := by omega
  have hd3 : ¬ w.heap.size + 1 = DB := by omega
  have hd4 : ¬ DB = w.heap.size + 1 := by omega
  clear hdb
  clear hB2 hz2 A1 C1 B1 T1 T0 A0 C0 B0 Z0
  go_wp2_with fail
  rw [← hW3, ← hDB]
  clear hW3 hDB
  refine (ref06_SignI C _).mono ?_
  rintro e w4 ⟨rfl, rfl⟩
  rw [HSG.out]
  go_wp2_with fail
  refine (HLE.out _).mono ?_
  rintro e w5 ⟨rfl, rfl⟩
  go_wp2_with fail
  refine (ref06_property s Q _ T3.out HQS.out hs).mono ?_
  rintro e w6 ⟨rfl, hB⟩
  rw [HCD.out]
  have A6 := hid (A3.out.below hB A3.out.lt); have C6 := hid (C3.out.below hB C3.out.lt); have D6 := hid (D3.out.below hB D3.out.lt); have B6 := hid (B3.out.trans (hB.mono B3.out.size))
  clear hB
  simp only [propV]
  have a0 := Blk.cell A6.out (j := 0) rfl; have a1 := Blk.cell A6.out (j := 1) rfl; have a2 := Blk.cell A6.out (j := 2) rfl; have a3 := Blk.cell A6.out (j := 3) rfl
  have b0 := A6.out.frozen 0; have b1 := A6.out.frozen 1; have b2 := A6.out.frozen 2; have b3 := A6.out.frozen 3
  have d0' := Blk.cell C6.out (j := 0) rfl; have d1' := Blk.cell C6.out (j := 1) rfl; have d2' := Blk.cell C6.out (j := 2) rfl
  have d0 := C6.out.frozen 0; have d1 := C6.out.frozen 1; have d2 := C6.out.frozen 2
  have e0 := Blk.cell D6.out (j := 0) rfl; have e1 := Blk.cell D6.out (j := 1) rfl; have e2 := Blk.cell D6.out (j := 2) rfl
  go_wp2_with fail
  go_region
  go_wp2_with fail
  refine bodyPost_ret (v := escT 0 0 (.slice none 0 0) 0 0 61 p Q) ?_ rfl ⟨rfl, ?_⟩
  · simp [results, Tryz.results64, escT, go_sem, a0, a1, a2, a3, d0', d1', d2']
  · exact (((((((B6.out.setCell (by simp) _).setCell (by simp) _).setCell (by simp) _).setCell (by simp) _).setCell (by simp) _).setCell (by simp) _).setCell (by simp) _).drew

set_option maxRecDepth 100000 in
set_option maxHeartbeats 4000000 in
theorem refesc_p112_unknown (s : ByteArray) (p : Nat) (b : Bool) (w : World) (hs : s.size ≤ 140737488355328) (h0 : p < s.size) (hc : ((s[p].toNat : Int) != 92) = false) (h1 : p + 1 < s.size) (hT : Tabs w) (C : Int) (Q : Nat) (hC : nextC s (p + 1) = C) (hQ : nextW s (p + 1) = Q) (_ : 0 ≤ C) (_ : C ≤ 1114111) (hsg : signI C = false) (hl : letterI C = -1) (hx : C = 112) (nm : ByteArray) (r : Nat) (hcd : propP s Q = some (nm, r)) (hpr : propSpec nm.data.toList false = none) :
    Calls Tryz.prog 64 #[.string s, .int .i64 p, .bool b] w (fun e w' => e = .returned (escT 0 0 (.slice none 0 0) 0 0 63 p r) ∧ Below w.heap.size w w') := by
  obtain ⟨bA, bC, bB, bZ⟩ := refesc_blocks w
  have A0 := hid bA; have C0 := hid bC; have B0 := hid bB; have Z0 := hid bZ
  clear bA bC bB bZ
  have hlv : letterI C = -1 := hl
  have HLE := hid (ref06_letter C)
  simp only [hlv] at HLE
  clear hlv hl
  have nx : (C == 120) = false := by simp; omega
  have ny : (C == 112) = true := by simp; omega
  have nz : (C == 80) = false := by simp; omega
  clear hx
  have HCD := hid hcd; clear hcd
  have HP := hid hpr; clear hpr
  have HSG := hid hsg; clear hsg
  have h0' : (p : Int) < (s.size : Int) := by omega
  have h1' : (p : Int) + 1 < (s.size : Int) := by omega
  have h12 : ((p : Int) + 1 == (s.size : Int)) = false := by simp; omega
  have T0 := hid ((hT.alloc (.cells #[.int .i64 0, .int .i32 0, .slice none 0 0, .int .i64 0] 64)).alloc (.cells #[.int .i64 0, .int .i64 0, .int .i64 0] 27))
  clear hT
  have HQS := hid (show Q ≤ s.size by rw [← hQ]; exact nextW_le s (p + 1) (by omega))
  have HDC := hid (show ((Lib.decodeGo (tail s (p + 1))).1 : Int) = C by rw [← hC, decodeGo_tail s (p + 1) h1]; unfold nextC; rw [if_pos h1])
  have HDW := hid (show p + 1 + (Lib.decodeGo (tail s (p + 1))).2 = Q by rw [← hQ, decodeGo_tail s (p + 1) h1]; unfold nextW; rw [if_pos h1])
  clear hC hQ
  go_enter Tryz.func64, Tryz.ntmps64
  go_wp2_with fail
  refine (Tryz.utf8_DecodeRuneInString (tail s (p + 1)) _ T0.out).mono ?_
  rintro e w1 ⟨rfl, hB1⟩
  have A1 := hid (A0.out.below hB1 A0.out.lt); have C1 := hid (C0.out.below hB1 C0.out.lt); have B1 := hid (B0.out.trans (hB1.mono B0.out.size)); have T1 := hid (T0.out.below hB1)
  clear hB1
  rw [HDC.out]
  generalize Lib.decodeGo (tail s (p + 1)) = D at HDC HDW ⊢
  obtain ⟨d1, d2⟩ := D
  have hq : (p : Int) + 1 + (d2 : Int) = (Q : Int) := by have := HDW.out; simp only at this; omega
  have hqb : (Q : Int) ≤ 140737488355328 := by have := HQS.out; omega
  simp only
  clear HDC HDW
  go_wp2_with fail
  refine (ref06_wrongR _ _ _ _).mono ?_
  rintro e w2 ⟨rfl, hB2⟩
  obtain ⟨W3, hW3⟩ : ∃ W3, W3 = w2.alloc (.cells #[.int .i64 61, .int .i64 p, .int .i64 Q] 27) := ⟨_, rfl⟩
  have A3 := hid (show Blk W3 w.heap.size esc0R 64 by rw [hW3]; exact (A1.out.below hB2 A1.out.lt).alloc _)
  have C3 := hid (show Blk W3 (w.heap.size + 1) wrong0R 27 by rw [hW3]; exact (C1.out.below hB2 C1.out.lt).alloc _)
  have T3 := hid (show Tabs W3 by rw [hW3]; exact (T1.out.below hB2).alloc _)
  have hz2 := (B1.out.trans (hB2.mono B1.out.size)).size
  have B3 := hid (show Below w.heap.size w W3 by rw [hW3]; exact (B1.out.trans (hB2.mono B1.out.size)).alloc hz2 _)
  obtain ⟨DB, hDB⟩ : ∃ DB, DB = w2.heap.size := ⟨_, rfl⟩
  have D3 := hid (show Blk W3 DB [.int .i64 61, .int .i64 p, .int .i64 Q] 27 by rw [hW3, hDB]; exact Blk.new _ _ _)
  have hdb : w.heap.size + 1 < DB := by rw [hDB]; exact (C1.out.below hB2 C1.out.lt).lt
  have hd1 : ¬ w.heap.size = DB := by omega
  have hd2 : ¬ DB = w.heap.size := by omega
  have hd3 : ¬ w.heap.size + 1 = DB := by omega
  have hd4 : ¬ DB = w.heap.size + 1 := by omega
  clear hdb
  clear hB2 hz2 A1 C1 B1 T1 T0 A0 C0 B0 Z0
  go_wp2_with fail
  rw [← hW3, ← hDB]
  clear hW3 hDB
  refine (ref06_SignI C _).mono ?_
  rintro e w4 ⟨rfl, rfl⟩
  rw [HSG.out]
  go_wp2_with fail
  refine (HLE.out _).mono ?_
  rintro e w5 ⟨rfl, rfl⟩
  go_wp2_with fail
  refine (ref06_property s Q _ T3.out HQS.out hs).mono ?_
  rintro e w6 ⟨rfl, hB⟩
  rw [HCD.out]
  have A6 := hid (A3.out.below hB A3.out.lt); have C6 := hid (C3.out.below hB C3.out.lt); have D6 := hid (D3.out.below hB D3.out.lt); have B6 := hid (B3.out.trans (hB.mono B3.out.size))
  clear hB
  simp only [propV]
  go_wp2_with fail
  refine (ref04_Property nm false _).mono ?_
  rintro e w7 ⟨v, out, rfl, p1, p2, p3, p4⟩
  rw [HP.out] at p2 ⊢
  obtain ⟨sa, sc, rfl, hr, _⟩ := p1.ranges (by omega)
  have HLD := hid p1; have HST := hid p2; have HLN := hid p3
  have A7 := hid (A6.out.below p4 A6.out.lt); have C7 := hid (C6.out.below p4 C6.out.lt); have B7 := hid (B6.out.trans (p4.mono B6.out.size))
  have hz6 := hid (show w.heap.size + 1 < w6.heap.size from C6.out.lt)
  clear hr p1 p2 p3 p4
  go_wp2_with fail
  refine (ref06_wrongR _ _ _ _).mono ?_
  rintro e w8 ⟨rfl, hB⟩
  have A8 := hid (A7.out.below hB A7.out.lt); have C8 := hid (C7.out.below hB C7.out.lt); have B8 := hid (B7.out.trans (hB.mono B7.out.size))
  clear hB
  have a0 := Blk.cell A8.out (j := 0) rfl; have a1 := Blk.cell A8.out (j := 1) rfl; have a2 := Blk.cell A8.out (j := 2) rfl; have a3 := Blk.cell A8.out (j := 3) rfl
  have b0 := A8.out.frozen 0; have b1 := A8.out.frozen 1; have b2 := A8.out.frozen 2; have b3 := A8.out.frozen 3
  have d0' := Blk.cell C8.out (j := 0) rfl; have d1' := Blk.cell C8.out (j := 1) rfl; have d2' := Blk.cell C8.out (j := 2) rfl
  have d0 := C8.out.frozen 0; have d1 := C8.out.frozen 1; have d2 := C8.out.frozen 2
  go_wp2_with fail
  refine bodyPost_ret (v := escT 0 0 (.slice none 0 0) 0 0 63 p r) ?_ rfl ⟨rfl, ?_⟩
  · simp [results, Tryz.results64, escT, go_sem, a0, a1, a2, a3, d0', d1', d2']
  · exact (((((((B8.out.setCell (by simp) _).setCell (by simp) _).setCell (by simp) _).setCell (by simp) _).setCell (by simp) _).setCell (by simp) _).setCell (by simp) _)

set_option maxRecDepth 100000 in
set_option maxHeartbeats 4000000 in
theorem refesc_p112_set (s : ByteArray) (p : Nat) (b : Bool) (w : World) (hs : s.size ≤ 140737488355328) (h0 : p < s.size) (hc : ((s[p].toNat : Int) != 92) = false) (h1 : p + 1 < s.size) (hT : Tabs w) (C : Int) (Q : Nat) (hC : nextC s (p + 1) = C) (hQ : nextW s (p + 1) = Q) (_ : 0 ≤ C) (_ : C ≤ 1114111) (hsg : signI C = false) (hl : letterI C = -1) (hx : C = 112) (nm : ByteArray) (r : Nat) (hcd : propP s Q = some (nm, r)) (f : Int → Bool) (hpr : propSpec nm.data.toList false = some f) :
    Calls Tryz.prog 64 #[.string s, .int .i64 p, .bool b] w (EscOut w (.set f r)) := by
  obtain ⟨bA, bC, bB, bZ⟩ := refesc_blocks w
  have A0 := hid bA; have C0 := hid bC; have B0 := hid bB; have Z0 := hid bZ
  clear bA bC bB bZ
  have hlv : letterI C = -1 := hl
  have HLE := hid (ref06_letter C)
  simp only [hlv] at HLE
  clear hlv hl
  have nx : (C == 120) = false := by simp; omega
  have ny : (C == 112) = true := by simp; omega
  have nz : (C == 80) = false := by simp; omega
  clear hx
  have HCD := hid hcd; clear hcd
  have HP := hid hpr; clear hpr
  have HSG := hid hsg; clear hsg
  have h0' : (p : Int) < (s.size : Int) := by omega
  have h1' : (p : Int) + 1 < (s.size : Int) := by omega
  have h12 : ((p : Int) + 1 == (s.size : Int)) = false := by simp; omega
  have T0 := hid ((hT.alloc (.cells #[.int .i64 0, .int .i32 0, .slice none 0 0, .int .i64 0] 64)).alloc (.cells #[.int .i64 0, .int .i64 0, .int .i64 0] 27))
  clear hT
  have HQS := hid (show Q ≤ s.size by rw [← hQ]; exact nextW_le s (p + 1) (by omega))
  have HDC := hid (show ((Lib.decodeGo (tail s (p + 1))).1 : Int) = C by rw [← hC, decodeGo_tail s (p + 1) h1]; unfold nextC; rw [if_pos h1])
  have HDW := hid (show p + 1 + (Lib.decodeGo (tail s (p + 1))).2 = Q by rw [← hQ, decodeGo_tail s (p + 1) h1]; unfold nextW; rw [if_pos h1])
  clear hC hQ
  go_enter Tryz.func64, Tryz.ntmps64
  go_wp2_with fail
  refine (Tryz.utf8_DecodeRuneInString (tail s (p + 1)) _ T0.out).mono ?_
  rintro e w1 ⟨rfl, hB1⟩
  have A1 := hid (A0.out.below hB1 A0.out.lt); have C1 := hid (C0.out.below hB1 C0.out.lt); have B1 := hid (B0.out.trans (hB1.mono B0.out.size)); have T1 := hid (T0.out.below hB1)
  clear hB1
  rw [HDC.out]
  generalize Lib.decodeGo (tail s (p + 1)) = D at HDC HDW ⊢
  obtain ⟨d1, d2⟩ := D
  have hq : (p : Int) + 1 + (d2 : Int) = (Q : Int) := by have := HDW.out; simp only at this; omega
  have hqb : (Q : Int) ≤ 140737488355328 := by have := HQS.out; omega
  simp only
  clear HDC HDW
  go_wp2_with fail
  refine (ref06_wrongR _ _ _ _).mono ?_
  rintro e w2 ⟨rfl, hB2⟩
  obtain ⟨W3, hW3⟩ : ∃ W3, W3 = w2.alloc (.cells #[.int .i64 61, .int .i64 p, .int .i64 Q] 27) := ⟨_, rfl⟩
  have A3 := hid (show Blk W3 w.heap.size esc0R 64 by rw [hW3]; exact (A1.out.below hB2 A1.out.lt).alloc _)
  have C3 := hid (show Blk W3 (w.heap.size + 1) wrong0R 27 by rw [hW3]; exact (C1.out.below hB2 C1.out.lt).alloc _)
  have T3 := hid (show Tabs W3 by rw [hW3]; exact (T1.out.below hB2).alloc _)
  have hz2 := (B1.out.trans (hB2.mono B1.out.size)).size
  have B3 := hid (show Below w.heap.size w W3 by rw [hW3]; exact (B1.out.trans (hB2.mono B1.out.size)).alloc hz2 _)
  obtain ⟨DB, hDB⟩ : ∃ DB, DB = w2.heap.size := ⟨_, rfl⟩
  have D3 := hid (show Blk W3 DB [.int .i64 61, .int .i64 p, .int .i64 Q] 27 by rw [hW3, hDB]; exact Blk.new _ _ _)
  have hdb : w.heap.size + 1 < DB := by rw [hDB]; exact (C1.out.below hB2 C1.out.lt).lt
  have hd1 : ¬ w.heap.size = DB := by omega
  have hd2 : ¬ DB = w.heap.size := by omega
  have hd3 : ¬ w.heap.size + 1 = DB := by omega
  have hd4 : ¬ DB = w.heap.size + 1 := by omega
  clear hdb
  clear hB2 hz2 A1 C1 B1 T1 T0 A0 C0 B0 Z0
  go_wp2_with fail
  rw [← hW3, ← hDB]
  clear hW3 hDB
  refine (ref06_SignI C _).mono ?_
  rintro e w4 ⟨rfl, rfl⟩
  rw [HSG.out]
  go_wp2_with fail
  refine (HLE.out _).mono ?_
  rintro e w5 ⟨rfl, rfl⟩
  go_wp2_with fail
  refine (ref06_property s Q _ T3.out HQS.out hs).mono ?_
  rintro e w6 ⟨rfl, hB⟩
  rw [HCD.out]
  have A6 := hid (A3.out.below hB A3.out.lt); have C6 := hid (C3.out.below hB C3.out.lt); have D6 := hid (D3.out.below hB D3.out.lt); have B6 := hid (B3.out.trans (hB.mono B3.out.size))
  clear hB
  simp only [propV]
  go_wp2_with fail
  refine (ref04_Property nm false _).mono ?_
  rintro e w7 ⟨v, out, rfl, p1, p2, p3, p4⟩
  rw [HP.out] at p2 ⊢
  obtain ⟨sa, sc, rfl, hr, _⟩ := p1.ranges (by omega)
  have HLD := hid p1; have HST := hid p2; have HLN := hid p3
  have A7 := hid (A6.out.below p4 A6.out.lt); have C7 := hid (C6.out.below p4 C6.out.lt); have B7 := hid (B6.out.trans (p4.mono B6.out.size))
  have hz6 := hid (show w.heap.size + 1 < w6.heap.size from C6.out.lt)
  clear hr p1 p2 p3 p4
  have a0 := Blk.cell A7.out (j := 0) rfl; have a1 := Blk.cell A7.out (j := 1) rfl; have a2 := Blk.cell A7.out (j := 2) rfl; have a3 := Blk.cell A7.out (j := 3) rfl
  have b0 := A7.out.frozen 0; have b1 := A7.out.frozen 1; have b2 := A7.out.frozen 2; have b3 := A7.out.frozen 3
  have d0' := Blk.cell C7.out (j := 0) rfl; have d1' := Blk.cell C7.out (j := 1) rfl; have d2' := Blk.cell C7.out (j := 2) rfl
  have d0 := C7.out.frozen 0; have d1 := C7.out.frozen 1; have d2 := C7.out.frozen 2
  go_wp2_with fail
  refine bodyPost_ret (v := escT 2 0 (.slice sa out.length sc) 0 r 0 0 0) ?_ rfl ⟨_, out, rfl, ?_, HST.out, HLN.out, ?_⟩
  · simp [results, Tryz.results64, escT, go_sem, a0, a1, a2, a3, d0', d1', d2']
  · have l1 := hz6.out
    refine Joins.ownsRow_le ?_ (show w.heap.size ≤ w6.heap.size by omega)
    exact (ownsRow_setCellR (ownsRow_setCellR (ownsRow_setCellR (ownsRow_setCellR (ownsRow_setCellR (ownsRow_setCellR (ownsRow_setCellR HLD.out (by omega) _ _) (by omega) _ _) (by omega) _ _) (by omega) _ _) (by omega) _ _) (by omega) _ _) (by omega) _ _)
  · exact (((((((B7.out.setCell (by simp) _).setCell (by simp) _).setCell (by simp) _).setCell (by simp) _).setCell (by simp) _).setCell (by simp) _).setCell (by simp) _)

set_option maxRecDepth 100000 in
set_option maxHeartbeats 4000000 in
theorem refesc_p80_no (s : ByteArray) (p : Nat) (b : Bool) (w : World) (hs : s.size ≤ 140737488355328) (h0 : p < s.size) (hc : ((s[p].toNat : Int) != 92) = false) (h1 : p + 1 < s.size) (hT : Tabs w) (C : Int) (Q : Nat) (hC : nextC s (p + 1) = C) (hQ : nextW s (p + 1) = Q) (_ : 0 ≤ C) (_ : C ≤ 1114111) (hsg : signI C = false) (hl : letterI C = -1) (hx : C = 80) (hcd : propP s Q = none) :
    Calls Tryz.prog 64 #[.string s, .int .i64 p, .bool b] w (fun e w' => e = .returned (escT 0 0 (.slice none 0 0) 0 0 61 p Q) ∧ Below w.heap.size w w') := by
  obtain ⟨bA, bC, bB, bZ⟩ := refesc_blocks w
  have A0 := hid bA; have C0 := hid bC; have B0 := hid bB; have Z0 := hid bZ
  clear bA bC bB bZ
  have hlv : letterI C = -1 := hl
  have HLE := hid (ref06_letter C)
  simp only [hlv] at HLE
  clear hlv hl
  have nx : (C == 120) = false := by simp; omega
  have ny : (C == 112) = false := by simp; omega
  have nz : (C == 80) = true := by simp; omega
  clear hx
  have HCD := hid hcd; clear hcd
  have HSG := hid hsg; clear hsg
  have h0' : (p : Int) < (s.size : Int) := by omega
  have h1' : (p : Int) + 1 < (s.size : Int) := by omega
  have h12 : ((p : Int) + 1 == (s.size : Int)) = false := by simp; omega
  have T0 := hid ((hT.alloc (.cells #[.int .i64 0, .int .i32 0, .slice none 0 0, .int .i64 0] 64)).alloc (.cells #[.int .i64 0, .int .i64 0, .int .i64 0] 27))
  clear hT
  have HQS := hid (show Q ≤ s.size by rw [← hQ]; exact nextW_le s (p + 1) (by omega))
  have HDC := hid (show ((Lib.decodeGo (tail s (p + 1))).1 : Int) = C by rw [← hC, decodeGo_tail s (p + 1) h1]; unfold nextC; rw [if_pos h1])
  have HDW := hid (show p + 1 + (Lib.decodeGo (tail s (p + 1))).2 = Q by rw [← hQ, decodeGo_tail s (p + 1) h1]; unfold nextW; rw [if_pos h1])
  clear hC hQ
  go_enter Tryz.func64, Tryz.ntmps64
  go_wp2_with fail
  refine (Tryz.utf8_DecodeRuneInString (tail s (p + 1)) _ T0.out).mono ?_
  rintro e w1 ⟨rfl, hB1⟩
  have A1 := hid (A0.out.below hB1 A0.out.lt); have C1 := hid (C0.out.below hB1 C0.out.lt); have B1 := hid (B0.out.trans (hB1.mono B0.out.size)); have T1 := hid (T0.out.below hB1)
  clear hB1
  rw [HDC.out]
  generalize Lib.decodeGo (tail s (p + 1)) = D at HDC HDW ⊢
  obtain ⟨d1, d2⟩ := D
  have hq : (p : Int) + 1 + (d2 : Int) = (Q : Int) := by have := HDW.out; simp only at this; omega
  have hqb : (Q : Int) ≤ 140737488355328 := by have := HQS.out; omega
  simp only
  clear HDC HDW
  go_wp2_with fail
  refine (ref06_wrongR _ _ _ _).mono ?_
  rintro e w2 ⟨rfl, hB2⟩
  obtain ⟨W3, hW3⟩ : ∃ W3, W3 = w2.alloc (.cells #[.int .i64 61, .int .i64 p, .int .i64 Q] 27) := ⟨_, rfl⟩
  have A3 := hid (show Blk W3 w.heap.size esc0R 64 by rw [hW3]; exact (A1.out.below hB2 A1.out.lt).alloc _)
  have C3 := hid (show Blk W3 (w.heap.size + 1) wrong0R 27 by rw [hW3]; exact (C1.out.below hB2 C1.out.lt).alloc _)
  have T3 := hid (show Tabs W3 by rw [hW3]; exact (T1.out.below hB2).alloc _)
  have hz2 := (B1.out.trans (hB2.mono B1.out.size)).size
  have B3 := hid (show Below w.heap.size w W3 by rw [hW3]; exact (B1.out.trans (hB2.mono B1.out.size)).alloc hz2 _)
  obtain ⟨DB, hDB⟩ : ∃ DB, DB = w2.heap.size := ⟨_, rfl⟩
  have D3 := hid (show Blk W3 DB [.int .i64 61, .int .i64 p, .int .i64 Q] 27 by rw [hW3, hDB]; exact Blk.new _ _ _)
  have hdb : w.heap.size + 1 < DB := by rw [hDB]; exact (C1.out.below hB2 C1.out.lt).lt
  have hd1 : ¬ w.heap.size = DB := by omega
  have hd2 : ¬ DB = w.heap.size := by omega
  have hd3 : ¬ w.heap.size + 1 = DB := by omega
  have hd4 : ¬ DB = w.heap.size + 1 := by omega
  clear hdb
  clear hB2 hz2 A1 C1 B1 T1 T0 A0 C0 B0 Z0
  go_wp2_with fail
  rw [← hW3, ← hDB]
  clear hW3 hDB
  refine (ref06_SignI C _).mono ?_
  rintro e w4 ⟨rfl, rfl⟩
  rw [HSG.out]
  go_wp2_with fail
  refine (HLE.out _).mono ?_
  rintro e w5 ⟨rfl, rfl⟩
  go_wp2_with fail
  refine (ref06_property s Q _ T3.out HQS.out hs).mono ?_
  rintro e w6 ⟨rfl, hB⟩
  rw [HCD.out]
  have A6 := hid (A3.out.below hB A3.out.lt); have C6 := hid (C3.out.below hB C3.out.lt); have D6 := hid (D3.out.below hB D3.out.lt); have B6 := hid (B3.out.trans (hB.mono B3.out.size))
  clear hB
  simp only [propV]
  have a0 := Blk.cell A6.out (j := 0) rfl; have a1 := Blk.cell A6.out (j := 1) rfl; have a2 := Blk.cell A6.out (j := 2) rfl; have a3 := Blk.cell A6.out (j := 3) rfl
  have b0 := A6.out.frozen 0; have b1 := A6.out.frozen 1; have b2 := A6.out.frozen 2; have b3 := A6.out.frozen 3
  have d0' := Blk.cell C6.out (j := 0) rfl; have d1' := Blk.cell C6.out (j := 1) rfl; have d2' := Blk.cell C6.out (j := 2) rfl
  have d0 := C6.out.frozen 0; have d1 := C6.out.frozen 1; have d2 := C6.out.frozen 2
  have e0 := Blk.cell D6.out (j := 0) rfl; have e1 := Blk.cell D6.out (j := 1) rfl; have e2 := Blk.cell D6.out (j := 2) rfl
  go_wp2_with fail
  go_region
  go_wp2_with fail
  refine bodyPost_ret (v := escT 0 0 (.slice none 0 0) 0 0 61 p Q) ?_ rfl ⟨rfl, ?_⟩
  · simp [results, Tryz.results64, escT, go_sem, a0, a1, a2, a3, d0', d1', d2']
  · exact (((((((B6.out.setCell (by simp) _).setCell (by simp) _).setCell (by simp) _).setCell (by simp) _).setCell (by simp) _).setCell (by simp) _).setCell (by simp) _).drew

set_option maxRecDepth 100000 in
set_option maxHeartbeats 4000000 in
theorem refesc_p80_unknown (s : ByteArray) (p : Nat) (b : Bool) (w : World) (hs : s.size ≤ 140737488355328) (h0 : p < s.size) (hc : ((s[p].toNat : Int) != 92) = false) (h1 : p + 1 < s.size) (hT : Tabs w) (C : Int) (Q : Nat) (hC : nextC s (p + 1) = C) (hQ : nextW s (p + 1) = Q) (_ : 0 ≤ C) (_ : C ≤ 1114111) (hsg : signI C = false) (hl : letterI C = -1) (hx : C = 80) (nm : ByteArray) (r : Nat) (hcd : propP s Q = some (nm, r)) (hpr : propSpec nm.data.toList true = none) :
    Calls Tryz.prog 64 #[.string s, .int .i64 p, .bool b] w (fun e w' => e = .returned (escT 0 0 (.slice none 0 0) 0 0 63 p r) ∧ Below w.heap.size w w') := by
  obtain ⟨bA, bC, bB, bZ⟩ := refesc_blocks w
  have A0 := hid bA; have C0 := hid bC; have B0 := hid bB; have Z0 := hid bZ
  clear bA bC bB bZ
  have hlv : letterI C = -1 := hl
  have HLE := hid (ref06_letter C)
  simp only [hlv] at HLE
  clear hlv hl
  have nx : (C == 120) = false := by simp; omega
  have ny : (C == 112) = false := by simp; omega
  have nz : (C == 80) = true := by simp; omega
  clear hx
  have HCD := hid hcd; clear hcd
  have HP := hid hpr; clear hpr
  have HSG := hid hsg; clear hsg
  have h0' : (p : Int) < (s.size : Int) := by omega
  have h1' : (p : Int) + 1 < (s.size : Int) := by omega
  have h12 : ((p : Int) + 1 == (s.size : Int)) = false := by simp; omega
  have T0 := hid ((hT.alloc (.cells #[.int .i64 0, .int .i32 0, .slice none 0 0, .int .i64 0] 64)).alloc (.cells #[.int .i64 0, .int .i64 0, .int .i64 0] 27))
  clear hT
  have HQS := hid (show Q ≤ s.size by rw [← hQ]; exact nextW_le s (p + 1) (by omega))
  have HDC := hid (show ((Lib.decodeGo (tail s (p + 1))).1 : Int) = C by rw [← hC, decodeGo_tail s (p + 1) h1]; unfold nextC; rw [if_pos h1])
  have HDW := hid (show p + 1 + (Lib.decodeGo (tail s (p + 1))).2 = Q by rw [← hQ, decodeGo_tail s (p + 1) h1]; unfold nextW; rw [if_pos h1])
  clear hC hQ
  go_enter Tryz.func64, Tryz.ntmps64
  go_wp2_with fail
  refine (Tryz.utf8_DecodeRuneInString (tail s (p + 1)) _ T0.out).mono ?_
  rintro e w1 ⟨rfl, hB1⟩
  have A1 := hid (A0.out.below hB1 A0.out.lt); have C1 := hid (C0.out.below hB1 C0.out.lt); have B1 := hid (B0.out.trans (hB1.mono B0.out.size)); have T1 := hid (T0.out.below hB1)
  clear hB1
  rw [HDC.out]
  generalize Lib.decodeGo (tail s (p + 1)) = D at HDC HDW ⊢
  obtain ⟨d1, d2⟩ := D
  have hq : (p : Int) + 1 + (d2 : Int) = (Q : Int) := by have := HDW.out; simp only at this; omega
  have hqb : (Q : Int) ≤ 140737488355328 := by have := HQS.out; omega
  simp only
  clear HDC HDW
  go_wp2_with fail
  refine (ref06_wrongR _ _ _ _).mono ?_
  rintro e w2 ⟨rfl, hB2⟩
  obtain ⟨W3, hW3⟩ : ∃ W3, W3 = w2.alloc (.cells #[.int .i64 61, .int .i64 p, .int .i64 Q] 27) := ⟨_, rfl⟩
  have A3 := hid (show Blk W3 w.heap.size esc0R 64 by rw [hW3]; exact (A1.out.below hB2 A1.out.lt).alloc _)
  have C3 := hid (show Blk W3 (w.heap.size + 1) wrong0R 27 by rw [hW3]; exact (C1.out.below hB2 C1.out.lt).alloc _)
  have T3 := hid (show Tabs W3 by rw [hW3]; exact (T1.out.below hB2).alloc _)
  have hz2 := (B1.out.trans (hB2.mono B1.out.size)).size
  have B3 := hid (show Below w.heap.size w W3 by rw [hW3]; exact (B1.out.trans (hB2.mono B1.out.size)).alloc hz2 _)
  obtain ⟨DB, hDB⟩ : ∃ DB, DB = w2.heap.size := ⟨_, rfl⟩
  have D3 := hid (show Blk W3 DB [.int .i64 61, .int .i64 p, .int .i64 Q] 27 by rw [hW3, hDB]; exact Blk.new _ _ _)
  have hdb : w.heap.size + 1 < DB := by rw [hDB]; exact (C1.out.below hB2 C1.out.lt).lt
  have hd1 : ¬ w.heap.size = DB := by omega
  have hd2 : ¬ DB = w.heap.size := by omega
  have hd3 : ¬ w.heap.size + 1 = DB := by omega
  have hd4 : ¬ DB = w.heap.size + 1 := by omega
  clear hdb
  clear hB2 hz2 A1 C1 B1 T1 T0 A0 C0 B0 Z0
  go_wp2_with fail
  rw [← hW3, ← hDB]
  clear hW3 hDB
  refine (ref06_SignI C _).mono ?_
  rintro e w4 ⟨rfl, rfl⟩
  rw [HSG.out]
  go_wp2_with fail
  refine (HLE.out _).mono ?_
  rintro e w5 ⟨rfl, rfl⟩
  go_wp2_with fail
  refine (ref06_property s Q _ T3.out HQS.out hs).mono ?_
  rintro e w6 ⟨rfl, hB⟩
  rw [HCD.out]
  have A6 := hid (A3.out.below hB A3.out.lt); have C6 := hid (C3.out.below hB C3.out.lt); have D6 := hid (D3.out.below hB D3.out.lt); have B6 := hid (B3.out.trans (hB.mono B3.out.size))
  clear hB
  simp only [propV]
  go_wp2_with fail
  refine (ref04_Property nm true _).mono ?_
  rintro e w7 ⟨v, out, rfl, p1, p2, p3, p4⟩
  rw [HP.out] at p2 ⊢
  obtain ⟨sa, sc, rfl, hr, _⟩ := p1.ranges (by omega)
  have HLD := hid p1; have HST := hid p2; have HLN := hid p3
  have A7 := hid (A6.out.below p4 A6.out.lt); have C7 := hid (C6.out.below p4 C6.out.lt); have B7 := hid (B6.out.trans (p4.mono B6.out.size))
  have hz6 := hid (show w.heap.size + 1 < w6.heap.size from C6.out.lt)
  clear hr p1 p2 p3 p4
  go_wp2_with fail
  refine (ref06_wrongR _ _ _ _).mono ?_
  rintro e w8 ⟨rfl, hB⟩
  have A8 := hid (A7.out.below hB A7.out.lt); have C8 := hid (C7.out.below hB C7.out.lt); have B8 := hid (B7.out.trans (hB.mono B7.out.size))
  clear hB
  have a0 := Blk.cell A8.out (j := 0) rfl; have a1 := Blk.cell A8.out (j := 1) rfl; have a2 := Blk.cell A8.out (j := 2) rfl; have a3 := Blk.cell A8.out (j := 3) rfl
  have b0 := A8.out.frozen 0; have b1 := A8.out.frozen 1; have b2 := A8.out.frozen 2; have b3 := A8.out.frozen 3
  have d0' := Blk.cell C8.out (j := 0) rfl; have d1' := Blk.cell C8.out (j := 1) rfl; have d2' := Blk.cell C8.out (j := 2) rfl
  have d0 := C8.out.frozen 0; have d1 := C8.out.frozen 1; have d2 := C8.out.frozen 2
  go_wp2_with fail
  refine bodyPost_ret (v := escT 0 0 (.slice none 0 0) 0 0 63 p r) ?_ rfl ⟨rfl, ?_⟩
  · simp [results, Tryz.results64, escT, go_sem, a0, a1, a2, a3, d0', d1', d2']
  · exact (((((((B8.out.setCell (by simp) _).setCell (by simp) _).setCell (by simp) _).setCell (by simp) _).setCell (by simp) _).setCell (by simp) _).setCell (by simp) _)

set_option maxRecDepth 100000 in
set_option maxHeartbeats 4000000 in
theorem refesc_p80_set (s : ByteArray) (p : Nat) (b : Bool) (w : World) (hs : s.size ≤ 140737488355328) (h0 : p < s.size) (hc : ((s[p].toNat : Int) != 92) = false) (h1 : p + 1 < s.size) (hT : Tabs w) (C : Int) (Q : Nat) (hC : nextC s (p + 1) = C) (hQ : nextW s (p + 1) = Q) (_ : 0 ≤ C) (_ : C ≤ 1114111) (hsg : signI C = false) (hl : letterI C = -1) (hx : C = 80) (nm : ByteArray) (r : Nat) (hcd : propP s Q = some (nm, r)) (f : Int → Bool) (hpr : propSpec nm.data.toList true = some f) :
    Calls Tryz.prog 64 #[.string s, .int .i64 p, .bool b] w (EscOut w (.set f r)) := by
  obtain ⟨bA, bC, bB, bZ⟩ := refesc_blocks w
  have A0 := hid bA; have C0 := hid bC; have B0 := hid bB; have Z0 := hid bZ
  clear bA bC bB bZ
  have hlv : letterI C = -1 := hl
  have HLE := hid (ref06_letter C)
  simp only [hlv] at HLE
  clear hlv hl
  have nx : (C == 120) = false := by simp; omega
  have ny : (C == 112) = false := by simp; omega
  have nz : (C == 80) = true := by simp; omega
  clear hx
  have HCD := hid hcd; clear hcd
  have HP := hid hpr; clear hpr
  have HSG := hid hsg; clear hsg
  have h0' : (p : Int) < (s.size : Int) := by omega
  have h1' : (p : Int) + 1 < (s.size : Int) := by omega
  have h12 : ((p : Int) + 1 == (s.size : Int)) = false := by simp; omega
  have T0 := hid ((hT.alloc (.cells #[.int .i64 0, .int .i32 0, .slice none 0 0, .int .i64 0] 64)).alloc (.cells #[.int .i64 0, .int .i64 0, .int .i64 0] 27))
  clear hT
  have HQS := hid (show Q ≤ s.size by rw [← hQ]; exact nextW_le s (p + 1) (by omega))
  have HDC := hid (show ((Lib.decodeGo (tail s (p + 1))).1 : Int) = C by rw [← hC, decodeGo_tail s (p + 1) h1]; unfold nextC; rw [if_pos h1])
  have HDW := hid (show p + 1 + (Lib.decodeGo (tail s (p + 1))).2 = Q by rw [← hQ, decodeGo_tail s (p + 1) h1]; unfold nextW; rw [if_pos h1])
  clear hC hQ
  go_enter Tryz.func64, Tryz.ntmps64
  go_wp2_with fail
  refine (Tryz.utf8_DecodeRuneInString (tail s (p + 1)) _ T0.out).mono ?_
  rintro e w1 ⟨rfl, hB1⟩
  have A1 := hid (A0.out.below hB1 A0.out.lt); have C1 := hid (C0.out.below hB1 C0.out.lt); have B1 := hid (B0.out.trans (hB1.mono B0.out.size)); have T1 := hid (T0.out.below hB1)
  clear hB1
  rw [HDC.out]
  generalize Lib.decodeGo (tail s (p + 1)) = D at HDC HDW ⊢
  obtain ⟨d1, d2⟩ := D
  have hq : (p : Int) + 1 + (d2 : Int) = (Q : Int) := by have := HDW.out; simp only at this; omega
  have hqb : (Q : Int) ≤ 140737488355328 := by have := HQS.out; omega
  simp only
  clear HDC HDW
  go_wp2_with fail
  refine (ref06_wrongR _ _ _ _).mono ?_
  rintro e w2 ⟨rfl, hB2⟩
  obtain ⟨W3, hW3⟩ : ∃ W3, W3 = w2.alloc (.cells #[.int .i64 61, .int .i64 p, .int .i64 Q] 27) := ⟨_, rfl⟩
  have A3 := hid (show Blk W3 w.heap.size esc0R 64 by rw [hW3]; exact (A1.out.below hB2 A1.out.lt).alloc _)
  have C3 := hid (show Blk W3 (w.heap.size + 1) wrong0R 27 by rw [hW3]; exact (C1.out.below hB2 C1.out.lt).alloc _)
  have T3 := hid (show Tabs W3 by rw [hW3]; exact (T1.out.below hB2).alloc _)
  have hz2 := (B1.out.trans (hB2.mono B1.out.size)).size
  have B3 := hid (show Below w.heap.size w W3 by rw [hW3]; exact (B1.out.trans (hB2.mono B1.out.size)).alloc hz2 _)
  obtain ⟨DB, hDB⟩ : ∃ DB, DB = w2.heap.size := ⟨_, rfl⟩
  have D3 := hid (show Blk W3 DB [.int .i64 61, .int .i64 p, .int .i64 Q] 27 by rw [hW3, hDB]; exact Blk.new _ _ _)
  have hdb : w.heap.size + 1 < DB := by rw [hDB]; exact (C1.out.below hB2 C1.out.lt).lt
  have hd1 : ¬ w.heap.size = DB := by omega
  have hd2 : ¬ DB = w.heap.size := by omega
  have hd3 : ¬ w.heap.size + 1 = DB := by omega
  have hd4 : ¬ DB = w.heap.size + 1 := by omega
  clear hdb
  clear hB2 hz2 A1 C1 B1 T1 T0 A0 C0 B0 Z0
  go_wp2_with fail
  rw [← hW3, ← hDB]
  clear hW3 hDB
  refine (ref06_SignI C _).mono ?_
  rintro e w4 ⟨rfl, rfl⟩
  rw [HSG.out]
  go_wp2_with fail
  refine (HLE.out _).mono ?_
  rintro e w5 ⟨rfl, rfl⟩
  go_wp2_with fail
  refine (ref06_property s Q _ T3.out HQS.out hs).mono ?_
  rintro e w6 ⟨rfl, hB⟩
  rw [HCD.out]
  have A6 := hid (A3.out.below hB A3.out.lt); have C6 := hid (C3.out.below hB C3.out.lt); have D6 := hid (D3.out.below hB D3.out.lt); have B6 := hid (B3.out.trans (hB.mono B3.out.size))
  clear hB
  simp only [propV]
  go_wp2_with fail
  refine (ref04_Property nm true _).mono ?_
  rintro e w7 ⟨v, out, rfl, p1, p2, p3, p4⟩
  rw [HP.out] at p2 ⊢
  obtain ⟨sa, sc, rfl, hr, _⟩ := p1.ranges (by omega)
  have HLD := hid p1; have HST := hid p2; have HLN := hid p3
  have A7 := hid (A6.out.below p4 A6.out.lt); have C7 := hid (C6.out.below p4 C6.out.lt); have B7 := hid (B6.out.trans (p4.mono B6.out.size))
  have hz6 := hid (show w.heap.size + 1 < w6.heap.size from C6.out.lt)
  clear hr p1 p2 p3 p4
  have a0 := Blk.cell A7.out (j := 0) rfl; have a1 := Blk.cell A7.out (j := 1) rfl; have a2 := Blk.cell A7.out (j := 2) rfl; have a3 := Blk.cell A7.out (j := 3) rfl
  have b0 := A7.out.frozen 0; have b1 := A7.out.frozen 1; have b2 := A7.out.frozen 2; have b3 := A7.out.frozen 3
  have d0' := Blk.cell C7.out (j := 0) rfl; have d1' := Blk.cell C7.out (j := 1) rfl; have d2' := Blk.cell C7.out (j := 2) rfl
  have d0 := C7.out.frozen 0; have d1 := C7.out.frozen 1; have d2 := C7.out.frozen 2
  go_wp2_with fail
  refine bodyPost_ret (v := escT 2 0 (.slice sa out.length sc) 0 r 0 0 0) ?_ rfl ⟨_, out, rfl, ?_, HST.out, HLN.out, ?_⟩
  · simp [results, Tryz.results64, escT, go_sem, a0, a1, a2, a3, d0', d1', d2']
  · have l1 := hz6.out
    refine Joins.ownsRow_le ?_ (show w.heap.size ≤ w6.heap.size by omega)
    exact (ownsRow_setCellR (ownsRow_setCellR (ownsRow_setCellR (ownsRow_setCellR (ownsRow_setCellR (ownsRow_setCellR (ownsRow_setCellR HLD.out (by omega) _ _) (by omega) _ _) (by omega) _ _) (by omega) _ _) (by omega) _ _) (by omega) _ _) (by omega) _ _)
  · exact (((((((B7.out.setCell (by simp) _).setCell (by simp) _).setCell (by simp) _).setCell (by simp) _).setCell (by simp) _).setCell (by simp) _).setCell (by simp) _)

set_option maxRecDepth 100000 in
set_option maxHeartbeats 4000000 in
theorem refesc_pl_none (s : ByteArray) (p : Nat) (b : Bool) (w : World) (hs : s.size ≤ 140737488355328) (h0 : p < s.size) (hc : ((s[p].toNat : Int) != 92) = false) (h1 : p + 1 < s.size) (hT : Tabs w) (C : Int) (Q : Nat) (hC : nextC s (p + 1) = C) (hQ : nextW s (p + 1) = Q) (_ : 0 ≤ C) (_ : C ≤ 1114111) (hsg : signI C = false) (hl : letterI C = -1) (hx : C ≠ 120 ∧ C ≠ 112 ∧ C ≠ 80) (hpl : ∀ W : World, Calls Tryz.prog 97 #[.int .i32 C, .int .i64 Q] W fun e w' => e = .returned (perlsT 0 0 (.slice none 0 0) 0 0 false) ∧ Below W.heap.size W w') :
    Calls Tryz.prog 64 #[.string s, .int .i64 p, .bool b] w (fun e w' => e = .returned (escT 0 0 (.slice none 0 0) 0 0 61 p Q) ∧ Below w.heap.size w w') := by
  obtain ⟨bA, bC, bB, bZ⟩ := refesc_blocks w
  have A0 := hid bA; have C0 := hid bC; have B0 := hid bB; have Z0 := hid bZ
  clear bA bC bB bZ
  have hlv : letterI C = -1 := hl
  have HLE := hid (ref06_letter C)
  simp only [hlv] at HLE
  clear hlv hl
  have nx : (C == 120) = false := by simp; omega
  have ny : (C == 112) = false := by simp; omega
  have nz : (C == 80) = false := by simp; omega
  clear hx
  have HPL := hid hpl; clear hpl
  have HSG := hid hsg; clear hsg
  have h0' : (p : Int) < (s.size : Int) := by omega
  have h1' : (p : Int) + 1 < (s.size : Int) := by omega
  have h12 : ((p : Int) + 1 == (s.size : Int)) = false := by simp; omega
  have T0 := hid ((hT.alloc (.cells #[.int .i64 0, .int .i32 0, .slice none 0 0, .int .i64 0] 64)).alloc (.cells #[.int .i64 0, .int .i64 0, .int .i64 0] 27))
  clear hT
  have HQS := hid (show Q ≤ s.size by rw [← hQ]; exact nextW_le s (p + 1) (by omega))
  have HDC := hid (show ((Lib.decodeGo (tail s (p + 1))).1 : Int) = C by rw [← hC, decodeGo_tail s (p + 1) h1]; unfold nextC; rw [if_pos h1])
  have HDW := hid (show p + 1 + (Lib.decodeGo (tail s (p + 1))).2 = Q by rw [← hQ, decodeGo_tail s (p + 1) h1]; unfold nextW; rw [if_pos h1])
  clear hC hQ
  go_enter Tryz.func64, Tryz.ntmps64
  go_wp2_with fail
  refine (Tryz.utf8_DecodeRuneInString (tail s (p + 1)) _ T0.out).mono ?_
  rintro e w1 ⟨rfl, hB1⟩
  have A1 := hid (A0.out.below hB1 A0.out.lt); have C1 := hid (C0.out.below hB1 C0.out.lt); have B1 := hid (B0.out.trans (hB1.mono B0.out.size)); have T1 := hid (T0.out.below hB1)
  clear hB1
  rw [HDC.out]
  generalize Lib.decodeGo (tail s (p + 1)) = D at HDC HDW ⊢
  obtain ⟨d1, d2⟩ := D
  have hq : (p : Int) + 1 + (d2 : Int) = (Q : Int) := by have := HDW.out; simp only at this; omega
  have hqb : (Q : Int) ≤ 140737488355328 := by have := HQS.out; omega
  simp only
  clear HDC HDW
  go_wp2_with fail
  refine (ref06_wrongR _ _ _ _).mono ?_
  rintro e w2 ⟨rfl, hB2⟩
  obtain ⟨W3, hW3⟩ : ∃ W3, W3 = w2.alloc (.cells #[.int .i64 61, .int .i64 p, .int .i64 Q] 27) := ⟨_, rfl⟩
  have A3 := hid (show Blk W3 w.heap.size esc0R 64 by rw [hW3]; exact (A1.out.below hB2 A1.out.lt).alloc _)
  have C3 := hid (show Blk W3 (w.heap.size + 1) wrong0R 27 by rw [hW3]; exact (C1.out.below hB2 C1.out.lt).alloc _)
  have T3 := hid (show Tabs W3 by rw [hW3]; exact (T1.out.below hB2).alloc _)
  have hz2 := (B1.out.trans (hB2.mono B1.out.size)).size
  have B3 := hid (show Below w.heap.size w W3 by rw [hW3]; exact (B1.out.trans (hB2.mono B1.out.size)).alloc hz2 _)
  obtain ⟨DB, hDB⟩ : ∃ DB, DB = w2.heap.size := ⟨_, rfl⟩
  have D3 := hid (show Blk W3 DB [.int .i64 61, .int .i64 p, .int .i64 Q] 27 by rw [hW3, hDB]; exact Blk.new _ _ _)
  have hdb : w.heap.size + 1 < DB := by rw [hDB]; exact (C1.out.below hB2 C1.out.lt).lt
  have hd1 : ¬ w.heap.size = DB := by omega
  have hd2 : ¬ DB = w.heap.size := by omega
  have hd3 : ¬ w.heap.size + 1 = DB := by omega
  have hd4 : ¬ DB = w.heap.size + 1 := by omega
  clear hdb
  clear hB2 hz2 A1 C1 B1 T1 T0 A0 C0 B0 Z0
  go_wp2_with fail
  rw [← hW3, ← hDB]
  clear hW3 hDB
  refine (ref06_SignI C _).mono ?_
  rintro e w4 ⟨rfl, rfl⟩
  rw [HSG.out]
  go_wp2_with fail
  refine (HLE.out _).mono ?_
  rintro e w5 ⟨rfl, rfl⟩
  go_wp2_with fail
  refine (HPL.out _).mono ?_
  rintro e w6 ⟨rfl, hB⟩
  have A6 := hid (A3.out.below hB A3.out.lt); have C6 := hid (C3.out.below hB C3.out.lt); have D6 := hid (D3.out.below hB D3.out.lt); have B6 := hid (B3.out.trans (hB.mono B3.out.size))
  simp only [perlsT]
  clear hB
  have A7 := hid (A6.out.alloc (.cells #[.int .i64 0, .int .i32 0, .slice none 0 0, .int .i64 0] 64))
  have C7 := hid (C6.out.alloc (.cells #[.int .i64 0, .int .i32 0, .slice none 0 0, .int .i64 0] 64))
  have D7 := hid (D6.out.alloc (.cells #[.int .i64 0, .int .i32 0, .slice none 0 0, .int .i64 0] 64))
  have B7 := hid (B6.out.alloc B6.out.size (.cells #[.int .i64 0, .int .i32 0, .slice none 0 0, .int .i64 0] 64))
  have a0 := Blk.cell A7.out (j := 0) rfl; have a1 := Blk.cell A7.out (j := 1) rfl; have a2 := Blk.cell A7.out (j := 2) rfl; have a3 := Blk.cell A7.out (j := 3) rfl
  have b0 := A7.out.frozen 0; have b1 := A7.out.frozen 1; have b2 := A7.out.frozen 2; have b3 := A7.out.frozen 3
  have d0' := Blk.cell C7.out (j := 0) rfl; have d1' := Blk.cell C7.out (j := 1) rfl; have d2' := Blk.cell C7.out (j := 2) rfl
  have d0 := C7.out.frozen 0; have d1 := C7.out.frozen 1; have d2 := C7.out.frozen 2
  have e0 := Blk.cell D7.out (j := 0) rfl; have e1 := Blk.cell D7.out (j := 1) rfl; have e2 := Blk.cell D7.out (j := 2) rfl
  cases b
  all_goals (
    go_wp2_with fail
    go_region
    go_wp2_with fail
    refine bodyPost_ret (v := escT 0 0 (.slice none 0 0) 0 0 61 p Q) ?_ rfl ⟨rfl, ?_⟩
    · simp [results, Tryz.results64, escT, go_sem, a0, a1, a2, a3, d0', d1', d2']
    · exact (((((((B7.out.setCell (by simp) _).setCell (by simp) _).setCell (by simp) _).setCell (by simp) _).setCell (by simp) _).setCell (by simp) _).setCell (by simp) _).drew)

set_option maxRecDepth 100000 in
set_option maxHeartbeats 4000000 in
theorem refesc_pl_lit (s : ByteArray) (p : Nat) (b : Bool) (w : World) (hs : s.size ≤ 140737488355328) (h0 : p < s.size) (hc : ((s[p].toNat : Int) != 92) = false) (h1 : p + 1 < s.size) (hT : Tabs w) (C : Int) (Q : Nat) (hC : nextC s (p + 1) = C) (hQ : nextW s (p + 1) = Q) (_ : 0 ≤ C) (_ : C ≤ 1114111) (hsg : signI C = false) (hl : letterI C = -1) (hx : C ≠ 120 ∧ C ≠ 112 ∧ C ≠ 80) (hb : b = true) (k a : Int) (hpl : ∀ W : World, Calls Tryz.prog 97 #[.int .i32 C, .int .i64 Q] W fun e w' => e = .returned (perlsT k 0 (.slice none 0 0) a Q true) ∧ Below W.heap.size W w') :
    Calls Tryz.prog 64 #[.string s, .int .i64 p, .bool b] w (fun e w' => e = .returned (escT k 0 (.slice none 0 0) a Q 0 0 0) ∧ Below w.heap.size w w') := by
  obtain ⟨bA, bC, bB, bZ⟩ := refesc_blocks w
  have A0 := hid bA; have C0 := hid bC; have B0 := hid bB; have Z0 := hid bZ
  clear bA bC bB bZ
  subst hb
  have hlv : letterI C = -1 := hl
  have HLE := hid (ref06_letter C)
  simp only [hlv] at HLE
  clear hlv hl
  have nx : (C == 120) = false := by simp; omega
  have ny : (C == 112) = false := by simp; omega
  have nz : (C == 80) = false := by simp; omega
  clear hx
  have HPL := hid hpl; clear hpl
  have HSG := hid hsg; clear hsg
  have h0' : (p : Int) < (s.size : Int) := by omega
  have h1' : (p : Int) + 1 < (s.size : Int) := by omega
  have h12 : ((p : Int) + 1 == (s.size : Int)) = false := by simp; omega
  have T0 := hid ((hT.alloc (.cells #[.int .i64 0, .int .i32 0, .slice none 0 0, .int .i64 0] 64)).alloc (.cells #[.int .i64 0, .int .i64 0, .int .i64 0] 27))
  clear hT
  have HQS := hid (show Q ≤ s.size by rw [← hQ]; exact nextW_le s (p + 1) (by omega))
  have HDC := hid (show ((Lib.decodeGo (tail s (p + 1))).1 : Int) = C by rw [← hC, decodeGo_tail s (p + 1) h1]; unfold nextC; rw [if_pos h1])
  have HDW := hid (show p + 1 + (Lib.decodeGo (tail s (p + 1))).2 = Q by rw [← hQ, decodeGo_tail s (p + 1) h1]; unfold nextW; rw [if_pos h1])
  clear hC hQ
  go_enter Tryz.func64, Tryz.ntmps64
  go_wp2_with fail
  refine (Tryz.utf8_DecodeRuneInString (tail s (p + 1)) _ T0.out).mono ?_
  rintro e w1 ⟨rfl, hB1⟩
  have A1 := hid (A0.out.below hB1 A0.out.lt); have C1 := hid (C0.out.below hB1 C0.out.lt); have B1 := hid (B0.out.trans (hB1.mono B0.out.size)); have T1 := hid (T0.out.below hB1)
  clear hB1
  rw [HDC.out]
  generalize Lib.decodeGo (tail s (p + 1)) = D at HDC HDW ⊢
  obtain ⟨d1, d2⟩ := D
  have hq : (p : Int) + 1 + (d2 : Int) = (Q : Int) := by have := HDW.out; simp only at this; omega
  have hqb : (Q : Int) ≤ 140737488355328 := by have := HQS.out; omega
  simp only
  clear HDC HDW
  go_wp2_with fail
  refine (ref06_wrongR _ _ _ _).mono ?_
  rintro e w2 ⟨rfl, hB2⟩
  obtain ⟨W3, hW3⟩ : ∃ W3, W3 = w2.alloc (.cells #[.int .i64 61, .int .i64 p, .int .i64 Q] 27) := ⟨_, rfl⟩
  have A3 := hid (show Blk W3 w.heap.size esc0R 64 by rw [hW3]; exact (A1.out.below hB2 A1.out.lt).alloc _)
  have C3 := hid (show Blk W3 (w.heap.size + 1) wrong0R 27 by rw [hW3]; exact (C1.out.below hB2 C1.out.lt).alloc _)
  have T3 := hid (show Tabs W3 by rw [hW3]; exact (T1.out.below hB2).alloc _)
  have hz2 := (B1.out.trans (hB2.mono B1.out.size)).size
  have B3 := hid (show Below w.heap.size w W3 by rw [hW3]; exact (B1.out.trans (hB2.mono B1.out.size)).alloc hz2 _)
  obtain ⟨DB, hDB⟩ : ∃ DB, DB = w2.heap.size := ⟨_, rfl⟩
  have D3 := hid (show Blk W3 DB [.int .i64 61, .int .i64 p, .int .i64 Q] 27 by rw [hW3, hDB]; exact Blk.new _ _ _)
  have hdb : w.heap.size + 1 < DB := by rw [hDB]; exact (C1.out.below hB2 C1.out.lt).lt
  have hd1 : ¬ w.heap.size = DB := by omega
  have hd2 : ¬ DB = w.heap.size := by omega
  have hd3 : ¬ w.heap.size + 1 = DB := by omega
  have hd4 : ¬ DB = w.heap.size + 1 := by omega
  clear hdb
  clear hB2 hz2 A1 C1 B1 T1 T0 A0 C0 B0 Z0
  go_wp2_with fail
  rw [← hW3, ← hDB]
  clear hW3 hDB
  refine (ref06_SignI C _).mono ?_
  rintro e w4 ⟨rfl, rfl⟩
  rw [HSG.out]
  go_wp2_with fail
  refine (HLE.out _).mono ?_
  rintro e w5 ⟨rfl, rfl⟩
  go_wp2_with fail
  refine (HPL.out _).mono ?_
  rintro e w6 ⟨rfl, hB⟩
  have A6 := hid (A3.out.below hB A3.out.lt); have C6 := hid (C3.out.below hB C3.out.lt); have D6 := hid (D3.out.below hB D3.out.lt); have B6 := hid (B3.out.trans (hB.mono B3.out.size))
  simp only [perlsT]
  clear hB
  have A7 := hid (A6.out.alloc (.cells #[.int .i64 k, .int .i32 0, .slice none 0 0, .int .i64 a] 64))
  have C7 := hid (C6.out.alloc (.cells #[.int .i64 k, .int .i32 0, .slice none 0 0, .int .i64 a] 64))
  have D7 := hid (D6.out.alloc (.cells #[.int .i64 k, .int .i32 0, .slice none 0 0, .int .i64 a] 64))
  have B7 := hid (B6.out.alloc B6.out.size (.cells #[.int .i64 k, .int .i32 0, .slice none 0 0, .int .i64 a] 64))
  have a0 := Blk.cell A7.out (j := 0) rfl; have a1 := Blk.cell A7.out (j := 1) rfl; have a2 := Blk.cell A7.out (j := 2) rfl; have a3 := Blk.cell A7.out (j := 3) rfl
  have b0 := A7.out.frozen 0; have b1 := A7.out.frozen 1; have b2 := A7.out.frozen 2; have b3 := A7.out.frozen 3
  have d0' := Blk.cell C7.out (j := 0) rfl; have d1' := Blk.cell C7.out (j := 1) rfl; have d2' := Blk.cell C7.out (j := 2) rfl
  have d0 := C7.out.frozen 0; have d1 := C7.out.frozen 1; have d2 := C7.out.frozen 2
  go_wp2_with fail
  refine bodyPost_ret (v := escT k 0 (.slice none 0 0) a Q 0 0 0) ?_ rfl ⟨rfl, ?_⟩
  · simp [results, Tryz.results64, escT, go_sem, a0, a1, a2, a3, d0', d1', d2']
  · exact (((((((B7.out.setCell (by simp) _).setCell (by simp) _).setCell (by simp) _).setCell (by simp) _).setCell (by simp) _).setCell (by simp) _).setCell (by simp) _)

set_option maxRecDepth 100000 in
set_option maxHeartbeats 4000000 in
theorem refesc_pl_flat (s : ByteArray) (p : Nat) (b : Bool) (w : World) (hs : s.size ≤ 140737488355328) (h0 : p < s.size) (hc : ((s[p].toNat : Int) != 92) = false) (h1 : p + 1 < s.size) (hT : Tabs w) (C : Int) (Q : Nat) (hC : nextC s (p + 1) = C) (hQ : nextW s (p + 1) = Q) (_ : 0 ≤ C) (_ : C ≤ 1114111) (hsg : signI C = false) (hl : letterI C = -1) (hx : C ≠ 120 ∧ C ≠ 112 ∧ C ≠ 80) (hb : b = false) (hpl : ∀ W : World, Calls Tryz.prog 97 #[.int .i32 C, .int .i64 Q] W fun e w' => ∃ k a v q is, e = .returned (perlsT k 0 v a q is) ∧ Below W.heap.size W w' ∧ ∃ sa sn sc, v = .slice sa sn sc) :
    Calls Tryz.prog 64 #[.string s, .int .i64 p, .bool b] w (fun e w' => e = .returned (escT 0 0 (.slice none 0 0) 0 0 61 p Q) ∧ Below w.heap.size w w') := by
  obtain ⟨bA, bC, bB, bZ⟩ := refesc_blocks w
  have A0 := hid bA; have C0 := hid bC; have B0 := hid bB; have Z0 := hid bZ
  clear bA bC bB bZ
  subst hb
  have hlv : letterI C = -1 := hl
  have HLE := hid (ref06_letter C)
  simp only [hlv] at HLE
  clear hlv hl
  have nx : (C == 120) = false := by simp; omega
  have ny : (C == 112) = false := by simp; omega
  have nz : (C == 80) = false := by simp; omega
  clear hx
  have HPL := hid hpl; clear hpl
  have HSG := hid hsg; clear hsg
  have h0' : (p : Int) < (s.size : Int) := by omega
  have h1' : (p : Int) + 1 < (s.size : Int) := by omega
  have h12 : ((p : Int) + 1 == (s.size : Int)) = false := by simp; omega
  have T0 := hid ((hT.alloc (.cells #[.int .i64 0, .int .i32 0, .slice none 0 0, .int .i64 0] 64)).alloc (.cells #[.int .i64 0, .int .i64 0, .int .i64 0] 27))
  clear hT
  have HQS := hid (show Q ≤ s.size by rw [← hQ]; exact nextW_le s (p + 1) (by omega))
  have HDC := hid (show ((Lib.decodeGo (tail s (p + 1))).1 : Int) = C by rw [← hC, decodeGo_tail s (p + 1) h1]; unfold nextC; rw [if_pos h1])
  have HDW := hid (show p + 1 + (Lib.decodeGo (tail s (p + 1))).2 = Q by rw [← hQ, decodeGo_tail s (p + 1) h1]; unfold nextW; rw [if_pos h1])
  clear hC hQ
  go_enter Tryz.func64, Tryz.ntmps64
  go_wp2_with fail
  refine (Tryz.utf8_DecodeRuneInString (tail s (p + 1)) _ T0.out).mono ?_
  rintro e w1 ⟨rfl, hB1⟩
  have A1 := hid (A0.out.below hB1 A0.out.lt); have C1 := hid (C0.out.below hB1 C0.out.lt); have B1 := hid (B0.out.trans (hB1.mono B0.out.size)); have T1 := hid (T0.out.below hB1)
  clear hB1
  rw [HDC.out]
  generalize Lib.decodeGo (tail s (p + 1)) = D at HDC HDW ⊢
  obtain ⟨d1, d2⟩ := D
  have hq : (p : Int) + 1 + (d2 : Int) = (Q : Int) := by have := HDW.out; simp only at this; omega
  have hqb : (Q : Int) ≤ 140737488355328 := by have := HQS.out; omega
  simp only
  clear HDC HDW
  go_wp2_with fail
  refine (ref06_wrongR _ _ _ _).mono ?_
  rintro e w2 ⟨rfl, hB2⟩
  obtain ⟨W3, hW3⟩ : ∃ W3, W3 = w2.alloc (.cells #[.int .i64 61, .int .i64 p, .int .i64 Q] 27) := ⟨_, rfl⟩
  have A3 := hid (show Blk W3 w.heap.size esc0R 64 by rw [hW3]; exact (A1.out.below hB2 A1.out.lt).alloc _)
  have C3 := hid (show Blk W3 (w.heap.size + 1) wrong0R 27 by rw [hW3]; exact (C1.out.below hB2 C1.out.lt).alloc _)
  have T3 := hid (show Tabs W3 by rw [hW3]; exact (T1.out.below hB2).alloc _)
  have hz2 := (B1.out.trans (hB2.mono B1.out.size)).size
  have B3 := hid (show Below w.heap.size w W3 by rw [hW3]; exact (B1.out.trans (hB2.mono B1.out.size)).alloc hz2 _)
  obtain ⟨DB, hDB⟩ : ∃ DB, DB = w2.heap.size := ⟨_, rfl⟩
  have D3 := hid (show Blk W3 DB [.int .i64 61, .int .i64 p, .int .i64 Q] 27 by rw [hW3, hDB]; exact Blk.new _ _ _)
  have hdb : w.heap.size + 1 < DB := by rw [hDB]; exact (C1.out.below hB2 C1.out.lt).lt
  have hd1 : ¬ w.heap.size = DB := by omega
  have hd2 : ¬ DB = w.heap.size := by omega
  have hd3 : ¬ w.heap.size + 1 = DB := by omega
  have hd4 : ¬ DB = w.heap.size + 1 := by omega
  clear hdb
  clear hB2 hz2 A1 C1 B1 T1 T0 A0 C0 B0 Z0
  go_wp2_with fail
  rw [← hW3, ← hDB]
  clear hW3 hDB
  refine (ref06_SignI C _).mono ?_
  rintro e w4 ⟨rfl, rfl⟩
  rw [HSG.out]
  go_wp2_with fail
  refine (HLE.out _).mono ?_
  rintro e w5 ⟨rfl, rfl⟩
  go_wp2_with fail
  refine (HPL.out _).mono ?_
  rintro e w6 ⟨k, a, v, q, is, rfl, hB, sa, sn, sc, rfl⟩
  have A6 := hid (A3.out.below hB A3.out.lt); have C6 := hid (C3.out.below hB C3.out.lt); have D6 := hid (D3.out.below hB D3.out.lt); have B6 := hid (B3.out.trans (hB.mono B3.out.size))
  simp only [perlsT]
  clear hB
  have A7 := hid (A6.out.alloc (.cells #[.int .i64 k, .int .i32 0, .slice sa sn sc, .int .i64 a] 64))
  have C7 := hid (C6.out.alloc (.cells #[.int .i64 k, .int .i32 0, .slice sa sn sc, .int .i64 a] 64))
  have D7 := hid (D6.out.alloc (.cells #[.int .i64 k, .int .i32 0, .slice sa sn sc, .int .i64 a] 64))
  have B7 := hid (B6.out.alloc B6.out.size (.cells #[.int .i64 k, .int .i32 0, .slice sa sn sc, .int .i64 a] 64))
  have a0 := Blk.cell A7.out (j := 0) rfl; have a1 := Blk.cell A7.out (j := 1) rfl; have a2 := Blk.cell A7.out (j := 2) rfl; have a3 := Blk.cell A7.out (j := 3) rfl
  have b0 := A7.out.frozen 0; have b1 := A7.out.frozen 1; have b2 := A7.out.frozen 2; have b3 := A7.out.frozen 3
  have d0' := Blk.cell C7.out (j := 0) rfl; have d1' := Blk.cell C7.out (j := 1) rfl; have d2' := Blk.cell C7.out (j := 2) rfl
  have d0 := C7.out.frozen 0; have d1 := C7.out.frozen 1; have d2 := C7.out.frozen 2
  have e0 := Blk.cell D7.out (j := 0) rfl; have e1 := Blk.cell D7.out (j := 1) rfl; have e2 := Blk.cell D7.out (j := 2) rfl
  cases is
  all_goals (
    go_wp2_with fail
    go_region
    go_wp2_with fail
    refine bodyPost_ret (v := escT 0 0 (.slice none 0 0) 0 0 61 p Q) ?_ rfl ⟨rfl, ?_⟩
    · simp [results, Tryz.results64, escT, go_sem, a0, a1, a2, a3, d0', d1', d2']
    · exact (((((((B7.out.setCell (by simp) _).setCell (by simp) _).setCell (by simp) _).setCell (by simp) _).setCell (by simp) _).setCell (by simp) _).setCell (by simp) _).drew)

set_option maxRecDepth 100000 in
set_option maxHeartbeats 4000000 in
theorem refesc_pl_set (s : ByteArray) (p : Nat) (b : Bool) (w : World) (hs : s.size ≤ 140737488355328) (h0 : p < s.size) (hc : ((s[p].toNat : Int) != 92) = false) (h1 : p + 1 < s.size) (hT : Tabs w) (C : Int) (Q : Nat) (hC : nextC s (p + 1) = C) (hQ : nextW s (p + 1) = Q) (_ : 0 ≤ C) (_ : C ≤ 1114111) (hsg : signI C = false) (hl : letterI C = -1) (hx : C ≠ 120 ∧ C ≠ 112 ∧ C ≠ 80) (hb : b = true) (f : Int → Bool) (hpl : ∀ W : World, Calls Tryz.prog 97 #[.int .i32 C, .int .i64 Q] W fun e w' => ∃ v out, e = .returned (perlsT 2 0 v 0 Q true) ∧ Laid W w' out v ∧ IsSet out f ∧ out.length ≤ 1000 ∧ Below W.heap.size W w') :
    Calls Tryz.prog 64 #[.string s, .int .i64 p, .bool b] w (EscOut w (.set f Q)) := by
  obtain ⟨bA, bC, bB, bZ⟩ := refesc_blocks w
  have A0 := hid bA; have C0 := hid bC; have B0 := hid bB; have Z0 := hid bZ
  clear bA bC bB bZ
  subst hb
  have hlv : letterI C = -1 := hl
  have HLE := hid (ref06_letter C)
  simp only [hlv] at HLE
  clear hlv hl
  have nx : (C == 120) = false := by simp; omega
  have ny : (C == 112) = false := by simp; omega
  have nz : (C == 80) = false := by simp; omega
  clear hx
  have HPL := hid hpl; clear hpl
  have HSG := hid hsg; clear hsg
  have h0' : (p : Int) < (s.size : Int) := by omega
  have h1' : (p : Int) + 1 < (s.size : Int) := by omega
  have h12 : ((p : Int) + 1 == (s.size : Int)) = false := by simp; omega
  have T0 := hid ((hT.alloc (.cells #[.int .i64 0, .int .i32 0, .slice none 0 0, .int .i64 0] 64)).alloc (.cells #[.int .i64 0, .int .i64 0, .int .i64 0] 27))
  clear hT
  have HQS := hid (show Q ≤ s.size by rw [← hQ]; exact nextW_le s (p + 1) (by omega))
  have HDC := hid (show ((Lib.decodeGo (tail s (p + 1))).1 : Int) = C by rw [← hC, decodeGo_tail s (p + 1) h1]; unfold nextC; rw [if_pos h1])
  have HDW := hid (show p + 1 + (Lib.decodeGo (tail s (p + 1))).2 = Q by rw [← hQ, decodeGo_tail s (p + 1) h1]; unfold nextW; rw [if_pos h1])
  clear hC hQ
  go_enter Tryz.func64, Tryz.ntmps64
  go_wp2_with fail
  refine (Tryz.utf8_DecodeRuneInString (tail s (p + 1)) _ T0.out).mono ?_
  rintro e w1 ⟨rfl, hB1⟩
  have A1 := hid (A0.out.below hB1 A0.out.lt); have C1 := hid (C0.out.below hB1 C0.out.lt); have B1 := hid (B0.out.trans (hB1.mono B0.out.size)); have T1 := hid (T0.out.below hB1)
  clear hB1
  rw [HDC.out]
  generalize Lib.decodeGo (tail s (p + 1)) = D at HDC HDW ⊢
  obtain ⟨d1, d2⟩ := D
  have hq : (p : Int) + 1 + (d2 : Int) = (Q : Int) := by have := HDW.out; simp only at this; omega
  have hqb : (Q : Int) ≤ 140737488355328 := by have := HQS.out; omega
  simp only
  clear HDC HDW
  go_wp2_with fail
  refine (ref06_wrongR _ _ _ _).mono ?_
  rintro e w2 ⟨rfl, hB2⟩
  obtain ⟨W3, hW3⟩ : ∃ W3, W3 = w2.alloc (.cells #[.int .i64 61, .int .i64 p, .int .i64 Q] 27) := ⟨_, rfl⟩
  have A3 := hid (show Blk W3 w.heap.size esc0R 64 by rw [hW3]; exact (A1.out.below hB2 A1.out.lt).alloc _)
  have C3 := hid (show Blk W3 (w.heap.size + 1) wrong0R 27 by rw [hW3]; exact (C1.out.below hB2 C1.out.lt).alloc _)
  have T3 := hid (show Tabs W3 by rw [hW3]; exact (T1.out.below hB2).alloc _)
  have hz2 := (B1.out.trans (hB2.mono B1.out.size)).size
  have B3 := hid (show Below w.heap.size w W3 by rw [hW3]; exact (B1.out.trans (hB2.mono B1.out.size)).alloc hz2 _)
  obtain ⟨DB, hDB⟩ : ∃ DB, DB = w2.heap.size := ⟨_, rfl⟩
  have D3 := hid (show Blk W3 DB [.int .i64 61, .int .i64 p, .int .i64 Q] 27 by rw [hW3, hDB]; exact Blk.new _ _ _)
  have hdb : w.heap.size + 1 < DB := by rw [hDB]; exact (C1.out.below hB2 C1.out.lt).lt
  have hd1 : ¬ w.heap.size = DB := by omega
  have hd2 : ¬ DB = w.heap.size := by omega
  have hd3 : ¬ w.heap.size + 1 = DB := by omega
  have hd4 : ¬ DB = w.heap.size + 1 := by omega
  clear hdb
  clear hB2 hz2 A1 C1 B1 T1 T0 A0 C0 B0 Z0
  go_wp2_with fail
  rw [← hW3, ← hDB]
  clear hW3 hDB
  refine (ref06_SignI C _).mono ?_
  rintro e w4 ⟨rfl, rfl⟩
  rw [HSG.out]
  go_wp2_with fail
  refine (HLE.out _).mono ?_
  rintro e w5 ⟨rfl, rfl⟩
  go_wp2_with fail
  have hz3 := hid (show w.heap.size + 1 < w5.heap.size from C3.out.lt)
  have hz6 := hz3
  refine (HPL.out _).mono ?_
  rintro e w6 ⟨v, out, rfl, p1, p2, p3, hB⟩
  obtain ⟨sa, sc, rfl, hr, _⟩ := p1.ranges (by omega)
  have HLD := hid (World.ownsRow.alloc p1 (.cells #[.int .i64 2, .int .i32 0, .slice sa out.length sc, .int .i64 0] 64)); have HST := hid p2; have HLN := hid p3
  have A6 := hid (A3.out.below hB A3.out.lt); have C6 := hid (C3.out.below hB C3.out.lt); have D6 := hid (D3.out.below hB D3.out.lt); have B6 := hid (B3.out.trans (hB.mono B3.out.size))
  clear hr p1 p2 p3 hB
  simp only [perlsT]
  have A7 := hid (A6.out.alloc (.cells #[.int .i64 2, .int .i32 0, .slice sa out.length sc, .int .i64 0] 64))
  have C7 := hid (C6.out.alloc (.cells #[.int .i64 2, .int .i32 0, .slice sa out.length sc, .int .i64 0] 64))
  have D7 := hid (D6.out.alloc (.cells #[.int .i64 2, .int .i32 0, .slice sa out.length sc, .int .i64 0] 64))
  have B7 := hid (B6.out.alloc B6.out.size (.cells #[.int .i64 2, .int .i32 0, .slice sa out.length sc, .int .i64 0] 64))
  have a0 := Blk.cell A7.out (j := 0) rfl; have a1 := Blk.cell A7.out (j := 1) rfl; have a2 := Blk.cell A7.out (j := 2) rfl; have a3 := Blk.cell A7.out (j := 3) rfl
  have b0 := A7.out.frozen 0; have b1 := A7.out.frozen 1; have b2 := A7.out.frozen 2; have b3 := A7.out.frozen 3
  have d0' := Blk.cell C7.out (j := 0) rfl; have d1' := Blk.cell C7.out (j := 1) rfl; have d2' := Blk.cell C7.out (j := 2) rfl
  have d0 := C7.out.frozen 0; have d1 := C7.out.frozen 1; have d2 := C7.out.frozen 2
  go_wp2_with fail
  refine bodyPost_ret (v := escT 2 0 (.slice sa out.length sc) 0 Q 0 0 0) ?_ rfl ⟨_, out, rfl, ?_, HST.out, HLN.out, ?_⟩
  · simp [results, Tryz.results64, escT, go_sem, a0, a1, a2, a3, d0', d1', d2']
  · have l1 := hz6.out
    refine Joins.ownsRow_le ?_ (show w.heap.size ≤ w5.heap.size by omega)
    exact (ownsRow_setCellR (ownsRow_setCellR (ownsRow_setCellR (ownsRow_setCellR (ownsRow_setCellR (ownsRow_setCellR (ownsRow_setCellR HLD.out (by omega) _ _) (by omega) _ _) (by omega) _ _) (by omega) _ _) (by omega) _ _) (by omega) _ _) (by omega) _ _)
  · exact (((((((B7.out.setCell (by simp) _).setCell (by simp) _).setCell (by simp) _).setCell (by simp) _).setCell (by simp) _).setCell (by simp) _).setCell (by simp) _)

theorem letterI_neg {C : Int} (h : ¬ 0 ≤ letterI C) : letterI C = -1 := by
  unfold letterI at h ⊢
  repeat' split at h
  all_goals first | omega | simp [*]
theorem nextC_nn {s : ByteArray} {p : Nat} (h : p < s.size) : 0 ≤ nextC s p ∧ nextC s p ≤ 1114111 := by
  refine ⟨?_, (nextC_le s p).2⟩
  unfold nextC; rw [if_pos h]; omega
theorem perls_flat (c q : Int) (h0 : 0 ≤ c) (W : World) : Calls Tryz.prog 97 #[.int .i32 c, .int .i64 q] W fun e w' => ∃ k a v q is, e = .returned (perlsT k 0 v a q is) ∧ Below W.heap.size W w' ∧ ∃ sa sn sc, v = .slice sa sn sc := by
  by_cases h1 : placeI c ≠ 0
  · exact (perls_place c q W h1).mono fun e w' h => ⟨_, _, _, _, _, h.1, h.2, _, _, _, rfl⟩
  · have h1' : placeI c = 0 := Decidable.not_not.1 h1
    by_cases h2 : c = 81
    · exact (perls_quote c q W h1' h2).mono fun e w' h => ⟨_, _, _, _, _, h.1, h.2, _, _, _, rfl⟩
    · by_cases h3 : 127 < c
      · exact (perls_high c q W h1' h2 h3).mono fun e w' h => ⟨_, _, _, _, _, h.1, h.2, _, _, _, rfl⟩
      · cases hq : perlSpec c with
        | none => exact (perls_none c q W h1' h2 h0 (by omega) hq).mono fun e w' h => ⟨_, _, _, _, _, h.1, h.2, _, _, _, rfl⟩
        | some f =>
          refine (perls_set c q W h1' h2 h0 (by omega) f hq).mono fun e w' h => ?_
          obtain ⟨v, out, rfl, p1, _, p3, p4⟩ := h
          obtain ⟨sa, sc, rfl, _, _⟩ := p1.ranges (by omega)
          exact ⟨_, _, _, _, _, rfl, p4, _, _, _, rfl⟩

set_option maxHeartbeats 1000000 in
/-- The contract of martelloref06.Escape. -/
theorem ref06_Escape (s : ByteArray) (p : Nat) (b : Bool) (w : World) (hT : Tabs w) (hp : p ≤ s.size) (hs : s.size ≤ 140737488355328) :
    Calls Tryz.prog 64 #[.string s, .int .i64 p, .bool b] w (EscOut w (escP s p b)) := by
  unfold escP
  by_cases h0 : p < s.size
  · by_cases hcx : s[p].toNat = 92
    · have c0 : stands s p [92] = true := (stands_one s p 92).2 ⟨h0, UInt8.toNat_inj.1 hcx⟩
      have hc : ((s[p].toNat : Int) != 92) = false := by rw [hcx]; rfl
      rw [if_neg (fun h => h c0)]
      by_cases h1 : s.size ≤ p + 1
      · rw [if_pos h1]; exact refesc_trail s p b w hs h0 hc (by omega)
      rw [if_neg h1]
      have h1' : p + 1 < s.size := by omega
      obtain ⟨hC0, hC1⟩ := nextC_nn h1'
      obtain ⟨C, hC⟩ : ∃ C, nextC s (p + 1) = C := ⟨_, rfl⟩
      obtain ⟨Q, hQ⟩ : ∃ Q, nextW s (p + 1) = Q := ⟨_, rfl⟩
      rw [hC] at hC0 hC1
      rw [hC, hQ]
      by_cases hsg : signI C = true
      · rw [if_pos hsg]; exact refesc_sign s p b w hs h0 hc h1' hT C Q hC hQ hC0 hC1 hsg
      rw [if_neg hsg]
      have hsgf : signI C = false := Bool.eq_false_iff.2 hsg
      by_cases hl : 0 ≤ letterI C
      · rw [if_pos hl]; exact refesc_letter s p b w hs h0 hc h1' hT C Q hC hQ hC0 hC1 hsgf hl
      rw [if_neg hl]
      have hln := letterI_neg hl
      by_cases hx : C = 120
      · rw [if_pos hx]
        unfold escX
        cases hcd : codeP s Q with
        | none => exact refesc_x_no s p b w hs h0 hc h1' hT C Q hC hQ hC0 hC1 hsgf hln hx hcd
        | some x =>
          obtain ⟨n, r⟩ := x
          exact refesc_x_yes s p b w hs h0 hc h1' hT C Q hC hQ hC0 hC1 hsgf hln hx n r hcd
      rw [if_neg hx]
      by_cases hpp : C = 112 ∨ C = 80
      · rw [if_pos hpp]
        unfold escPr
        rcases hpp with h9 | h9
        · rw [show (C == 80) = false by simp; omega]
          cases hcd : propP s Q with
          | none => exact refesc_p112_no s p b w hs h0 hc h1' hT C Q hC hQ hC0 hC1 hsgf hln h9 hcd
          | some x =>
            obtain ⟨nm, r⟩ := x
            simp only
            cases hpr : propSpec nm.data.toList false with
            | none => exact refesc_p112_unknown s p b w hs h0 hc h1' hT C Q hC hQ hC0 hC1 hsgf hln h9 nm r hcd hpr
            | some f => exact refesc_p112_set s p b w hs h0 hc h1' hT C Q hC hQ hC0 hC1 hsgf hln h9 nm r hcd f hpr
        · rw [show (C == 80) = true by simp; omega]
          cases hcd : propP s Q with
          | none => exact refesc_p80_no s p b w hs h0 hc h1' hT C Q hC hQ hC0 hC1 hsgf hln h9 hcd
          | some x =>
            obtain ⟨nm, r⟩ := x
            simp only
            cases hpr : propSpec nm.data.toList true with
            | none => exact refesc_p80_unknown s p b w hs h0 hc h1' hT C Q hC hQ hC0 hC1 hsgf hln h9 nm r hcd hpr
            | some f => exact refesc_p80_set s p b w hs h0 hc h1' hT C Q hC hQ hC0 hC1 hsgf hln h9 nm r hcd f hpr
      rw [if_neg hpp]
      have hne3 : C ≠ 120 ∧ C ≠ 112 ∧ C ≠ 80 := by omega
      by_cases hb : b = false
      · rw [if_pos hb]
        exact refesc_pl_flat s p b w hs h0 hc h1' hT C Q hC hQ hC0 hC1 hsgf hln hne3 hb (fun W => perls_flat C Q hC0 W)
      rw [if_neg hb]
      have hbt : b = true := by cases b <;> simp_all
      unfold escPl
      by_cases hplx : placeI C ≠ 0
      · rw [if_pos hplx]
        exact refesc_pl_lit s p b w hs h0 hc h1' hT C Q hC hQ hC0 hC1 hsgf hln hne3 hbt 3 (placeI C) (fun W => perls_place C Q W hplx)
      rw [if_neg hplx]
      have hpl : placeI C = 0 := Decidable.not_not.1 hplx
      by_cases h81 : C = 81
      · rw [if_pos h81]
        exact refesc_pl_lit s p b w hs h0 hc h1' hT C Q hC hQ hC0 hC1 hsgf hln hne3 hbt 4 0 (fun W => perls_quote C Q W hpl h81)
      rw [if_neg h81]
      by_cases h127 : 127 < C
      · have hn : perlSpec (min C 127) = none := by rw [show min C 127 = 127 by omega]; rfl
        rw [hn]
        exact refesc_pl_none s p b w hs h0 hc h1' hT C Q hC hQ hC0 hC1 hsgf hln hne3 (fun W => perls_high C Q W hpl h81 h127)
      rw [show min C 127 = C by omega]
      cases hps : perlSpec C with
      | none => exact refesc_pl_none s p b w hs h0 hc h1' hT C Q hC hQ hC0 hC1 hsgf hln hne3 (fun W => perls_none C Q W hpl h81 hC0 (by omega) hps)
      | some f => exact refesc_pl_set s p b w hs h0 hc h1' hT C Q hC hQ hC0 hC1 hsgf hln hne3 hbt f (fun W => perls_set C Q W hpl h81 hC0 (by omega) f hps)
    · rw [if_pos (fun h => hcx (by obtain ⟨_, h2⟩ := (stands_one s p 92).1 h; rw [h2]; rfl))]
      exact refesc_nob s p b w hs h0 (by simp; omega)
  · rw [if_pos (stands_one_no s p 92 (by omega))]
    exact refesc_end s p b w hs (by omega)
end Go.Proofs.YtnafemcholkmlaaGreatDoor
