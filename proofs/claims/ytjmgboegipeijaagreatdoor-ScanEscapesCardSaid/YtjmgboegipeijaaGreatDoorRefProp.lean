/- The document's sets of a name: martelloref04.Property. (Printed by gen_refprop.py.) -/
import Derived.Test.YtjmgboegipeijaaGreatDoorNotWalk
import Derived.Test.YtjmgboegipeijaaGreatDoorProperty
namespace Go.Proofs.YtjmgboegipeijaaGreatDoor
open Go Go.RowKit Go.Proofs Go.Shelf

theorem SetOf.prop {w0 w : World} {p q : Int → Bool} {N : Nat} {v : Value} {out : List (Int × Int)} {w' : World} (h1 : Laid w w' out v) (h2 : setRight out = true) (h3 : ∀ c, memR out c = (decide (0 ≤ c) && decide (c ≤ 1114111) && p c)) (h4 : out.length ≤ N) (h5 : Below w.heap.size w w')
    (hb : Below w0.heap.size w0 w) (hN : N ≤ 1000) (hq : ∀ c, 0 ≤ c → c ≤ 1114111 → p c = q c) : PropR w0 (some q) (.returned (.tuple #[v, .bool true])) w' :=
  ⟨v, out, rfl, Joins.ownsRow_le h1 hb.size, (show IsSet out p from ⟨h2, h3⟩).congr hq, by omega, hb.trans (h5.mono hb.size)⟩
theorem Laid.mono {w0 w w' : World} {out : List (Int × Int)} {v : Value} (h : Laid w w' out v) (hb : w0.heap.size ≤ w.heap.size) : Laid w0 w' out v := Joins.ownsRow_le h hb
theorem ranges_nil (w : World) (B : Nat) : RangesV w B [] none 0 0 := ⟨rfl, ⟨Nat.le_refl _, by omega⟩, .inl rfl⟩

set_option maxHeartbeats 2000000 in
theorem rprop_1_any (name : ByteArray) (nt : Bool) (w : World) (h0 : 0 < name.size) (hb : ((name[0].toNat : Int) == 94) = false) (hn : name.data.toList = [65, 110, 121]) :
    Calls Tryz.prog 35 #[.string name, .bool nt] w (PropR w (some fun _ => !(false != nt))) := by
  obtain ⟨s2, hs2⟩ : ∃ s2 : ByteArray, name = s2 := ⟨_, rfl⟩
  have HS2 := Lib.hid (show s2.toList = [65, 110, 121] by rw [← hs2, ByteArray.toList_eq]; exact hn)
  have hq : (s2.toList == [65, 110, 121]) = true := by rw [HS2.out]; rfl
  have HN := Lib.hid (ref03_named s2)
  have H4 := Lib.hid (show tabOf [65, 110, 121] = none by decide)
  subst hs2
  clear hn
  have hlen : (0 : Int) < name.size := by omega
  cases nt
  all_goals (
    go_enter Tryz.func35, Tryz.ntmps35
    go_wp2_with fail
    refine (HN.out _).mono ?_
    rintro e w2 ⟨v, rfl, p1, p2⟩
    rw [HS2.out, H4.out] at p1 ⊢
    simp only [Option.isSome_none, Option.getD_none] at p1 ⊢
    have HB := Lib.hid p2
    clear p1 p2
    go_wp2_with fail
    refine (ref02_Not [] none 0 0 w2.heap.size w2 (ranges_nil _ _) (Nat.le_refl _) (by simp)).mono ?_
    rintro e w3 ⟨v3, o3, rfl, q1, q2, q3, q4, q5⟩
    obtain ⟨sa, sc, rfl, hr, _⟩ := q1.ranges (by simp at q4; omega)
    have HNOT := Lib.hid (ref02_Not o3 sa o3.length sc w3.heap.size w3 hr (Nat.le_refl _) (by simp at q4; omega))
    have Q1 := Lib.hid q1; have Q2 := Lib.hid q2; have Q3 := Lib.hid q3; have Q4 := Lib.hid q4; have Q5 := Lib.hid q5
    clear q1 q2 q3 q4 q5 hr
    go_wp2_with fail)
  · go_ret2
    exact SetOf.prop Q1.out Q2.out Q3.out Q4.out Q5.out HB.out (by simp) (fun c _ _ => by simp [memR])
  · refine (HNOT.out).mono ?_
    rintro e w4 ⟨v4, o4, rfl, q1, q2, q3, q4, q5⟩
    have P1 := Lib.hid q1; have P2 := Lib.hid q2; have P3 := Lib.hid q3; have P4 := Lib.hid q4; have P5 := Lib.hid q5
    clear q1 q2 q3 q4 q5
    go_wp2_with fail
    go_ret2
    exact SetOf.prop P1.out P2.out P3.out P4.out P5.out (HB.out.trans (Q5.out.mono HB.out.size)) (by have := Q4.out; simp at this; omega) (fun c h0 h1 => by rw [Q3.out]; simp [memR, h0, h1])

set_option maxHeartbeats 2000000 in
theorem rprop_1_none (name : ByteArray) (nm : List UInt8) (nt : Bool) (w : World) (h0 : 0 < name.size) (hb : ((name[0].toNat : Int) == 94) = false) (hn : name.data.toList = nm) (h3 : (nm == [65, 110, 121]) = false) (h4 : tabOf nm = none) :
    Calls Tryz.prog 35 #[.string name, .bool nt] w (PropR w none) := by
  obtain ⟨s2, hs2⟩ : ∃ s2 : ByteArray, name = s2 := ⟨_, rfl⟩
  have HS2 := Lib.hid (show s2.toList = nm by rw [← hs2, ByteArray.toList_eq]; exact hn)
  have hq : (s2.toList == [65, 110, 121]) = false := by rw [HS2.out]; exact h3
  have HN := Lib.hid (ref03_named s2)
  have H4 := Lib.hid h4
  subst hs2
  clear hn h3 h4
  have hlen : (0 : Int) < name.size := by omega
  cases nt
  all_goals (
    go_enter Tryz.func35, Tryz.ntmps35
    go_wp2_with fail
    refine (HN.out _).mono ?_
    rintro e w2 ⟨v, rfl, p1, p2⟩
    rw [HS2.out, H4.out] at p1 ⊢
    simp only [Option.isSome_none, Option.getD_none] at p1 ⊢
    have HB := Lib.hid p2; have HL := Lib.hid p1
    clear p1 p2
    go_wp2_with fail
    go_ret2
    exact ⟨_, [], rfl, HL.out, rfl, by simp, HB.out⟩)

set_option maxHeartbeats 2000000 in
theorem rprop_1_tab (name : ByteArray) (nm : List UInt8) (nt : Bool) (w : World) (h0 : 0 < name.size) (hb : ((name[0].toNat : Int) == 94) = false) (hn : name.data.toList = nm) (l : List (Int × Int)) (h3 : (nm == [65, 110, 121]) = false) (h4 : tabOf nm = some l) :
    Calls Tryz.prog 35 #[.string name, .bool nt] w (PropR w (some fun c => memR l c != (false != nt))) := by
  obtain ⟨s2, hs2⟩ : ∃ s2 : ByteArray, name = s2 := ⟨_, rfl⟩
  have HS2 := Lib.hid (show s2.toList = nm by rw [← hs2, ByteArray.toList_eq]; exact hn)
  have hq : (s2.toList == [65, 110, 121]) = false := by rw [HS2.out]; exact h3
  have HN := Lib.hid (ref03_named s2)
  have H4 := Lib.hid h4
  subst hs2
  clear hn h3 h4
  have hlen : (0 : Int) < name.size := by omega
  cases nt
  all_goals (
    go_enter Tryz.func35, Tryz.ntmps35
    go_wp2_with fail
    refine (HN.out _).mono ?_
    rintro e w2 ⟨v, rfl, p1, p2⟩
    rw [HS2.out, H4.out] at p1 ⊢
    have HRT := Lib.hid (tabOf_right H4.out)
    simp only [Option.isSome_some, Option.getD_some] at p1 ⊢
    obtain ⟨sa, sc, rfl, hr, _⟩ := p1.ranges (by have := HRT.out.2; omega)
    have HB := Lib.hid p2; have HL := Lib.hid p1
    have HNOT := Lib.hid (ref02_Not l sa l.length sc w2.heap.size w2 hr (Nat.le_refl _) (by have := HRT.out.2; omega))
    clear p1 p2 hr
    go_wp2_with fail)
  · go_ret2
    exact ⟨_, l, rfl, HL.out, (IsSet.of_right HRT.out.1).congr (fun c _ _ => by simp), by have := HRT.out.2; omega, HB.out⟩
  · refine (HNOT.out).mono ?_
    rintro e w3 ⟨v3, o3, rfl, q1, q2, q3, q4, q5⟩
    have Q1 := Lib.hid q1; have Q2 := Lib.hid q2; have Q3 := Lib.hid q3; have Q4 := Lib.hid q4; have Q5 := Lib.hid q5
    clear q1 q2 q3 q4 q5
    go_wp2_with fail
    go_ret2
    exact SetOf.prop Q1.out Q2.out Q3.out Q4.out Q5.out HB.out (by have := HRT.out.2; omega) (fun c _ _ => by simp)

set_option maxHeartbeats 2000000 in
theorem rprop_2_any (name : ByteArray) (nt : Bool) (w : World) (h0 : 0 < name.size) (hb : ((name[0].toNat : Int) == 94) = true) (hn : name.data.toList.drop 1 = [65, 110, 121]) :
    Calls Tryz.prog 35 #[.string name, .bool nt] w (PropR w (some fun _ => !(true != nt))) := by
  obtain ⟨s2, hs2⟩ : ∃ s2 : ByteArray, name.extract 1 name.size = s2 := ⟨_, rfl⟩
  have HS2 := Lib.hid (show s2.toList = [65, 110, 121] by rw [← hs2, ByteArray.toList_eq, Lib.extract_data, List.take_of_length_le (by simp)]; exact hn)
  have HX := Lib.hid hs2
  have hq : (s2.toList == [65, 110, 121]) = true := by rw [HS2.out]; rfl
  have HN := Lib.hid (ref03_named s2)
  have H4 := Lib.hid (show tabOf [65, 110, 121] = none by decide)
  clear hs2 hn
  have hlen : (0 : Int) < name.size := by omega
  have hlen1 : (1 : Int) ≤ name.size := by omega
  cases nt
  all_goals (
    go_enter Tryz.func35, Tryz.ntmps35
    go_wp2_with fail
    rw [HX.out]
    refine (HN.out _).mono ?_
    rintro e w2 ⟨v, rfl, p1, p2⟩
    rw [HS2.out, H4.out] at p1 ⊢
    simp only [Option.isSome_none, Option.getD_none] at p1 ⊢
    have HB := Lib.hid p2
    clear p1 p2
    go_wp2_with fail
    refine (ref02_Not [] none 0 0 w2.heap.size w2 (ranges_nil _ _) (Nat.le_refl _) (by simp)).mono ?_
    rintro e w3 ⟨v3, o3, rfl, q1, q2, q3, q4, q5⟩
    obtain ⟨sa, sc, rfl, hr, _⟩ := q1.ranges (by simp at q4; omega)
    have HNOT := Lib.hid (ref02_Not o3 sa o3.length sc w3.heap.size w3 hr (Nat.le_refl _) (by simp at q4; omega))
    have Q1 := Lib.hid q1; have Q2 := Lib.hid q2; have Q3 := Lib.hid q3; have Q4 := Lib.hid q4; have Q5 := Lib.hid q5
    clear q1 q2 q3 q4 q5 hr
    go_wp2_with fail)
  · refine (HNOT.out).mono ?_
    rintro e w4 ⟨v4, o4, rfl, q1, q2, q3, q4, q5⟩
    have P1 := Lib.hid q1; have P2 := Lib.hid q2; have P3 := Lib.hid q3; have P4 := Lib.hid q4; have P5 := Lib.hid q5
    clear q1 q2 q3 q4 q5
    go_wp2_with fail
    go_ret2
    exact SetOf.prop P1.out P2.out P3.out P4.out P5.out (HB.out.trans (Q5.out.mono HB.out.size)) (by have := Q4.out; simp at this; omega) (fun c h0 h1 => by rw [Q3.out]; simp [memR, h0, h1])
  · go_ret2
    exact SetOf.prop Q1.out Q2.out Q3.out Q4.out Q5.out HB.out (by simp) (fun c _ _ => by simp [memR])

set_option maxHeartbeats 2000000 in
theorem rprop_2_none (name : ByteArray) (nm : List UInt8) (nt : Bool) (w : World) (h0 : 0 < name.size) (hb : ((name[0].toNat : Int) == 94) = true) (hn : name.data.toList.drop 1 = nm) (h3 : (nm == [65, 110, 121]) = false) (h4 : tabOf nm = none) :
    Calls Tryz.prog 35 #[.string name, .bool nt] w (PropR w none) := by
  obtain ⟨s2, hs2⟩ : ∃ s2 : ByteArray, name.extract 1 name.size = s2 := ⟨_, rfl⟩
  have HS2 := Lib.hid (show s2.toList = nm by rw [← hs2, ByteArray.toList_eq, Lib.extract_data, List.take_of_length_le (by simp)]; exact hn)
  have HX := Lib.hid hs2
  have hq : (s2.toList == [65, 110, 121]) = false := by rw [HS2.out]; exact h3
  have HN := Lib.hid (ref03_named s2)
  have H4 := Lib.hid h4
  clear hs2 hn h3 h4
  have hlen : (0 : Int) < name.size := by omega
  have hlen1 : (1 : Int) ≤ name.size := by omega
  cases nt
  all_goals (
    go_enter Tryz.func35, Tryz.ntmps35
    go_wp2_with fail
    rw [HX.out]
    refine (HN.out _).mono ?_
    rintro e w2 ⟨v, rfl, p1, p2⟩
    rw [HS2.out, H4.out] at p1 ⊢
    simp only [Option.isSome_none, Option.getD_none] at p1 ⊢
    have HB := Lib.hid p2; have HL := Lib.hid p1
    clear p1 p2
    go_wp2_with fail
    go_ret2
    exact ⟨_, [], rfl, HL.out, rfl, by simp, HB.out⟩)

set_option maxHeartbeats 2000000 in
theorem rprop_2_tab (name : ByteArray) (nm : List UInt8) (nt : Bool) (w : World) (h0 : 0 < name.size) (hb : ((name[0].toNat : Int) == 94) = true) (hn : name.data.toList.drop 1 = nm) (l : List (Int × Int)) (h3 : (nm == [65, 110, 121]) = false) (h4 : tabOf nm = some l) :
    Calls Tryz.prog 35 #[.string name, .bool nt] w (PropR w (some fun c => memR l c != (true != nt))) := by
  obtain ⟨s2, hs2⟩ : ∃ s2 : ByteArray, name.extract 1 name.size = s2 := ⟨_, rfl⟩
  have HS2 := Lib.hid (show s2.toList = nm by rw [← hs2, ByteArray.toList_eq, Lib.extract_data, List.take_of_length_le (by simp)]; exact hn)
  have HX := Lib.hid hs2
  have hq : (s2.toList == [65, 110, 121]) = false := by rw [HS2.out]; exact h3
  have HN := Lib.hid (ref03_named s2)
  have H4 := Lib.hid h4
  clear hs2 hn h3 h4
  have hlen : (0 : Int) < name.size := by omega
  have hlen1 : (1 : Int) ≤ name.size := by omega
  cases nt
  all_goals (
    go_enter Tryz.func35, Tryz.ntmps35
    go_wp2_with fail
    rw [HX.out]
    refine (HN.out _).mono ?_
    rintro e w2 ⟨v, rfl, p1, p2⟩
    rw [HS2.out, H4.out] at p1 ⊢
    have HRT := Lib.hid (tabOf_right H4.out)
    simp only [Option.isSome_some, Option.getD_some] at p1 ⊢
    obtain ⟨sa, sc, rfl, hr, _⟩ := p1.ranges (by have := HRT.out.2; omega)
    have HB := Lib.hid p2; have HL := Lib.hid p1
    have HNOT := Lib.hid (ref02_Not l sa l.length sc w2.heap.size w2 hr (Nat.le_refl _) (by have := HRT.out.2; omega))
    clear p1 p2 hr
    go_wp2_with fail)
  · refine (HNOT.out).mono ?_
    rintro e w3 ⟨v3, o3, rfl, q1, q2, q3, q4, q5⟩
    have Q1 := Lib.hid q1; have Q2 := Lib.hid q2; have Q3 := Lib.hid q3; have Q4 := Lib.hid q4; have Q5 := Lib.hid q5
    clear q1 q2 q3 q4 q5
    go_wp2_with fail
    go_ret2
    exact SetOf.prop Q1.out Q2.out Q3.out Q4.out Q5.out HB.out (by have := HRT.out.2; omega) (fun c _ _ => by simp)
  · go_ret2
    exact ⟨_, l, rfl, HL.out, (IsSet.of_right HRT.out.1).congr (fun c _ _ => by simp), by have := HRT.out.2; omega, HB.out⟩

theorem rprop_nil (nt : Bool) (w : World) : Calls Tryz.prog 35 #[.string ⟨#[]⟩, .bool nt] w (PropR w none) := by
  have HN := Lib.hid (ref03_named ⟨#[]⟩)
  have H4 := Lib.hid (show tabOf (⟨#[]⟩ : ByteArray).toList = none by rw [ByteArray.toList_eq]; decide)
  cases nt
  all_goals (
    go_enter Tryz.func35, Tryz.ntmps35
    go_wp2_with fail
    refine (HN.out _).mono ?_
    rintro e w2 ⟨v, rfl, p1, p2⟩
    rw [H4.out] at p1 ⊢
    simp only [Option.isSome_none, Option.getD_none] at p1 ⊢
    have HB := Lib.hid p2; have HL := Lib.hid p1
    clear p1 p2
    go_wp2_with fail
    go_ret2
    exact ⟨_, [], rfl, HL.out, rfl, by simp, HB.out⟩)

/-- The contract of martelloref04.Property. -/
theorem ref04_Property (name : ByteArray) (nt : Bool) (w : World) : Calls Tryz.prog 35 #[.string name, .bool nt] w (PropR w (propSpec name.data.toList nt)) := by
  unfold propSpec propOf
  by_cases h0 : 0 < name.size
  · have hl : name.data.toList = name[0] :: name.data.toList.drop 1 := by
      rw [← List.drop_zero (l := name.data.toList), List.drop_eq_getElem_cons (by simpa using h0)]
      simp
      rfl
    by_cases hb : name[0] = 94
    · have h1 : Lib.hasPrefix name.data.toList [94] = true := by rw [hl, hb]; rfl
      have h2 : Lib.trimPrefix name.data.toList [94] = name.data.toList.drop 1 := by unfold Lib.trimPrefix; rw [h1]; rfl
      have hb' : ((name[0].toNat : Int) == 94) = true := by rw [hb]; rfl
      rw [h1, h2]
      by_cases h : name.data.toList.drop 1 = [65, 110, 121]
      · rw [if_pos (by rw [h]; rfl)]
        exact rprop_2_any name nt w h0 hb' h
      · have h' : (name.data.toList.drop 1 == [65, 110, 121]) = false := beq_eq_false_iff_ne.2 h
        rw [if_neg (by rw [h']; decide)]
        cases ht : tabOf (name.data.toList.drop 1) with
        | none => exact rprop_2_none name _ nt w h0 hb' rfl h' ht
        | some l => exact rprop_2_tab name _ nt w h0 hb' rfl l h' ht
    · have h1 : Lib.hasPrefix name.data.toList [94] = false := by
        rw [hl]
        simp [Lib.hasPrefix, List.isPrefixOf]
        exact fun e => hb e.symm
      have h2 : Lib.trimPrefix name.data.toList [94] = name.data.toList := by unfold Lib.trimPrefix; rw [h1]; rfl
      have hb' : ((name[0].toNat : Int) == 94) = false := by
        rw [beq_eq_false_iff_ne]
        intro e
        have h9 : name[0].toNat = 94 := by omega
        exact hb (UInt8.toNat_inj.1 h9)
      rw [h1, h2]
      by_cases h : name.data.toList = [65, 110, 121]
      · rw [if_pos (by rw [h]; rfl)]
        exact rprop_1_any name nt w h0 hb' h
      · have h' : (name.data.toList == [65, 110, 121]) = false := beq_eq_false_iff_ne.2 h
        rw [if_neg (by rw [h']; decide)]
        cases ht : tabOf name.data.toList with
        | none => exact rprop_1_none name _ nt w h0 hb' rfl h' ht
        | some l => exact rprop_1_tab name _ nt w h0 hb' rfl l h' ht
  · obtain rfl : name = ⟨#[]⟩ := by
      cases name with | mk d =>
      have h9 : d.size = 0 := Nat.eq_zero_of_not_pos h0
      rw [Array.eq_empty_of_size_eq_zero h9]
    exact rprop_nil nt w
end Go.Proofs.YtjmgboegipeijaaGreatDoor
