/- classes.Property: the set of a name, or all but it. -/
import Derived.Test.YtnafemcholkmlaaGreatDoorQSetsNot
import Derived.Test.YtnafemcholkmlaaGreatDoorQTabs
import Derived.Test.YtnafemcholkmlaaGreatDoorShelf
namespace Go.Proofs.YtnafemcholkmlaaGreatDoor
open Go Go.RowKit Go.Proofs Go.Shelf

/-- What a name's set has, or that there is none. -/
def propOf (nm : List UInt8) (flip : Bool) : Option (Int → Bool) :=
  if nm == [65, 110, 121] then some (fun _ => !flip) else (tabOf nm).map fun l c => memR l c != flip
def propSpec (name : List UInt8) (nt : Bool) : Option (Int → Bool) := propOf (Lib.trimPrefix name [94]) (Lib.hasPrefix name [94] != nt)

/-- What a function that tells a set, or none, hands back. -/
def PropR (w : World) (sp : Option (Int → Bool)) (e : Ending) (w' : World) : Prop :=
  ∃ v out, e = .returned (.tuple #[v, .bool sp.isSome]) ∧ Laid w w' out v ∧ (match sp with | none => out = [] | some p => IsSet out p) ∧ out.length ≤ 1000 ∧ Below w.heap.size w w'

theorem TurnR.prop {w0 w : World} {p q : Int → Bool} {N : Nat} {e : Ending} {w' : World} (h : TurnR w p N e w') (hb : Below w0.heap.size w0 w) (hN : N ≤ 1000) (hq : ∀ c, 0 ≤ c → c ≤ 1114111 → p c = q c) : PropR w0 (some q) e w' := by
  obtain ⟨v, out, rfl, h1, h2, h3, h4⟩ := h
  exact ⟨v, out, rfl, Joins.ownsRow_le h1 hb.size, h2.congr hq, by omega, hb.trans (h4.mono hb.size)⟩

set_option maxHeartbeats 2000000 in
theorem prop_any (name : ByteArray) (turn nt : Bool) (w : World) (h1 : Lib.hasPrefix name.data.toList [94] = turn) (h2 : Lib.trimPrefix name.data.toList [94] = [65, 110, 121]) :
    Calls Tryz.prog 80 #[.string name, .bool nt] w (PropR w (some fun _ => !(turn != nt))) := by
  have HC := Lib.hid (show ∀ W : World, Calls Tryz.prog 48 #[.string name, .string ⟨#[94]⟩] W fun e w' => e = .returned (.tuple #[.string ⟨#[65, 110, 121]⟩, .bool turn]) ∧ w' = W from fun W =>
    (Tryz.strings_CutPrefix name ⟨#[94]⟩ W).mono fun e w' h => by obtain ⟨rfl, rfl⟩ := h; exact ⟨by rw [show (⟨#[94]⟩ : ByteArray).data.toList = [94] from rfl, h1, h2], rfl⟩)
  clear h1 h2
  go_enter Tryz.func80, Tryz.ntmps80
  go_wp2_with fail
  refine (HC.out w).mono ?_
  rintro e w1 ⟨rfl, rfl⟩
  go_wp2_with fail
  refine (dot_all w1).mono ?_
  rintro e w2 ⟨v, out, rfl, p1, p2, p3, p4, p5⟩
  obtain ⟨sa, sc, rfl, hr, _⟩ := p1.ranges (by omega)
  have HR := Lib.hid hr; have HB := Lib.hid p5; have HL := Lib.hid p1; have HS := Lib.hid (show IsSet out (fun _ => true) from ⟨p2, p3⟩); have HN := Lib.hid p4
  clear hr p1 p2 p3 p4 p5
  have HSAME := Lib.hid (turned_same sa out.length sc w2)
  have HNOT := Lib.hid (turned_not out sa out.length sc w2.heap.size w2 HR.out (Nat.le_refl _) (by have := HN.out; omega))
  have hno : ∀ c, 0 ≤ c → c ≤ 1114111 → (!memR out c) = false := fun c h0 h1 => by rw [HS.out.2]; simp [h0, h1]
  have HNO := Lib.hid hno; clear hno
  cases turn <;> cases nt
  · go_wp2_with fail
    refine (HSAME.out).mono ?_
    rintro e w3 ⟨rfl, hb3⟩
    have HB3 := Lib.hid hb3; clear hb3
    go_wp2_with fail
    go_ret2
    refine ⟨_, out, rfl, ?_, HS.out.congr (fun c _ _ => rfl), by have := HN.out; omega, HB.out.trans (HB3.out.mono HB.out.size)⟩
    exact HL.out.kept (grownBy_below HB3.out none) (by cases (Value.slice sa out.length sc).ownBlock <;> simp)
  · go_wp2_with fail
    refine (HNOT.out).mono ?_
    rintro e w3 hh
    obtain ⟨v3, out3, rfl, hh⟩ := hh
    have H3 := Lib.hid hh; clear hh
    go_wp2_with fail
    go_ret2
    exact TurnR.prop ⟨v3, out3, rfl, H3.out⟩ HB.out (by have := HN.out; omega) (fun c h0 h1 => HNO.out c h0 h1)
  · go_wp2_with fail
    refine (HNOT.out).mono ?_
    rintro e w3 hh
    obtain ⟨v3, out3, rfl, hh⟩ := hh
    have H3 := Lib.hid hh; clear hh
    go_wp2_with fail
    go_ret2
    exact TurnR.prop ⟨v3, out3, rfl, H3.out⟩ HB.out (by have := HN.out; omega) (fun c h0 h1 => HNO.out c h0 h1)
  · go_wp2_with fail
    refine (HSAME.out).mono ?_
    rintro e w3 ⟨rfl, hb3⟩
    have HB3 := Lib.hid hb3; clear hb3
    go_wp2_with fail
    go_ret2
    refine ⟨_, out, rfl, ?_, HS.out.congr (fun c _ _ => rfl), by have := HN.out; omega, HB.out.trans (HB3.out.mono HB.out.size)⟩
    exact HL.out.kept (grownBy_below HB3.out none) (by cases (Value.slice sa out.length sc).ownBlock <;> simp)

theorem toList_mk (l : List UInt8) : (⟨l.toArray⟩ : ByteArray).toList = l := by rw [ByteArray.toList_eq]

set_option maxHeartbeats 2000000 in
theorem prop_none (name : ByteArray) (turn nt : Bool) (nm : List UInt8) (w : World) (h1 : Lib.hasPrefix name.data.toList [94] = turn) (h2 : Lib.trimPrefix name.data.toList [94] = nm) (h3 : (nm == [65, 110, 121]) = false) (h4 : tabOf nm = none) :
    Calls Tryz.prog 80 #[.string name, .bool nt] w (PropR w none) := by
  have HC := Lib.hid (show ∀ W : World, Calls Tryz.prog 48 #[.string name, .string ⟨#[94]⟩] W fun e w' => e = .returned (.tuple #[.string ⟨nm.toArray⟩, .bool turn]) ∧ w' = W from fun W =>
    (Tryz.strings_CutPrefix name ⟨#[94]⟩ W).mono fun e w' h => by obtain ⟨rfl, rfl⟩ := h; exact ⟨by rw [show (⟨#[94]⟩ : ByteArray).data.toList = [94] from rfl, h1, h2], rfl⟩)
  have hq : ((⟨nm.toArray⟩ : ByteArray).toList == [65, 110, 121]) = false := by rw [toList_mk]; exact h3
  have HN := Lib.hid (go_named ⟨nm.toArray⟩ w)
  have H4 := Lib.hid h4
  obtain ⟨s2, hs2⟩ : ∃ s2 : ByteArray, s2 = ⟨nm.toArray⟩ := ⟨_, rfl⟩
  have HS2 := Lib.hid (show s2.toList = nm by rw [hs2]; exact toList_mk nm)
  rw [← hs2] at HC hq HN
  clear h1 h2 h3 h4 hs2
  go_enter Tryz.func80, Tryz.ntmps80
  go_wp2_with fail
  refine (HC.out w).mono ?_
  rintro e w1 ⟨rfl, rfl⟩
  go_wp2_with fail
  refine (HN.out).mono ?_
  rintro e w2 ⟨v, rfl, p1, p2⟩
  rw [HS2.out, H4.out] at p1 ⊢
  simp only [Option.isSome_none, Option.getD_none] at p1 ⊢
  obtain ⟨sa, sc, rfl, _, _⟩ := p1.ranges (by simp)
  have HB := Lib.hid p2
  clear p1 p2
  simp only [List.length_nil]
  cases turn <;> cases nt
  all_goals (
    go_wp2_with fail
    refine (turned_no _ _ _ _ _).mono ?_
    rintro e w3 ⟨rfl, hb3⟩
    have HB3 := Lib.hid hb3; clear hb3
    go_wp2_with fail
    go_ret2
    exact ⟨_, [], rfl, World.ownsRow_nil _ _ _ _, rfl, by simp, HB.out.trans (HB3.out.mono HB.out.size)⟩)

set_option maxHeartbeats 2000000 in
theorem prop_tab (name : ByteArray) (turn nt : Bool) (nm : List UInt8) (l : List (Int × Int)) (w : World) (h1 : Lib.hasPrefix name.data.toList [94] = turn) (h2 : Lib.trimPrefix name.data.toList [94] = nm) (h3 : (nm == [65, 110, 121]) = false) (h4 : tabOf nm = some l) :
    Calls Tryz.prog 80 #[.string name, .bool nt] w (PropR w (some fun c => memR l c != (turn != nt))) := by
  have HC := Lib.hid (show ∀ W : World, Calls Tryz.prog 48 #[.string name, .string ⟨#[94]⟩] W fun e w' => e = .returned (.tuple #[.string ⟨nm.toArray⟩, .bool turn]) ∧ w' = W from fun W =>
    (Tryz.strings_CutPrefix name ⟨#[94]⟩ W).mono fun e w' h => by obtain ⟨rfl, rfl⟩ := h; exact ⟨by rw [show (⟨#[94]⟩ : ByteArray).data.toList = [94] from rfl, h1, h2], rfl⟩)
  have hq : ((⟨nm.toArray⟩ : ByteArray).toList == [65, 110, 121]) = false := by rw [toList_mk]; exact h3
  have HN := Lib.hid (go_named ⟨nm.toArray⟩ w)
  have H4 := Lib.hid h4
  obtain ⟨s2, hs2⟩ : ∃ s2 : ByteArray, s2 = ⟨nm.toArray⟩ := ⟨_, rfl⟩
  have HS2 := Lib.hid (show s2.toList = nm by rw [hs2]; exact toList_mk nm)
  rw [← hs2] at HC hq HN
  clear h1 h2 h3 h4 hs2
  go_enter Tryz.func80, Tryz.ntmps80
  go_wp2_with fail
  refine (HC.out w).mono ?_
  rintro e w1 ⟨rfl, rfl⟩
  go_wp2_with fail
  refine (HN.out).mono ?_
  rintro e w2 ⟨v, rfl, p1, p2⟩
  have HRT := Lib.hid (tabOf_right H4.out)
  rw [HS2.out, H4.out] at p1 ⊢
  simp only [Option.isSome_some, Option.getD_some] at p1 ⊢
  obtain ⟨sa, sc, rfl, hr, _⟩ := p1.ranges (by have := HRT.out.2; omega)
  have HB := Lib.hid p2; have HL := Lib.hid p1
  have HSAME := Lib.hid (turned_same sa l.length sc w2)
  have HNOT := Lib.hid (turned_not l sa l.length sc w2.heap.size w2 hr (Nat.le_refl _) (by have := HRT.out.2; omega))
  clear p1 p2 hr
  cases turn <;> cases nt
  · go_wp2_with fail
    refine (HSAME.out).mono ?_
    rintro e w3 ⟨rfl, hb3⟩
    have HB3 := Lib.hid hb3; clear hb3
    go_wp2_with fail
    go_ret2
    refine ⟨_, l, rfl, ?_, (IsSet.of_right HRT.out.1).congr (fun c _ _ => by simp), by have := HRT.out.2; omega, HB.out.trans (HB3.out.mono HB.out.size)⟩
    exact HL.out.kept (grownBy_below HB3.out none) (by cases (Value.slice sa l.length sc).ownBlock <;> simp)
  · go_wp2_with fail
    refine (HNOT.out).mono ?_
    rintro e w3 hh
    obtain ⟨v3, out3, rfl, hh⟩ := hh
    have H3 := Lib.hid hh; clear hh
    go_wp2_with fail
    go_ret2
    exact TurnR.prop ⟨v3, out3, rfl, H3.out⟩ HB.out (by have := HRT.out.2; omega) (fun c _ _ => by simp)
  · go_wp2_with fail
    refine (HNOT.out).mono ?_
    rintro e w3 hh
    obtain ⟨v3, out3, rfl, hh⟩ := hh
    have H3 := Lib.hid hh; clear hh
    go_wp2_with fail
    go_ret2
    exact TurnR.prop ⟨v3, out3, rfl, H3.out⟩ HB.out (by have := HRT.out.2; omega) (fun c _ _ => by simp)
  · go_wp2_with fail
    refine (HSAME.out).mono ?_
    rintro e w3 ⟨rfl, hb3⟩
    have HB3 := Lib.hid hb3; clear hb3
    go_wp2_with fail
    go_ret2
    refine ⟨_, l, rfl, ?_, (IsSet.of_right HRT.out.1).congr (fun c _ _ => by simp), by have := HRT.out.2; omega, HB.out.trans (HB3.out.mono HB.out.size)⟩
    exact HL.out.kept (grownBy_below HB3.out none) (by cases (Value.slice sa l.length sc).ownBlock <;> simp)

/-- The contract of classes.Property. -/
theorem classes_Property (name : ByteArray) (nt : Bool) (w : World) : Calls Tryz.prog 80 #[.string name, .bool nt] w (PropR w (propSpec name.data.toList nt)) := by
  unfold propSpec propOf
  by_cases h : Lib.trimPrefix name.data.toList [94] = [65, 110, 121]
  · rw [if_pos (by rw [h]; rfl)]
    exact prop_any name _ nt w rfl h
  · have h' : (Lib.trimPrefix name.data.toList [94] == [65, 110, 121]) = false := beq_eq_false_iff_ne.2 h
    rw [if_neg (by rw [h']; decide)]
    cases ht : tabOf (Lib.trimPrefix name.data.toList [94]) with
    | none => exact prop_none name _ nt _ w rfl rfl h' ht
    | some l => exact prop_tab name _ nt _ l w rfl rfl h' ht
end Go.Proofs.YtnafemcholkmlaaGreatDoor
