/- BracketsRuns: a class of two runes with a - between has all runes between them, or is wrong, if they fall: the law's walk. The library's two tables for UTF-8, off what a row lists. -/
import Derived.Test.YtnafemcholkmlaaGreatDoorQBrClass
import Derived.Test.YtnafemcholkmlaaGreatDoorQRunsPure
import Derived.Laws.Runes
import Derived.Test.YtnafemcholkmlaaGreatDoorQNext
import Derived.Lib.LaidU8
import Derived.KernelRfl
import GoSem.PinnedTables
namespace Go.Proofs.YtnafemcholkmlaaGreatDoor
open Go Go.RowKit Go.Proofs Go.Shelf

/-- What the law's plain tells. -/
def PlainOut (c : Int) (w : World) (e : Ending) (w' : World) : Prop := ∃ b : Bool, e = .returned (.bool b) ∧ (b = true ↔ plainC c) ∧ w' = w
theorem plain_mk (b : Bool) (c : Int) (w : World) (h : b = true ↔ plainC c) : PlainOut c w (.returned (.bool b)) w := ⟨b, rfl, h, rfl⟩
set_option maxHeartbeats 1000000 in
theorem law07_plain (c : Int) (w : World) : Calls Tryz.prog 14 #[.int .i32 c] w (PlainOut c w) := by
  by_cases h1 : 32 < c
  case neg =>
    have n1 : ¬ 32 < c := h1
    go_enter Tryz.func14, Tryz.ntmps14
    go_wp2_with fail
    go_ret
    exact plain_mk _ _ _ (by unfold plainC; simp; omega)
  by_cases h2 : c = 92
  case pos =>
    subst h2
    go_enter Tryz.func14, Tryz.ntmps14
    go_wp2_with fail
    go_ret
    exact plain_mk _ _ _ (by unfold plainC; simp)
  by_cases h3 : c = 93
  case pos =>
    subst h3
    go_enter Tryz.func14, Tryz.ntmps14
    go_wp2_with fail
    go_ret
    exact plain_mk _ _ _ (by unfold plainC; simp)
  by_cases h4 : c = 91
  case pos =>
    subst h4
    go_enter Tryz.func14, Tryz.ntmps14
    go_wp2_with fail
    go_ret
    exact plain_mk _ _ _ (by unfold plainC; simp)
  by_cases h5 : c = 65533
  case pos =>
    subst h5
    go_enter Tryz.func14, Tryz.ntmps14
    go_wp2_with fail
    go_ret
    exact plain_mk _ _ _ (by unfold plainC; simp)
  have m2 : (c != 92) = true := by simpa using h2
  have m3 : (c != 93) = true := by simpa using h3
  have m4 : (c != 91) = true := by simpa using h4
  have m5 : (c != 65533) = true := by simpa using h5
  by_cases h6 : c < 55296
  · have h7 : c ≤ 1114111 := by omega
    go_enter Tryz.func14, Tryz.ntmps14
    go_wp2_with fail
    go_ret
    exact plain_mk _ _ _ (by unfold plainC; simp; omega)
  · by_cases h7 : 57343 < c
    · by_cases h8 : c ≤ 1114111
      · go_enter Tryz.func14, Tryz.ntmps14
        go_wp2_with fail
        go_ret
        exact plain_mk _ _ _ (by unfold plainC; simp; omega)
      · go_enter Tryz.func14, Tryz.ntmps14
        go_wp2_with fail
        go_ret
        exact plain_mk _ _ _ (by unfold plainC; simp; omega)
    · go_enter Tryz.func14, Tryz.ntmps14
      go_wp2_with fail
      go_ret
      exact plain_mk _ _ _ (by unfold plainC; simp; omega)

set_option maxRecDepth 100000 in
set_option maxHeartbeats 4000000 in
theorem law_bracketsRuns (a b c : Int) (w : World) (hT : Tabs w) :
    Calls Tryz.prog 5 #[.int .i32 a, .int .i32 b, .int .i32 c] w fun e w' => e = .returned (.bool true) ∧ Below w.heap.size w w' := by
  have HT := Lib.hid hT; clear hT
  have HP := Lib.hid (fun c w => law07_plain c w)
  go_enter Tryz.func5, Tryz.ntmps5
  go_wp2_with fail
  refine (head07 w HT.out).mono ?_
  rintro e w1 ⟨rfl, hB⟩
  have B1 := Lib.hid hB; have T1 := Lib.hid (HT.out.below hB); clear hB
  go_wp2_with fail
  refine (HP.out a w1).mono ?_
  rintro e w2 ⟨pa, rfl, ha, rfl⟩
  have HA := Lib.hid ha; clear ha
  cases pa with
  | false =>
    go_wp2_with fail
    go_ret
    exact ⟨rfl, B1.out⟩
  | true =>
    go_wp2_with fail
    refine (HP.out b w2).mono ?_
    rintro e w3 ⟨pb, rfl, hb, rfl⟩
    have HB := Lib.hid hb; clear hb
    cases pb with
    | false =>
      go_wp2_with fail
      go_ret
      exact ⟨rfl, B1.out⟩
    | true =>
      by_cases h94 : a = 94
      · have n94 : (a == 94) = true := by simpa using h94
        go_wp2_with fail
        go_ret
        exact ⟨rfl, B1.out⟩
      · have n94 : (a == 94) = false := by simpa using h94
        have ha' := HA.out.1 (by first | trivial | rfl)
        have hb' := HB.out.1 (by first | trivial | rfl)
        obtain ⟨n, rfl⟩ : ∃ n : Nat, a = n := ⟨a.toNat, by unfold plainC at ha'; omega⟩
        obtain ⟨m, rfl⟩ : ∃ m : Nat, b = m := ⟨b.toNat, by unfold plainC at hb'; omega⟩
        obtain ⟨Ea, hEa⟩ : ∃ E, Utf8.encode (n : Int) = E := ⟨_, rfl⟩
        obtain ⟨Eb, hEb⟩ : ∃ E, Utf8.encode (m : Int) = E := ⟨_, rfl⟩
        have sa := enc_size n
        have sb := enc_size m
        rw [hEa] at sa
        rw [hEb] at sb
        have HQ := Lib.hid (fun (U : ByteArray) (hU : U.data.toList = [91] ++ (Ea.data.toList ++ ([45] ++ (Eb.data.toList ++ [93])))) => runs_clsQ n m ha' hb' (by intro e; exact h94 (by rw [e]; rfl)) U (by rw [hEa, hEb]; exact hU))
        clear ha' hb' h94
        go_wp2_with fail
        obtain ⟨U, hU⟩ : ∃ U, U = (⟨#[91]⟩ : ByteArray) ++ Ea ++ (⟨#[45]⟩ : ByteArray) ++ Eb ++ (⟨#[93]⟩ : ByteArray) := ⟨_, rfl⟩
        rw [← hU]
        have hUs : U.size ≤ 11 := by
          rw [hU]
          simp only [ByteArray.size_append]
          have x1 : (⟨#[91]⟩ : ByteArray).size = 1 := rfl
          have x2 : (⟨#[45]⟩ : ByteArray).size = 1 := rfl
          have x3 : (⟨#[93]⟩ : ByteArray).size = 1 := rfl
          omega
        obtain ⟨q1, q2⟩ := HQ.out U (by
          rw [hU]
          simp only [ByteArray.data_append, Array.toList_append, List.append_assoc])
        have HS := Lib.hid hUs
        clear hU hUs
        refine (brackets_plain U 0 0 w3 (Nat.zero_le _) (by have := HS.out; omega) T1.out false (by kernel_rfl) (by kernel_rfl)).mono ?_
        intro e w4 h
        by_cases hlt : m < n
        · obtain ⟨t, hq⟩ := q1 hlt
          obtain ⟨rfl, hB⟩ := cls_refused hq h
          have B4 := Lib.hid (B1.out.trans (hB.mono B1.out.size))
          have hgt : (m : Int) < (n : Int) := by omega
          clear q1 q2 hq h hB hEa hEb
          go_wp2_with fail
          go_ret
          exact ⟨rfl, B4.out.alloc B4.out.size _⟩
        · obtain ⟨q, hq⟩ := q2 hlt
          obtain ⟨hB, h⟩ := h
          rw [hq] at h
          obtain ⟨v, out, rfl, hL, hI⟩ := h
          obtain ⟨va, vc, rfl, hr, _⟩ := hL.ranges (by have := hI.len; omega)
          have B4 := Lib.hid (B1.out.trans (hB.mono B1.out.size))
          have R4 := Lib.hid (hr.below ((Below.refl _ w4).alloc (Nat.le_refl _) (.cells #[.int .i64 0, .int .i64 0, .int .i64 0] 27)))
          have hgt : ¬ (m : Int) < (n : Int) := by omega
          have hh : hasB out c = (decide ((n : Int) ≤ c) && decide (c ≤ (m : Int))) := by
            unfold hasB
            rw [hI.2]
            have hz : ∀ x : Bool, (x != false) = x := by decide
            show (decide (0 ≤ c) && decide (c ≤ 1114111) && (decide (0 ≤ c) && decide (c ≤ 1114111) && ((decide ((n : Int) ≤ c) && decide (c ≤ (m : Int))) != false))) = _
            rw [hz]
            have := HA.out.1 (by first | trivial | rfl)
            have := HB.out.1 (by first | trivial | rfl)
            unfold plainC at *
            by_cases i1 : (n : Int) ≤ c
            · by_cases i2 : c ≤ (m : Int)
              · rw [decide_eq_true i1, decide_eq_true i2, decide_eq_true (by omega : 0 ≤ c), decide_eq_true (by omega : c ≤ 1114111)]; rfl
              · rw [decide_eq_true i1, decide_eq_false i2]; simp
            · rw [decide_eq_false i1]; simp
          have HH := Lib.hid hh
          clear q1 q2 hq hB hEa hEb hL hI hr hh
          go_wp2_with fail
          refine (ref02_Has out va vc _ c _ R4.out).mono ?_
          rintro e w5 ⟨rfl, rfl⟩
          rw [HH.out]
          by_cases i1 : (n : Int) ≤ c
          · by_cases i2 : c ≤ (m : Int)
            · rw [decide_eq_true i1, decide_eq_true i2]
              go_wp2_with fail
              go_ret
              exact ⟨rfl, B4.out.alloc B4.out.size _⟩
            · have i3 : decide (c ≤ (m : Int)) = false := decide_eq_false i2
              rw [decide_eq_true i1, i3]
              go_wp2_with fail
              go_ret
              exact ⟨rfl, B4.out.alloc B4.out.size _⟩
          · rw [decide_eq_false i1]
            go_wp2_with fail
            go_ret
            exact ⟨rfl, B4.out.alloc B4.out.size _⟩
end Go.Proofs.YtnafemcholkmlaaGreatDoor

namespace Go.Proofs.YtnafemcholkmlaaGreatDoor
open Go Go.RowKit Go.Proofs

theorem first_pinned : Go.Pinned.utf8First = Lib.firstData := by kernel_rfl

theorem tabs_of_laid {w : World} (h : Lib.VarReads Tryz.prog w "unicode/utf8.first" Go.Pinned.utf8First) (h4 : Lib.VarReads Tryz.prog w "unicode/utf8.acceptRanges" Lib.acceptData) : Tabs w :=
  utf8Tabs_of_reads { Tryz.lays197 with } ⟨by kernel_rfl, by kernel_rfl, by kernel_rfl, by kernel_rfl, by kernel_rfl, by kernel_rfl, by kernel_rfl⟩ (first_pinned ▸ h) h4
end Go.Proofs.YtnafemcholkmlaaGreatDoor
