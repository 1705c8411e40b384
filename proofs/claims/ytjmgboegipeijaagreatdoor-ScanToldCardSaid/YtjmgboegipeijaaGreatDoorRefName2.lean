/- The document's answer to a group's beginning: martelloref06.has, martelloref06.Name. -/
import Derived.Test.YtjmgboegipeijaaGreatDoorRefName
import Derived.Test.YtjmgboegipeijaaGreatDoorRefFlags
namespace Go.Proofs.YtjmgboegipeijaaGreatDoor
open Go Go.RowKit Go.Proofs

theorem stands_eq {s t : ByteArray} {p : Nat} (h : stands s p t.data.toList = true) : s.extract p (p + t.size) = t := by
  unfold stands Lib.hasPrefix at h
  obtain ⟨r, hr⟩ := List.isPrefixOf_iff_prefix.1 h
  have e : (s.extract p (p + t.size)).data.toList = t.data.toList := by
    rw [Lib.extract_data, show p + t.size - p = t.data.toList.length by simp, ← hr, List.take_left]
  cases hx : s.extract p (p + t.size)
  cases t
  rw [hx] at e
  rw [ByteArray.mk.injEq]; exact Array.toList_inj.1 e
theorem stands_ne {s t : ByteArray} {p : Nat} (h : stands s p t.data.toList = false) : ¬ s.extract p (p + t.size) = t := by
  intro e
  have e2 : (s.extract p (p + t.size)).data.toList = t.data.toList := by rw [e]
  rw [Lib.extract_data] at e2
  have : stands s p t.data.toList = true := by
    unfold stands Lib.hasPrefix
    rw [List.isPrefixOf_iff_prefix, ← e2]
    exact List.take_prefix _ _
  rw [h] at this; cases this

set_option maxHeartbeats 400000 in
theorem ref06_has (s t : ByteArray) (p : Nat) (w : World) (hp : p ≤ s.size) (hs : s.size ≤ 140737488355328) (ht : t.size ≤ 1000) :
    Calls Tryz.prog 44 #[.string s, .int .i64 (p : Int), .string t] w fun e w' => e = .returned (.bool (stands s p t.data.toList)) ∧ w' = w := by
  cases hst : stands s p t.data.toList with
  | true =>
    have hle := stands_le hp hst
    have heq := stands_eq hst
    have HE := Lib.hid heq
    have h1 : (t.size : Int) ≤ (s.size : Int) - (p : Int) := by omega
    have h2 : (p : Int) + (t.size : Int) ≤ (s.size : Int) := by omega
    clear hst heq
    go_enter Tryz.func44, Tryz.ntmps44
    go_wp2_with fail
    go_ret
    exact ⟨by rw [HE.out]; simp, rfl⟩
  | false =>
    have hne := stands_ne hst
    clear hst
    by_cases h1 : p + t.size ≤ s.size
    · have h1' : (t.size : Int) ≤ (s.size : Int) - (p : Int) := by omega
      have h2 : (p : Int) + (t.size : Int) ≤ (s.size : Int) := by omega
      have hne2 : ¬ (s.extract p (p + t.size)).toList = t.toList := toList_ne hne
      clear hne
      go_enter Tryz.func44, Tryz.ntmps44
      go_wp2_with fail
      go_ret
      exact ⟨by simp [hne2], rfl⟩
    · have h1' : ¬ (t.size : Int) ≤ (s.size : Int) - (p : Int) := by omega
      clear hne
      go_enter Tryz.func44, Tryz.ntmps44
      go_wp2_with fail
      go_ret
      exact ⟨rfl, rfl⟩
end Go.Proofs.YtjmgboegipeijaaGreatDoor
