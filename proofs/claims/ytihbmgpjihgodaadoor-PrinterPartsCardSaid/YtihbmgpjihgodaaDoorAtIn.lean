/- Is a place one of some? slices.Contains at api.At. -/
import Derived.Test.YtihbmgpjihgodaaDoorBlk
import Derived.Test.YtihbmgpjihgodaaDoorProg
import Derived.WalkKit
import Derived.Lib.Hide
import Derived.WalkSpells
import Derived.WalkLawsBesides
import Derived.LoopTactic
namespace Go.Proofs.YtihbmgpjihgodaaDoor
open Go Go.RowKit Go.Proofs

/-- The first place of a number; -1: there is none. -/
def firstAt (v : Int) : List Int → Int
  | [] => -1
  | z :: l => if v = z then 0 else (if firstAt v l = -1 then -1 else firstAt v l + 1)
theorem firstAt_ge (v : Int) : ∀ l : List Int, -1 ≤ firstAt v l
  | [] => Int.le_refl _
  | z :: l => by
    have := firstAt_ge v l
    unfold firstAt
    split
    · omega
    · split <;> omega
theorem firstAt_mem (v : Int) : ∀ l : List Int, 0 ≤ firstAt v l ↔ v ∈ l
  | [] => by simp [firstAt]
  | z :: l => by
    have h1 := firstAt_mem v l
    have h2 := firstAt_ge v l
    unfold firstAt
    by_cases h : v = z
    · simp [h]
    · rw [if_neg h, List.mem_cons]
      by_cases h3 : firstAt v l = -1
      · rw [if_pos h3]; constructor
        · intro h; omega
        · rintro (h4 | h4)
          · exact absurd h4 h
          · have := h1.2 h4; omega
      · rw [if_neg h3]; constructor
        · intro _; exact .inr (h1.1 (by omega))
        · intro _; omega
theorem firstAt_here {v : Int} : ∀ {l : List Int} {k : Nat} (hk : k < l.length), (∀ j (hj : j < k), v ≠ l[j]'(by omega)) → v = l[k] → firstAt v l = k
  | [], _, hk, _, _ => absurd hk (Nat.not_lt_zero _)
  | z :: l, 0, _, _, h => by simp only [List.getElem_cons_zero] at h; unfold firstAt; rw [if_pos h]; rfl
  | z :: l, k + 1, hk, hb, h => by
    have h0 : v ≠ z := hb 0 (by omega)
    have := firstAt_here (v := v) (l := l) (k := k) (by simpa using hk) (fun j hj => by simpa using hb (j + 1) (by omega)) (by simpa using h)
    unfold firstAt; rw [if_neg h0, this, if_neg (by omega)]; omega
theorem firstAt_none {v : Int} {l : List Int} (h : ∀ j (hj : j < l.length), v ≠ l[j]) : firstAt v l = -1 := by
  have h1 := firstAt_mem v l
  have h2 := firstAt_ge v l
  have : ¬ v ∈ l := fun hm => by
    obtain ⟨j, hj, e⟩ := List.getElem_of_mem hm
    exact h j hj e.symm
  have := mt h1.1 this
  omega

set_option maxHeartbeats 1000000 in
theorem index_at (b c : Nat) (zs : List Int) (v : Int) (w : World) (hz : zs.length ≤ 1000000) (hc : ∀ j (hj : j < zs.length), w.cell? ⟨b, j, none⟩ = some (.int .i64 zs[j])) :
    Calls Tryd.prog 37 #[.slice (some ⟨b, 0, none⟩) zs.length c, .int .i64 v] w fun e w' => e = .returned (.int .i64 (firstAt v zs)) ∧ w' = w := by
  have HC := Lib.hid hc; clear hc
  go_enter Tryd.func37, Tryd.ntmps37
  go_wp2_with fail
  go_loop [8] (fun i => ∃ k : Nat, k ≤ zs.length ∧ i = .int .i64 k ∧ ∀ j (hj : j < k) (hz : j < zs.length), v ≠ zs[j]) (fun i => zs.length - (intOf i).toNat)
  case atStart => exact ⟨0, Nat.zero_le _, rfl, fun j hj => absurd hj (Nat.not_lt_zero _)⟩
  case round =>
    obtain ⟨k, hk, rfl, hn⟩ := hrel
    have HN := Lib.hid hn; clear hn
    by_cases hlt : k < zs.length
    · have hcell := HC.out k hlt
      by_cases he : v = zs[k]
      · have HF := Lib.hid (firstAt_here hlt (fun j hj => HN.out j hj (by omega)) he)
        rw [← he] at hcell
        clear he
        go_wp2_with fail
        go_ret
        exact ⟨by rw [HF.out]; rfl, rfl⟩
      · obtain ⟨x, hx⟩ : ∃ x, x = zs[k] := ⟨_, rfl⟩
        rw [← hx] at hcell he
        have HX := Lib.hid hx; clear hx
        have he2 : (v == x) = false := by simpa using he
        have HE := Lib.hid he; clear he
        go_wp2_with fail
        go_round
        case rel =>
          refine ⟨k + 1, hlt, by go_num, fun j hj hz => ?_⟩
          by_cases hjk : j = k
          · subst hjk; rw [← HX.out]; exact HE.out
          · exact HN.out j (by omega) hz
        case measure => simp [intOf]; omega
    · have HF := Lib.hid (firstAt_none (v := v) (l := zs) (fun j hj => HN.out j (by omega) hj))
      go_wp2_with fail
      go_ret
      exact ⟨by rw [HF.out]; rfl, rfl⟩

set_option maxHeartbeats 400000 in
theorem contains_at (b c : Nat) (zs : List Int) (v : Int) (w : World) (hz : zs.length ≤ 1000000) (hc : ∀ j (hj : j < zs.length), w.cell? ⟨b, j, none⟩ = some (.int .i64 zs[j])) :
    Calls Tryd.prog 26 #[.slice (some ⟨b, 0, none⟩) zs.length c, .int .i64 v] w fun e w' => e = .returned (.bool (decide (v ∈ zs))) ∧ w' = w := by
  have HC := Lib.hid hc; clear hc
  have HM := Lib.hid (firstAt_mem v zs)
  go_enter Tryd.func26, Tryd.ntmps26
  go_wp2_with fail
  refine (index_at b c zs v w hz HC.out).mono ?_
  rintro e w1 ⟨rfl, rfl⟩
  go_wp2_with fail
  go_ret
  exact ⟨congrArg (fun z => Ending.returned (Value.bool z)) (decide_eq_decide.2 HM.out), rfl⟩

theorem contains_six (b : Nat) (v : Int) (w : World) (t : TypeId) (h : Blk w b [.int .i64 1, .int .i64 2, .int .i64 4, .int .i64 8, .int .i64 16, .int .i64 32] t) :
    Calls Tryd.prog 26 #[.slice (some ⟨b, 0, none⟩) 6 6, .int .i64 v] w fun e w' => e = .returned (.bool (decide (v ∈ ([1, 2, 4, 8, 16, 32] : List Int)))) ∧ w' = w := by
  refine contains_at b 6 [1, 2, 4, 8, 16, 32] v w (by decide) fun j hj => ?_
  have hj' : j = 0 ∨ j = 1 ∨ j = 2 ∨ j = 3 ∨ j = 4 ∨ j = 5 := by simp at hj; omega
  rcases hj' with rfl | rfl | rfl | rfl | rfl | rfl <;> exact Blk.cell h rfl
end Go.Proofs.YtihbmgpjihgodaaDoor
