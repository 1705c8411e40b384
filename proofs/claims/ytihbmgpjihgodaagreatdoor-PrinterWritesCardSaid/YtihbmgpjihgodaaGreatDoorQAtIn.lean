/- Is a place one of some? slices.Contains at api.At. Has a tree just the fields of its Op, and may they be? trees.plain. -/
import Derived.Test.YtihbmgpjihgodaaGreatDoorQBlk
import Derived.Test.YtihbmgpjihgodaaGreatDoorProg
import Derived.WalkKit
import Derived.Lib.Hide
import Derived.WalkSpells
import Derived.WalkLawsBesides
import Derived.LoopTactic
import Derived.Test.YtihbmgpjihgodaaGreatDoorPlain
namespace Go.Proofs.YtihbmgpjihgodaaGreatDoor
open Go Go.RowKit Go.Proofs

/-- The first place of a number; -1: there is none. -/
def firstAt (v : Int) : List Int → Int
  | [] => -1
  | z :: l => if v = z then 0 else (if firstAt v l = -1 then -1 else firstAt v l + 1)
theorem firstAt_ge (v : Int) : ∀ l : List Int, -1 ≤ firstAt v l
  | [] => Int.le_refl _
  | z :: l => by
    have := firstAt_ge v l
    unfold firstAt
    split
    · omega
    · split <;> omega
theorem firstAt_mem (v : Int) : ∀ l : List Int, 0 ≤ firstAt v l ↔ v ∈ l
  | [] => by simp [firstAt]
  | z :: l => by
    have h1 := firstAt_mem v l
    have h2 := firstAt_ge v l
    unfold firstAt
    by_cases h : v = z
    · simp [h]
    · rw [if_neg h, List.mem_cons]
      by_cases h3 : firstAt v l = -1
      · rw [if_pos h3]; constructor
        · intro h; omega
        · rintro (h4 | h4)
          · exact absurd h4 h
          · have := h1.2 h4; omega
      · rw [if_neg h3]; constructor
        · intro _; exact .inr (h1.1 (by omega))
        · intro _; omega
theorem firstAt_here {v : Int} : ∀ {l : List Int} {k : Nat} (hk : k < l.length), (∀ j (hj : j < k), v ≠ l[j]'(by omega)) → v = l[k] → firstAt v l = k
  | [], _, hk, _, _ => absurd hk (Nat.not_lt_zero _)
  | z :: l, 0, _, _, h => by simp only [List.getElem_cons_zero] at h; unfold firstAt; rw [if_pos h]; rfl
  | z :: l, k + 1, hk, hb, h => by
    have h0 : v ≠ z := hb 0 (by omega)
    have := firstAt_here (v := v) (l := l) (k := k) (by simpa using hk) (fun j hj => by simpa using hb (j + 1) (by omega)) (by simpa using h)
    unfold firstAt; rw [if_neg h0, this, if_neg (by omega)]; omega
theorem firstAt_none {v : Int} {l : List Int} (h : ∀ j (hj : j < l.length), v ≠ l[j]) : firstAt v l = -1 := by
  have h1 := firstAt_mem v l
  have h2 := firstAt_ge v l
  have : ¬ v ∈ l := fun hm => by
    obtain ⟨j, hj, e⟩ := List.getElem_of_mem hm
    exact h j hj e.symm
  have := mt h1.1 this
  omega

set_option maxHeartbeats 1000000 in
theorem index_at (b c : Nat) (zs : List Int) (v : Int) (w : World) (hz : zs.length ≤ 1000000) (hc : ∀ j (hj : j < zs.length), w.cell? ⟨b, j, none⟩ = some (.int .i64 zs[j])) :
    Calls Tryz.prog 53 #[.slice (some ⟨b, 0, none⟩) zs.length c, .int .i64 v] w fun e w' => e = .returned (.int .i64 (firstAt v zs)) ∧ w' = w := by
  have HC := Lib.hid hc; clear hc
  go_enter Tryz.func53, Tryz.ntmps53
  go_wp2_with fail
  go_loop [8] (fun i => ∃ k : Nat, k ≤ zs.length ∧ i = .int .i64 k ∧ ∀ j (hj : j < k) (hz : j < zs.length), v ≠ zs[j]) (fun i => zs.length - (intOf i).toNat)
  case atStart => exact ⟨0, Nat.zero_le _, rfl, fun j hj => absurd hj (Nat.not_lt_zero _)⟩
  case round =>
    obtain ⟨k, hk, rfl, hn⟩ := hrel
    have HN := Lib.hid hn; clear hn
    by_cases hlt : k < zs.length
    · have hcell := HC.out k hlt
      by_cases he : v = zs[k]
      · have HF := Lib.hid (firstAt_here hlt (fun j hj => HN.out j hj (by omega)) he)
        rw [← he] at hcell
        clear he
        go_wp2_with fail
        go_ret
        exact ⟨by rw [HF.out]; rfl, rfl⟩
      · obtain ⟨x, hx⟩ : ∃ x, x = zs[k] := ⟨_, rfl⟩
        rw [← hx] at hcell he
        have HX := Lib.hid hx; clear hx
        have he2 : (v == x) = false := by simpa using he
        have HE := Lib.hid he; clear he
        go_wp2_with fail
        go_round
        case rel =>
          refine ⟨k + 1, hlt, by go_num, fun j hj hz => ?_⟩
          by_cases hjk : j = k
          · subst hjk; rw [← HX.out]; exact HE.out
          · exact HN.out j (by omega) hz
        case measure => simp [intOf]; omega
    · have HF := Lib.hid (firstAt_none (v := v) (l := zs) (fun j hj => HN.out j (by omega) hj))
      go_wp2_with fail
      go_ret
      exact ⟨by rw [HF.out]; rfl, rfl⟩

set_option maxHeartbeats 400000 in
theorem contains_at (b c : Nat) (zs : List Int) (v : Int) (w : World) (hz : zs.length ≤ 1000000) (hc : ∀ j (hj : j < zs.length), w.cell? ⟨b, j, none⟩ = some (.int .i64 zs[j])) :
    Calls Tryz.prog 37 #[.slice (some ⟨b, 0, none⟩) zs.length c, .int .i64 v] w fun e w' => e = .returned (.bool (decide (v ∈ zs))) ∧ w' = w := by
  have HC := Lib.hid hc; clear hc
  have HM := Lib.hid (firstAt_mem v zs)
  go_enter Tryz.func37, Tryz.ntmps37
  go_wp2_with fail
  refine (index_at b c zs v w hz HC.out).mono ?_
  rintro e w1 ⟨rfl, rfl⟩
  go_wp2_with fail
  go_ret
  exact ⟨congrArg (fun z => Ending.returned (Value.bool z)) (decide_eq_decide.2 HM.out), rfl⟩

theorem contains_six (b : Nat) (v : Int) (w : World) (t : TypeId) (h : Blk w b [.int .i64 1, .int .i64 2, .int .i64 4, .int .i64 8, .int .i64 16, .int .i64 32] t) :
    Calls Tryz.prog 37 #[.slice (some ⟨b, 0, none⟩) 6 6, .int .i64 v] w fun e w' => e = .returned (.bool (decide (v ∈ ([1, 2, 4, 8, 16, 32] : List Int)))) ∧ w' = w := by
  refine contains_at b 6 [1, 2, 4, 8, 16, 32] v w (by decide) fun j hj => ?_
  have hj' : j = 0 ∨ j = 1 ∨ j = 2 ∨ j = 3 ∨ j = 4 ∨ j = 5 := by simp at hj; omega
  rcases hj' with rfl | rfl | rfl | rfl | rfl | rfl <;> exact Blk.cell h rfl
end Go.Proofs.YtihbmgpjihgodaaGreatDoor

namespace Go.Proofs.YtihbmgpjihgodaaGreatDoor
open Go Go.RowKit Go.Proofs


set_option maxRecDepth 100000 in
set_option maxHeartbeats 1000000 in
theorem plain_at (ka : Option Addr) (kn kc : Nat) (rune : Int) (sa : Option Addr) (sn sc : Nat) (pl cap : Int) (name : ByteArray) (mn mx : Int) (lz : Bool) (w : World) (so : Bool) (hyes : bareOk 5 rune sn pl cap name mn mx lz = true)
    (hset : (5 : Int) = 4 → kn = 0 → 0 < sn → ∀ W, Below w.heap.size w W → Calls Tryz.prog 36 #[.slice sa sn sc] W fun e W' => e = .returned (.bool so) ∧ Below W.heap.size W W') :
    Calls Tryz.prog 15 #[.agg #[.int .i64 5, .slice ka kn kc, .int .i32 rune, .slice sa sn sc, .int .i64 pl, .int .i64 cap, .string name, .int .i64 mn, .int .i64 mx, .bool lz]] w fun e w' =>
      e = .returned (.bool (kindOk 5 kn rune sn so pl name mn mx)) ∧ Below w.heap.size w w' := by
  have HSET := Lib.hid hset; clear hset
  go_enter Tryz.func15, Tryz.ntmps15
  go_wp2_with fail
  refine (trees_bare 5 ka kn kc rune sa sn sc pl cap name mn mx lz _).mono ?_
  rintro e w1 ⟨rfl, hB⟩
  obtain ⟨sa', sn', sc', hb, hsn⟩ := bareC_form 5 rune sa sn sc pl cap name mn mx lz
  rw [hb]
  have HB := Lib.hid hB; clear hB hb
  unfold bareOk at hyes
  rw [← hsn] at hyes
  have HSN := Lib.hid hsn; clear hsn
  generalize (if (5 : Int) = 3 then rune else 0) = r' at hyes ⊢
  generalize (if (5 : Int) = 5 then pl else 0) = p' at hyes ⊢
  generalize (if (5 : Int) = 6 then cap else 0) = c' at hyes ⊢
  generalize (if (5 : Int) = 6 then name else (⟨#[]⟩ : ByteArray)) = n' at hyes ⊢
  generalize (if (5 : Int) = 10 then mn else 0) = mn' at hyes ⊢
  generalize (if (5 : Int) = 10 then mx else 0) = mx' at hyes ⊢
  generalize (if (5 : Int) = 7 ∨ (5 : Int) = 8 ∨ (5 : Int) = 9 ∨ (5 : Int) = 10 then lz else false) = l' at hyes ⊢
  have hsz : w.heap.size < w1.heap.size := by have := HB.out.size; simp only [World.size_alloc] at this; omega
  have ht := (Blk.below (Blk.new w [.int .i64 5, .slice ka kn kc, .int .i32 rune, .slice sa sn sc, .int .i64 pl, .int .i64 cap, .string name, .int .i64 mn, .int .i64 mx, .bool lz] 27) HB.out (by simp))
  have t0 := Blk.cell ht (j := 0) rfl; have t1 := Blk.cell ht (j := 1) rfl; have t2 := Blk.cell ht (j := 2) rfl; have t3 := Blk.cell ht (j := 3) rfl; have t4 := Blk.cell ht (j := 4) rfl
  have t5 := Blk.cell ht (j := 5) rfl; have t6 := Blk.cell ht (j := 6) rfl; have t7 := Blk.cell ht (j := 7) rfl; have t8 := Blk.cell ht (j := 8) rfl; have t9 := Blk.cell ht (j := 9) rfl
  clear ht
  have B0 := Lib.hid (show Below w.heap.size w w1 from ((Below.refl _ w).alloc (Nat.le_refl _) _).trans (HB.out.mono (by simp)))
  clear HB
  simp only [Bool.and_eq_true, decide_eq_true_eq] at hyes
  obtain ⟨⟨⟨⟨⟨⟨⟨k1, k2⟩, k3⟩, k4⟩, k5⟩, k6⟩, k7⟩, k8⟩ := hyes
  subst k1 k2 k3 k4 k5 k6 k7 k8
  have B1 := Lib.hid (show ∀ o, Below w.heap.size w (w1.alloc o) from fun o => B0.out.alloc (by omega) o)
  by_cases q1 : kn = 0
  · subst q1
    obtain ⟨D, hD⟩ : ∃ D, decide (p' ∈ ([1, 2, 4, 8, 16, 32] : List Int)) = D := ⟨_, rfl⟩
    have HK := Lib.hid (show kindOk 5 0 r' sn' so p' n' mn' mx' = D by rw [← hD]; unfold kindOk; simp)
    have HD := Lib.hid hD; clear hD
    clear HSET
    go_wp2_with fail
    have hn := Blk.new (w1.alloc (.cells #[.int .i64 5, .slice none 0 0, .int .i32 r', .slice sa' sn' sc', .int .i64 p', .int .i64 c', .string n', .int .i64 mn', .int .i64 mx', .bool l'] 27)) [.int .i64 1, .int .i64 2, .int .i64 4, .int .i64 8, .int .i64 16, .int .i64 32] 25
    rw [World.size_alloc] at hn
    refine (contains_six _ p' _ _ hn).mono ?_
    clear hn
    rintro e w2 ⟨rfl, rfl⟩
    rw [HD.out]
    go_wp2_with fail
    go_ret
    exact ⟨by rw [HK.out]; rfl, (B1.out _).alloc (by simp; omega) _⟩
  · have q1' : ((kn : Int) == 0) = false := by simpa using q1
    have HK := Lib.hid (show kindOk 5 kn r' sn' so p' n' mn' mx' = false by unfold kindOk; simp [q1])
    clear HSET
    go_wp2_with fail
    go_ret
    exact ⟨by rw [HK.out]; rfl, B1.out _⟩
end Go.Proofs.YtihbmgpjihgodaaGreatDoor
