/- A set made out of a list of ranges by insertion and joining: the plain law of the document's Norm. -/
import Derived.Test.YtnafemcholkmlaaGreatDoorQSetsPure
namespace Go.Proofs.YtnafemcholkmlaaGreatDoor

structure NormInv (rs L : List (Int × Int)) : Prop where
  sorted : L.Pairwise fun a b => a.1 ≤ b.1
  ok : ∀ x ∈ L, 0 ≤ x.1 ∧ x.1 ≤ x.2 ∧ x.2 ≤ 1114111
  mem : ∀ c, memR L c = (decide (0 ≤ c) && decide (c ≤ 1114111) && memR rs c)
  len : L.length ≤ rs.length

theorem NormInv.nil : NormInv [] [] := ⟨List.Pairwise.nil, fun _ h => by simp at h, fun c => by simp [memR], Nat.le_refl _⟩

theorem norm_skip {rs L : List (Int × Int)} (h : NormInv rs L) {l r : Int} (hx : min r 1114111 < max l 0) : NormInv (rs ++ [(l, r)]) L := by
  refine ⟨h.sorted, h.ok, fun c => ?_, by have := h.len; simp; omega⟩
  rw [h.mem, memR_append, memR_one]
  by_cases h0 : 0 ≤ c ∧ c ≤ 1114111
  · have : (decide (l ≤ c) && decide (c ≤ r)) = false := by
      rw [Bool.and_eq_false_iff, decide_eq_false_iff_not, decide_eq_false_iff_not]; omega
    simp only [this, Bool.or_false]
  · have : (decide (0 ≤ c) && decide (c ≤ 1114111)) = false := by
      rw [Bool.and_eq_false_iff, decide_eq_false_iff_not, decide_eq_false_iff_not]; omega
    simp only [this, Bool.false_and]

theorem norm_ins {rs L : List (Int × Int)} (h : NormInv rs L) {l r : Int} (hx : max l 0 ≤ min r 1114111) {a : Nat} (ha : a ≤ L.length)
    (h1 : ∀ j (hj : j < L.length), a ≤ j → max l 0 < L[j].1) (h2 : ∀ j (hj : j < L.length), j + 1 = a → L[j].1 ≤ max l 0) :
    NormInv (rs ++ [(l, r)]) (L.take a ++ (max l 0, min r 1114111) :: L.drop a) := by
  have hsplit : L.take a ++ L.drop a = L := List.take_append_drop a L
  have hp := h.sorted
  rw [← hsplit, List.pairwise_append] at hp
  have hlow : ∀ x ∈ L.take a, x.1 ≤ max l 0 := by
    intro x hx'
    rcases Nat.eq_zero_or_pos a with rfl | hpos
    · simp at hx'
    · obtain ⟨k, rfl⟩ : ∃ k, a = k + 1 := ⟨a - 1, by omega⟩
      have hk : k < L.length := by omega
      have hb := h2 k hk rfl
      obtain ⟨j, hj, rfl⟩ := List.mem_iff_getElem.1 hx'
      have hj' : j < k + 1 := by simp at hj; omega
      rw [List.getElem_take]
      rcases Nat.lt_or_eq_of_le (Nat.le_of_lt_succ hj') with hlt | rfl
      · have := (List.pairwise_iff_getElem.1 h.sorted) j k (by omega) hk hlt
        omega
      · exact hb
  have hhigh : ∀ x ∈ L.drop a, max l 0 ≤ x.1 := by
    intro x hx'
    obtain ⟨j, hj, rfl⟩ := List.mem_iff_getElem.1 hx'
    rw [List.getElem_drop]
    have := h1 (a + j) (by simp at hj; omega) (by omega)
    omega
  refine ⟨?_, ?_, fun c => ?_, ?_⟩
  · rw [List.pairwise_append]
    refine ⟨hp.1, List.pairwise_cons.2 ⟨fun y hy => hhigh y hy, hp.2.1⟩, fun x hx' y hy => ?_⟩
    rcases List.mem_cons.1 hy with rfl | hy
    · exact hlow x hx'
    · exact hp.2.2 x hx' y hy
  · intro x hx'
    rcases List.mem_append.1 hx' with h' | h'
    · exact h.ok x (List.mem_of_mem_take h')
    · rcases List.mem_cons.1 h' with rfl | h'
      · dsimp only; omega
      · exact h.ok x (List.mem_of_mem_drop h')
  · have hm := h.mem c
    rw [← hsplit, memR_append] at hm
    rw [memR_append, memR_cons, memR_append, memR_one, Bool.and_or_distrib_left, ← hm]
    dsimp only
    have : (decide (max l 0 ≤ c) && decide (c ≤ min r 1114111)) = (decide (0 ≤ c) && decide (c ≤ 1114111) && (decide (l ≤ c) && decide (c ≤ r))) := by
      rw [Bool.eq_iff_iff]; simp only [Bool.and_eq_true, decide_eq_true_eq]; omega
    rw [this]
    cases memR (L.take a) c <;> cases memR (L.drop a) c <;> simp
  · have := h.len
    have e1 : (L.take a ++ (max l 0, min r 1114111) :: L.drop a).length = L.length + 1 := by simp; omega
    rw [e1]; simp; omega

structure MergeInv (L : List (Int × Int)) (i : Nat) (O : List (Int × Int)) : Prop where
  right : setRight O = true
  mem : ∀ c, memR O c = memR (L.take i) c
  le : ∀ x ∈ O, ∀ y ∈ L.drop i, x.1 ≤ y.1
  len : O.length ≤ i

theorem MergeInv.nil (L : List (Int × Int)) : MergeInv L 0 [] := ⟨rfl, fun c => by simp, fun _ h => by simp at h, Nat.le_refl _⟩

theorem drop_mem {L : List (Int × Int)} {i : Nat} (h : i < L.length) : L[i] ∈ L.drop i := by
  rw [List.drop_eq_getElem_cons h]; exact List.mem_cons_self

theorem take_snoc' (L : List (Int × Int)) (i : Nat) (h : i < L.length) : L.take (i + 1) = L.take i ++ [L[i]] := by
  rw [List.take_succ_eq_append_getElem h]

theorem later_le {rs L : List (Int × Int)} (h : NormInv rs L) {i : Nat} (hi : i < L.length) : ∀ y ∈ L.drop (i + 1), L[i].1 ≤ y.1 := by
  intro y hy
  obtain ⟨j, hj, rfl⟩ := List.mem_iff_getElem.1 hy
  rw [List.getElem_drop]
  exact (List.pairwise_iff_getElem.1 h.sorted) i (i + 1 + j) hi (by simp at hj; omega) (by omega)

theorem drop_succ_mem {L : List (Int × Int)} {i : Nat} {y : Int × Int} (hy : y ∈ L.drop (i + 1)) : y ∈ L.drop i := by
  rw [← List.drop_drop] at hy
  exact List.mem_of_mem_drop hy

theorem merge_app {rs L : List (Int × Int)} (h : NormInv rs L) {i : Nat} {O : List (Int × Int)} (m : MergeInv L i O) (hi : i < L.length) (ha : lastH (-2) O + 2 ≤ L[i].1) :
    MergeInv L (i + 1) (O ++ [L[i]]) := by
  have hok := h.ok _ (List.getElem_mem hi)
  refine ⟨?_, fun c => ?_, ?_, by have := m.len; simp; omega⟩
  · unfold setRight
    rw [setFrom_snoc, show setFrom (-2) O = true from m.right]
    simp only [Bool.true_and, Bool.and_eq_true, decide_eq_true_eq]
    exact ⟨⟨ha, hok.2.1⟩, hok.2.2⟩
  · rw [memR_append, m.mem, take_snoc' _ _ hi, memR_append]
  · intro x hx y hy
    rcases List.mem_append.1 hx with hx | hx
    · exact m.le x hx y (drop_succ_mem hy)
    · simp only [List.mem_cons, List.not_mem_nil, or_false] at hx
      subst hx
      exact later_le h hi y hy

theorem merge_join {rs L : List (Int × Int)} (h : NormInv rs L) {i : Nat} {O : List (Int × Int)} {lo hi' : Int} (m : MergeInv L i (O ++ [(lo, hi')])) (hi : i < L.length) (ha : L[i].1 ≤ hi' + 1) :
    MergeInv L (i + 1) (O ++ [(lo, max hi' L[i].2)]) := by
  have hok := h.ok _ (List.getElem_mem hi)
  have hr := m.right
  unfold setRight at hr
  rw [setFrom_snoc] at hr
  simp only [Bool.and_eq_true, decide_eq_true_eq] at hr
  have hlo : lo ≤ L[i].1 := m.le (lo, hi') (by simp) _ (drop_mem hi)
  refine ⟨?_, fun c => ?_, ?_, by have := m.len; simp at this ⊢; omega⟩
  · unfold setRight
    rw [setFrom_snoc]
    simp only [Bool.and_eq_true, decide_eq_true_eq]
    have hr1 := hr.1; have hr2 := hr.2.1.1; have hr3 := hr.2.1.2; have hr4 := hr.2.2
    exact ⟨hr1, ⟨hr2, by omega⟩, by omega⟩
  · have hm := m.mem c
    rw [memR_append, memR_one] at hm
    rw [memR_append, memR_one, take_snoc' _ _ hi, memR_append, ← hm, memR_one]
    dsimp only
    rw [Bool.or_assoc]
    congr 1
    rw [Bool.eq_iff_iff]; simp only [Bool.and_eq_true, Bool.or_eq_true, decide_eq_true_eq]; omega
  · intro x hx y hy
    rcases List.mem_append.1 hx with hx | hx
    · exact m.le x (List.mem_append_left _ hx) y (drop_succ_mem hy)
    · simp only [List.mem_cons, List.not_mem_nil, or_false] at hx
      subst hx
      exact m.le (lo, hi') (by simp) y (drop_succ_mem hy)
theorem lastH_one (l0 : Int) (O : List (Int × Int)) (x : Int × Int) : lastH l0 (O ++ [x]) = x.2 := lastH_snoc x O l0
end Go.Proofs.YtnafemcholkmlaaGreatDoor
