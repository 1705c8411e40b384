/- All but a set: the plain law of the document's Not. -/
import Derived.Test.YtjmgboegipeijaaGreatDoorNormPure
namespace Go.Proofs.YtjmgboegipeijaaGreatDoor

structure NotInv (N : List (Int × Int)) (i : Nat) (O : List (Int × Int)) (f : Int) : Prop where
  from_ : f = if i = 0 then 0 else lastH (-2) (N.take i) + 1
  right : setRight O = true
  last : lastH (-2) O + 2 ≤ f
  top : 0 ≤ f ∧ f ≤ 1114112
  mem : ∀ c, memR O c = (decide (0 ≤ c) && decide (c < f) && !memR (N.take i) c)
  len : O.length ≤ i

theorem NotInv.nil (N : List (Int × Int)) : NotInv N 0 [] 0 := ⟨rfl, rfl, by simp [lastH], by omega, fun c => by
  have : (decide (0 ≤ c) && decide (c < 0)) = false := by rw [Bool.and_eq_false_iff, decide_eq_false_iff_not, decide_eq_false_iff_not]; omega
  simp [memR, this], Nat.le_refl _⟩

/-- A set's next range lies above what stands ahead of it. -/
theorem set_next {N : List (Int × Int)} (h : setRight N = true) {i : Nat} (hi : i < N.length) :
    setFrom (-2) (N.take i) = true ∧ lastH (-2) (N.take i) + 2 ≤ N[i].1 ∧ N[i].1 ≤ N[i].2 ∧ N[i].2 ≤ 1114111 := by
  unfold setRight at h
  rw [← List.take_append_drop (i + 1) N, take_snoc' _ _ hi] at h
  have key : ∀ (a b : List (Int × Int)) (l0 : Int), setFrom l0 (a ++ b) = true → setFrom l0 a = true := by
    intro a
    induction a with
    | nil => intro b l0 _; rfl
    | cons x a ih =>
      intro b l0 hh
      obtain ⟨p, q⟩ := x
      simp only [List.cons_append, setFrom, Bool.and_eq_true] at hh ⊢
      exact ⟨hh.1, ih b q hh.2⟩
  have h1 := key _ _ _ h
  rw [setFrom_snoc] at h1
  simp only [Bool.and_eq_true, decide_eq_true_eq] at h1
  exact ⟨h1.1, h1.2.1.1, h1.2.1.2, h1.2.2⟩

theorem not_from {N : List (Int × Int)} (hN : setRight N = true) {i : Nat} {O : List (Int × Int)} {f : Int} (h : NotInv N i O f) (hi : i < N.length) : f ≤ N[i].1 ∧ N[i].1 ≤ N[i].2 ∧ N[i].2 ≤ 1114111 ∧ 0 ≤ N[i].1 := by
  obtain ⟨h1, h2, h3, h4⟩ := set_next hN hi
  have h5 := lastH_ge h1
  have h6 := h.from_
  by_cases h0 : i = 0
  · subst h0; rw [if_pos rfl] at h6
    simp only [List.take_zero, lastH] at h2
    omega
  · rw [if_neg h0] at h6; omega

theorem lastH_take {N : List (Int × Int)} {i : Nat} (hi : i < N.length) : lastH (-2) (N.take (i + 1)) = N[i].2 := by
  rw [take_snoc' _ _ hi, lastH_snoc]

theorem not_mem_take {N : List (Int × Int)} (hN : setRight N = true) {i : Nat} (hi : i < N.length) {c : Int} (hc : N[i].1 - 1 ≤ c) : memR (N.take i) c = false := by
  obtain ⟨h1, h2, h3, h4⟩ := set_next hN hi
  have key : ∀ (a : List (Int × Int)) (l0 : Int), setFrom l0 a = true → ∀ c, lastH l0 a < c → memR a c = false := by
    intro a
    induction a with
    | nil => intro l0 _ c _; rfl
    | cons x a ih =>
      intro l0 hh c hc
      obtain ⟨p, q⟩ := x
      simp only [setFrom, Bool.and_eq_true, decide_eq_true_eq] at hh
      simp only [lastH] at hc
      have h9 := lastH_ge hh.2
      rw [memR_cons, ih q hh.2 c hc, Bool.or_false, Bool.and_eq_false_iff, decide_eq_false_iff_not, decide_eq_false_iff_not]
      dsimp only
      omega
  exact key _ _ h1 c (by omega)

theorem not_step {N : List (Int × Int)} (hN : setRight N = true) {i : Nat} {O : List (Int × Int)} {f : Int} (h : NotInv N i O f) (hi : i < N.length) (hf : f < N[i].1) : NotInv N (i + 1) (O ++ [(f, N[i].1 - 1)]) (N[i].2 + 1) := by
  obtain ⟨g1, g2, g3, g4⟩ := not_from hN h hi
  refine ⟨by rw [if_neg (by omega), lastH_take hi], ?_, by rw [lastH_snoc]; dsimp only; omega, by omega, fun c => ?_, by have := h.len; simp; omega⟩
  · unfold setRight
    rw [setFrom_snoc, show setFrom (-2) O = true from h.right]
    simp only [Bool.true_and, Bool.and_eq_true, decide_eq_true_eq]
    have := h.last
    have := h.top
    omega
  · rw [memR_append, h.mem, memR_one, take_snoc' _ _ hi, memR_append, memR_one]
    dsimp only
    have ht := h.top
    by_cases hc : c < f
    · have e1 : (decide (N[i].1 ≤ c) && decide (c ≤ N[i].2)) = false := by rw [Bool.and_eq_false_iff, decide_eq_false_iff_not, decide_eq_false_iff_not]; omega
      have e2 : (decide (f ≤ c) && decide (c ≤ N[i].1 - 1)) = false := by rw [Bool.and_eq_false_iff, decide_eq_false_iff_not, decide_eq_false_iff_not]; omega
      have e3 : decide (c < N[i].2 + 1) = true := decide_eq_true (by omega)
      rw [e1, e2, e3, decide_eq_true hc]; simp
    · rw [decide_eq_false hc]
      by_cases hc2 : c ≤ N[i].1 - 1
      · have e0 : memR (N.take i) c = false := by
          rcases Nat.eq_zero_or_pos i with rfl | hp
          · simp [memR]
          · have h6 := h.from_
            rw [if_neg (by omega)] at h6
            obtain ⟨k, rfl⟩ : ∃ k, i = k + 1 := ⟨i - 1, by omega⟩
            obtain ⟨h1, _⟩ := set_next hN hi
            cases hm : memR (N.take (k + 1)) c with
            | false => rfl
            | true =>
              have hk : k < N.length := by omega
              rw [lastH_take hk] at h6
              rw [take_snoc' _ _ hk, memR_append, memR_one, not_mem_take hN hk (by have := (set_next hN hk).2.2.1; omega), Bool.false_or] at hm
              simp only [Bool.and_eq_true, decide_eq_true_eq] at hm
              omega
        have e1 : (decide (N[i].1 ≤ c) && decide (c ≤ N[i].2)) = false := by rw [Bool.and_eq_false_iff, decide_eq_false_iff_not, decide_eq_false_iff_not]; omega
        have e2 : (decide (f ≤ c) && decide (c ≤ N[i].1 - 1)) = true := by rw [Bool.and_eq_true, decide_eq_true_eq, decide_eq_true_eq]; omega
        have e3 : (decide (0 ≤ c) && decide (c < N[i].2 + 1)) = true := by rw [Bool.and_eq_true, decide_eq_true_eq, decide_eq_true_eq]; omega
        rw [e0, e1, e2, e3]; simp
      · have e2 : (decide (f ≤ c) && decide (c ≤ N[i].1 - 1)) = false := by rw [Bool.and_eq_false_iff, decide_eq_false_iff_not, decide_eq_false_iff_not]; omega
        rw [e2]
        by_cases hc3 : c ≤ N[i].2
        · have e1 : (decide (N[i].1 ≤ c) && decide (c ≤ N[i].2)) = true := by rw [Bool.and_eq_true, decide_eq_true_eq, decide_eq_true_eq]; omega
          rw [e1]; simp
        · have e3 : decide (c < N[i].2 + 1) = false := decide_eq_false (by omega)
          rw [e3]; simp

theorem not_skip {N : List (Int × Int)} (hN : setRight N = true) {i : Nat} {O : List (Int × Int)} {f : Int} (h : NotInv N i O f) (hi : i < N.length) (hf : ¬ f < N[i].1) : NotInv N (i + 1) O (N[i].2 + 1) := by
  obtain ⟨g1, g2, g3, g4⟩ := not_from hN h hi
  refine ⟨by rw [if_neg (by omega), lastH_take hi], h.right, by have := h.last; omega, by omega, fun c => ?_, by have := h.len; omega⟩
  rw [h.mem, take_snoc' _ _ hi, memR_append, memR_one]
  by_cases hc : c < f
  · have e1 : (decide (N[i].1 ≤ c) && decide (c ≤ N[i].2)) = false := by rw [Bool.and_eq_false_iff, decide_eq_false_iff_not, decide_eq_false_iff_not]; omega
    have e3 : decide (c < N[i].2 + 1) = true := decide_eq_true (by omega)
    rw [e1, e3, decide_eq_true hc]; simp
  · rw [decide_eq_false hc]
    by_cases hc3 : c ≤ N[i].2
    · have e1 : (decide (N[i].1 ≤ c) && decide (c ≤ N[i].2)) = true := by rw [Bool.and_eq_true, decide_eq_true_eq, decide_eq_true_eq]; omega
      rw [e1]; simp
    · have e3 : decide (c < N[i].2 + 1) = false := decide_eq_false (by omega)
      rw [e3]; simp

theorem not_done {N : List (Int × Int)} (hN : setRight N = true) {O : List (Int × Int)} {f : Int} (h : NotInv N N.length O f) :
    (f ≤ 1114111 → setRight (O ++ [(f, 1114111)]) = true ∧ ∀ c, memR (O ++ [(f, 1114111)]) c = (decide (0 ≤ c) && decide (c ≤ 1114111) && !memR N c)) ∧
    (¬ f ≤ 1114111 → setRight O = true ∧ ∀ c, memR O c = (decide (0 ≤ c) && decide (c ≤ 1114111) && !memR N c)) := by
  have hm := h.mem
  rw [List.take_length] at hm
  have hab : ∀ c, f ≤ c → memR N c = false := by
    intro c hc
    have h6 := h.from_
    cases hN' : N.length with
    | zero => rw [List.eq_nil_of_length_eq_zero hN']; rfl
    | succ k =>
      rw [hN', if_neg (by omega)] at h6
      have hk : k < N.length := by omega
      rw [lastH_take hk] at h6
      have e1 : N = N.take k ++ [N[k]] := by rw [← take_snoc' _ _ hk, List.take_of_length_le (by omega)]
      have h7 := set_next hN hk
      rw [e1, memR_append, memR_one, not_mem_take hN hk (by omega), Bool.false_or, Bool.and_eq_false_iff, decide_eq_false_iff_not, decide_eq_false_iff_not]
      omega
  refine ⟨fun hf => ⟨?_, fun c => ?_⟩, fun hf => ⟨h.right, fun c => ?_⟩⟩
  · unfold setRight
    rw [setFrom_snoc, show setFrom (-2) O = true from h.right]
    simp only [Bool.true_and, Bool.and_eq_true, decide_eq_true_eq]
    have := h.last
    omega
  · rw [memR_append, hm, memR_one]
    dsimp only
    have ht := h.top
    by_cases hc : c < f
    · have e2 : (decide (f ≤ c) && decide (c ≤ 1114111)) = false := by rw [Bool.and_eq_false_iff, decide_eq_false_iff_not, decide_eq_false_iff_not]; omega
      have e3 : decide (c ≤ 1114111) = true := decide_eq_true (by omega)
      rw [e2, e3, decide_eq_true hc]; simp
    · rw [hab c (by omega), decide_eq_false hc]
      by_cases hc2 : c ≤ 1114111
      · rw [decide_eq_true hc2, decide_eq_true (show f ≤ c by omega), decide_eq_true (show 0 ≤ c by omega)]; rfl
      · rw [decide_eq_false hc2]; simp
  · rw [hm]
    have ht := h.top
    have hf' : f = 1114112 := by omega
    by_cases hc : c < f
    · rw [decide_eq_true hc, decide_eq_true (show c ≤ 1114111 by omega)]
    · rw [decide_eq_false hc, decide_eq_false (show ¬ c ≤ 1114111 by omega)]
end Go.Proofs.YtjmgboegipeijaaGreatDoor
