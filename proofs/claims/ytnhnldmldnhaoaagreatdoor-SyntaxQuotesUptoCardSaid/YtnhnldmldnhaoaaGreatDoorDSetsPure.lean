/- Sets of runes as lists of ranges: the plain law of the sweep over edges. -/
namespace Go.Proofs.YtnhnldmldnhaoaaGreatDoor

/-- Is a list of ranges a set? -/
def setFrom (last : Int) : List (Int × Int) → Bool
  | [] => true
  | (l, h) :: r => decide (last + 2 ≤ l) && decide (l ≤ h) && decide (h ≤ 1114111) && setFrom h r
def setRight (l : List (Int × Int)) : Bool := setFrom (-2) l
/-- Is a rune in a list? -/
def memR (rs : List (Int × Int)) (c : Int) : Bool := rs.any fun r => decide (r.1 ≤ c) && decide (c ≤ r.2)

def lastH (l0 : Int) : List (Int × Int) → Int
  | [] => l0
  | (_, h) :: r => lastH h r

theorem setFrom_snoc (x : Int × Int) : ∀ (a : List (Int × Int)) (l0 : Int), setFrom l0 (a ++ [x]) = (setFrom l0 a && (decide (lastH l0 a + 2 ≤ x.1) && decide (x.1 ≤ x.2) && decide (x.2 ≤ 1114111)))
  | [], l0 => by
    obtain ⟨p, q⟩ := x
    simp only [List.nil_append, setFrom, lastH, Bool.and_true, Bool.true_and]
    rfl
  | (l, h) :: a, l0 => by
    have ih := setFrom_snoc x a h
    obtain ⟨p, q⟩ := x
    simp only [List.cons_append, setFrom, lastH] at ih ⊢
    rw [ih]
    simp only [Bool.and_assoc]
    rfl
theorem lastH_snoc (x : Int × Int) : ∀ (a : List (Int × Int)) (l0 : Int), lastH l0 (a ++ [x]) = x.2
  | [], l0 => rfl
  | (_, h) :: a, l0 => by simp only [List.cons_append, lastH]; exact lastH_snoc x a h
theorem memR_append (a b : List (Int × Int)) (c : Int) : memR (a ++ b) c = (memR a c || memR b c) := by simp [memR]
theorem memR_one (x : Int × Int) (c : Int) : memR [x] c = (decide (x.1 ≤ c) && decide (c ≤ x.2)) := by simp [memR]
theorem memR_cons (x : Int × Int) (r : List (Int × Int)) (c : Int) : memR (x :: r) c = ((decide (x.1 ≤ c) && decide (c ≤ x.2)) || memR r c) := by simp [memR]

/-- What a set has lies above what stands ahead of it, and is a rune. -/
theorem memR_bound : ∀ {a : List (Int × Int)} {l0 c : Int}, setFrom l0 a = true → memR a c = true → l0 + 2 ≤ c ∧ c ≤ 1114111
  | [], _, _, _, h => by simp [memR] at h
  | (l, h) :: a, l0, c, hs, hm => by
    simp only [setFrom, Bool.and_eq_true, decide_eq_true_eq] at hs
    rw [memR_cons, Bool.or_eq_true, Bool.and_eq_true, decide_eq_true_eq, decide_eq_true_eq] at hm
    rcases hm with hm | hm
    · have h1 := hm.1; have h2 := hm.2; dsimp only at h1 h2; omega
    · have := memR_bound hs.2 hm; omega

/-- Two sets that have the same are one. -/
theorem set_unique : ∀ {a b : List (Int × Int)} {l0 : Int}, setFrom l0 a = true → setFrom l0 b = true → (∀ c, memR a c = memR b c) → a = b
  | [], [], _, _, _, _ => rfl
  | [], (l, h) :: b, l0, _, hb, hm => by
    simp only [setFrom, Bool.and_eq_true, decide_eq_true_eq] at hb
    have h1 := hm l
    rw [memR_cons, decide_eq_true (show l ≤ l by omega), decide_eq_true (show l ≤ h by omega)] at h1
    simp [memR] at h1
  | (l, h) :: a, [], l0, ha, _, hm => by
    simp only [setFrom, Bool.and_eq_true, decide_eq_true_eq] at ha
    have h1 := hm l
    rw [memR_cons, decide_eq_true (show l ≤ l by omega), decide_eq_true (show l ≤ h by omega)] at h1
    simp [memR] at h1
  | (l, h) :: a, (l', h') :: b, l0, ha, hb, hm => by
    have ha0 := ha; have hb0 := hb
    simp only [setFrom, Bool.and_eq_true, decide_eq_true_eq] at ha hb
    have in1 : ∀ c, memR ((l, h) :: a) c = true ↔ (l ≤ c ∧ c ≤ h) ∨ memR a c = true := fun c => by rw [memR_cons]; simp
    have in2 : ∀ c, memR ((l', h') :: b) c = true ↔ (l' ≤ c ∧ c ≤ h') ∨ memR b c = true := fun c => by rw [memR_cons]; simp
    have q1 : l' ≤ l := by
      have := (in2 l).1 (by rw [← hm]; exact (in1 l).2 (.inl ⟨by omega, by omega⟩))
      rcases this with h1 | h1
      · exact h1.1
      · have := memR_bound hb.2 h1; omega
    have q2 : l ≤ l' := by
      have := (in1 l').1 (by rw [hm]; exact (in2 l').2 (.inl ⟨by omega, by omega⟩))
      rcases this with h1 | h1
      · exact h1.1
      · have := memR_bound ha.2 h1; omega
    have e1 : l = l' := by omega
    have q3 : h' ≤ h := by
      refine Int.not_lt.1 fun hlt => ?_
      have := (in1 (h + 1)).1 (by rw [hm]; exact (in2 (h + 1)).2 (.inl ⟨by omega, by omega⟩))
      rcases this with h1 | h1
      · omega
      · have := memR_bound ha.2 h1; omega
    have q4 : h ≤ h' := by
      refine Int.not_lt.1 fun hlt => ?_
      have := (in2 (h' + 1)).1 (by rw [← hm]; exact (in1 (h' + 1)).2 (.inl ⟨by omega, by omega⟩))
      rcases this with h1 | h1
      · omega
      · have := memR_bound hb.2 h1; omega
    have e2 : h = h' := by omega
    subst e1 e2
    have := set_unique ha.2 hb.2 fun c => by
      have h1 := hm c
      rw [memR_cons, memR_cons] at h1
      by_cases hc : l ≤ c ∧ c ≤ h
      · have n1 : memR a c = false := by
          cases hx : memR a c with
          | false => rfl
          | true => have := memR_bound ha.2 hx; omega
        have n2 : memR b c = false := by
          cases hx : memR b c with
          | false => rfl
          | true => have := memR_bound hb.2 hx; omega
        rw [n1, n2]
      · have : (decide (l ≤ c) && decide (c ≤ h)) = false := by
          rw [Bool.and_eq_false_iff, decide_eq_false_iff_not, decide_eq_false_iff_not]; omega
        simpa [this] using h1
    rw [this]

/-! ### The edges -/
def edgesL : List (Int × Int) → List (Int × Int)
  | [] => []
  | (l, h) :: rs => (if max l 0 ≤ min h 1114111 then [(max l 0, 1), (min h 1114111 + 1, -1)] else []) ++ edgesL rs
def sumTo (c : Int) : List (Int × Int) → Int
  | [] => 0
  | (a, m) :: l => (if a ≤ c then m else 0) + sumTo c l
def coverN (c : Int) : List (Int × Int) → Int
  | [] => 0
  | (l, h) :: rs => (if l ≤ c ∧ c ≤ h then 1 else 0) + coverN c rs
theorem sumTo_append (c : Int) (a b : List (Int × Int)) : sumTo c (a ++ b) = sumTo c a + sumTo c b := by
  induction a with
  | nil => simp [sumTo]
  | cons x a ih => obtain ⟨p, q⟩ := x; simp only [List.cons_append, sumTo, ih]; omega
theorem sumTo_perm (c : Int) {a b : List (Int × Int)} (h : a.Perm b) : sumTo c a = sumTo c b := by
  induction h with
  | nil => rfl
  | cons x _ ih => obtain ⟨p, q⟩ := x; simp only [sumTo, ih]
  | swap x y l => obtain ⟨p, q⟩ := x; obtain ⟨p', q'⟩ := y; simp only [sumTo]; omega
  | trans _ _ h1 h2 => exact h1.trans h2
theorem sumTo_edges {c : Int} (h0 : 0 ≤ c) (h1 : c ≤ 1114111) : ∀ rs : List (Int × Int), sumTo c (edgesL rs) = coverN c rs
  | [] => rfl
  | (l, h) :: rs => by
    simp only [edgesL, coverN]
    rw [sumTo_append, sumTo_edges h0 h1 rs]
    by_cases hx : max l 0 ≤ min h 1114111
    · rw [if_pos hx]
      simp only [sumTo]
      by_cases hc : l ≤ c ∧ c ≤ h
      · rw [if_pos hc, if_pos (by omega), if_neg (by omega)]; omega
      · rw [if_neg hc]
        by_cases hl : max l 0 ≤ c
        · rw [if_pos hl, if_pos (by omega)]; omega
        · rw [if_neg hl, if_neg (by omega)]; omega
    · rw [if_neg hx]
      simp only [sumTo]
      rw [if_neg (by omega)]
theorem coverN_ge (c : Int) : ∀ rs : List (Int × Int), 0 ≤ coverN c rs
  | [] => Int.le_refl _
  | (l, h) :: rs => by have := coverN_ge c rs; simp only [coverN]; split <;> omega
theorem coverN_iff (c : Int) : ∀ rs : List (Int × Int), 0 < coverN c rs ↔ memR rs c = true
  | [] => by simp [coverN, memR]
  | (l, h) :: rs => by
    have h1 := coverN_ge c rs
    have h2 := coverN_iff c rs
    rw [memR_cons, Bool.or_eq_true, Bool.and_eq_true, decide_eq_true_eq, decide_eq_true_eq, ← h2]
    simp only [coverN]
    by_cases hc : l ≤ c ∧ c ≤ h
    · rw [if_pos hc]; constructor
      · intro _; exact .inl hc
      · intro _; omega
    · rw [if_neg hc]; constructor
      · intro h; exact .inr (by omega)
      · rintro (h | h)
        · exact absurd h hc
        · omega
theorem coverN_pos (c : Int) (rs : List (Int × Int)) : decide (0 < coverN c rs) = memR rs c := by
  rw [Bool.eq_iff_iff, decide_eq_true_eq]; exact coverN_iff c rs
theorem coverN_zero (c : Int) (rs : List (Int × Int)) : decide (coverN c rs = 0) = !memR rs c := by
  rw [← coverN_pos]
  have := coverN_ge c rs
  by_cases h : coverN c rs = 0
  · rw [decide_eq_true h, decide_eq_false (by omega)]; rfl
  · rw [decide_eq_false h, decide_eq_true (by omega)]; rfl
theorem edges_bound : ∀ (rs : List (Int × Int)), ∀ e ∈ edgesL rs, 0 ≤ e.1 ∧ e.1 ≤ 1114112 ∧ (e.2 = 1 ∨ e.2 = -1)
  | [], e, he => by simp [edgesL] at he
  | (l, h) :: rs, e, he => by
    simp only [edgesL] at he
    rcases List.mem_append.1 he with h1 | h1
    · by_cases hx : max l 0 ≤ min h 1114111
      · rw [if_pos hx] at h1
        simp only [List.mem_cons, List.not_mem_nil, or_false] at h1
        rcases h1 with rfl | rfl
        · exact ⟨by dsimp only; omega, by dsimp only; omega, .inl rfl⟩
        · exact ⟨by dsimp only; omega, by dsimp only; omega, .inr rfl⟩
      · rw [if_neg hx] at h1; simp at h1
    · exact edges_bound rs e h1
theorem edges_append (a b : List (Int × Int)) : edgesL (a ++ b) = edgesL a ++ edgesL b := by
  induction a with
  | nil => rfl
  | cons x a ih => obtain ⟨l, h⟩ := x; simp only [List.cons_append, edgesL, ih, List.append_assoc]
theorem edges_length : ∀ (rs : List (Int × Int)), (edgesL rs).length ≤ 2 * rs.length
  | [] => Nat.le_refl _
  | (l, h) :: rs => by
    have := edges_length rs
    simp only [edgesL, List.length_append, List.length_cons]
    split <;> simp <;> omega

/-! ### The stretches between them, and what is kept of them -/
def spansL (frm n : Int) : List (Int × Int) → List ((Int × Int) × Int)
  | [] => if frm ≤ 1114111 then [((frm, 1114111), n)] else []
  | (a, m) :: l => if frm < a then ((frm, a - 1), n) :: spansL a (n + m) l else spansL frm (n + m) l
def pushT (out : List (Int × Int)) (x : Int × Int) : List (Int × Int) :=
  match out.getLast? with
  | none => out ++ [x]
  | some y => if y.2 + 1 = x.1 then out.dropLast ++ [(y.1, x.2)] else out ++ [x]
def stepT (is : Int → Bool) (out : List (Int × Int)) (x : (Int × Int) × Int) : List (Int × Int) := if is x.2 then pushT out x.1 else out
def thoseL (is : Int → Bool) (sp : List ((Int × Int) × Int)) : List (Int × Int) := sp.foldl (stepT is) []

theorem snoc_cases {α : Type} (l : List α) : l = [] ∨ ∃ b y, l = b ++ [y] := by
  rcases List.eq_nil_or_concat l with h | ⟨b, y, h⟩
  · exact .inl h
  · exact .inr ⟨b, y, by rw [h]; simp⟩
theorem pushT_right {out : List (Int × Int)} {x : Int × Int} (h : setRight out = true) (h0 : 0 ≤ x.1) (h1 : x.1 ≤ x.2) (h2 : x.2 ≤ 1114111) (hl : lastH (-2) out < x.1) :
    setRight (pushT out x) = true ∧ (∀ c, memR (pushT out x) c = (memR out c || (decide (x.1 ≤ c) && decide (c ≤ x.2)))) ∧ lastH (-2) (pushT out x) = x.2 := by
  rcases snoc_cases out with rfl | ⟨b, y, rfl⟩
  · have e : pushT [] x = [x] := rfl
    rw [e]
    refine ⟨?_, fun c => by rw [memR_one]; simp [memR], rfl⟩
    simp [setRight, setFrom]; omega
  · have e : pushT (b ++ [y]) x = if y.2 + 1 = x.1 then b ++ [(y.1, x.2)] else b ++ [y] ++ [x] := by unfold pushT; simp
    rw [e]
    rw [lastH_snoc] at hl
    unfold setRight at h ⊢
    have h' := h
    rw [setFrom_snoc] at h
    simp only [Bool.and_eq_true, decide_eq_true_eq] at h
    by_cases hy : y.2 + 1 = x.1
    · rw [if_pos hy]
      refine ⟨?_, fun c => ?_, lastH_snoc _ _ _⟩
      · rw [setFrom_snoc, h.1]; simp; omega
      · rw [memR_append, memR_append, memR_one, memR_one, Bool.or_assoc]
        congr 1
        rw [Bool.eq_iff_iff]
        simp only [Bool.or_eq_true, Bool.and_eq_true, decide_eq_true_eq]
        omega
    · rw [if_neg hy]
      refine ⟨?_, fun c => by rw [memR_append, memR_one], lastH_snoc _ _ _⟩
      rw [setFrom_snoc, h', lastH_snoc]; simp; omega

theorem sumTo_none {c : Int} : ∀ {l : List (Int × Int)}, (∀ e ∈ l, c < e.1) → sumTo c l = 0
  | [], _ => rfl
  | (a, m) :: l, h => by
    have h1 := h (a, m) (by simp)
    dsimp only at h1
    simp only [sumTo]
    rw [if_neg (by omega), sumTo_none fun e he => h e (by simp [he])]; rfl

theorem those_spans (is : Int → Bool) : ∀ (es : List (Int × Int)) (frm n : Int) (out : List (Int × Int)), 0 ≤ frm → (∀ e ∈ es, frm ≤ e.1 ∧ e.1 ≤ 1114112) → es.Pairwise (fun a b => a.1 ≤ b.1) →
    setRight out = true → lastH (-2) out < frm →
    setRight ((spansL frm n es).foldl (stepT is) out) = true ∧
      ∀ c, memR ((spansL frm n es).foldl (stepT is) out) c = (memR out c || (decide (frm ≤ c) && decide (c ≤ 1114111) && is (n + sumTo c es)))
  | [], frm, n, out, h0, _, _, hr, hl => by
    simp only [spansL]
    by_cases hf : frm ≤ 1114111
    · rw [if_pos hf]
      simp only [List.foldl_cons, List.foldl_nil, stepT]
      by_cases hi : is n = true
      · rw [if_pos hi]
        obtain ⟨p1, p2, _⟩ := pushT_right (x := (frm, 1114111)) hr h0 hf (Int.le_refl _) hl
        exact ⟨p1, fun c => by rw [p2]; simp [sumTo, hi]⟩
      · rw [if_neg hi]
        exact ⟨hr, fun c => by simp [sumTo, hi]⟩
    · rw [if_neg hf]
      refine ⟨hr, fun c => ?_⟩
      have : (decide (frm ≤ c) && decide (c ≤ 1114111)) = false := by
        rw [Bool.and_eq_false_iff, decide_eq_false_iff_not, decide_eq_false_iff_not]; omega
      simp [this]
  | (a, m) :: l, frm, n, out, h0, hb, hs, hr, hl => by
    have ha := hb (a, m) (by simp)
    dsimp only at ha
    have hl' : ∀ e ∈ l, a ≤ e.1 := fun e he => List.rel_of_pairwise_cons hs he
    have hb' : ∀ e ∈ l, a ≤ e.1 ∧ e.1 ≤ 1114112 := fun e he => ⟨hl' e he, (hb e (by simp [he])).2⟩
    have hs' := hs.of_cons
    simp only [spansL]
    by_cases hf : frm < a
    · rw [if_pos hf, List.foldl_cons]
      have key : setRight (stepT is out ((frm, a - 1), n)) = true ∧ (∀ c, memR (stepT is out ((frm, a - 1), n)) c = (memR out c || (decide (frm ≤ c) && decide (c ≤ a - 1) && is n))) ∧ lastH (-2) (stepT is out ((frm, a - 1), n)) < a := by
        simp only [stepT]
        by_cases hi : is n = true
        · rw [if_pos hi]
          obtain ⟨p1, p2, p3⟩ := pushT_right (x := (frm, a - 1)) hr h0 (by dsimp only; omega) (by dsimp only; omega) hl
          refine ⟨p1, fun c => by rw [p2, hi]; simp, by rw [p3]; dsimp only; omega⟩
        · rw [if_neg hi]
          exact ⟨hr, fun c => by simp [hi], by omega⟩
      obtain ⟨k1, k2, k3⟩ := key
      obtain ⟨i1, i2⟩ := those_spans is l a (n + m) _ (by omega) hb' hs' k1 k3
      refine ⟨i1, fun c => ?_⟩
      rw [i2, k2, Bool.or_assoc]
      congr 1
      by_cases hc : c < a
      · have e : sumTo c ((a, m) :: l) = 0 := sumTo_none fun e he => by
          rcases List.mem_cons.1 he with rfl | he
          · exact hc
          · have := hl' e he; omega
        rw [e, decide_eq_false (show ¬ a ≤ c by omega), Int.add_zero]
        by_cases hq : frm ≤ c
        · rw [decide_eq_true hq, decide_eq_true (show c ≤ a - 1 by omega), decide_eq_true (show c ≤ 1114111 by omega)]; simp
        · rw [decide_eq_false hq]; simp
      · have e : sumTo c ((a, m) :: l) = m + sumTo c l := by simp only [sumTo]; rw [if_pos (by omega)]
        rw [e, decide_eq_false (show ¬ c ≤ a - 1 by omega), decide_eq_true (show a ≤ c by omega), decide_eq_true (show frm ≤ c by omega), Int.add_assoc]; simp
    · rw [if_neg hf]
      obtain rfl : a = frm := by omega
      obtain ⟨i1, i2⟩ := those_spans is l a (n + m) out h0 hb' hs' hr hl
      refine ⟨i1, fun c => ?_⟩
      rw [i2]
      congr 1
      by_cases hq : a ≤ c
      · have e : sumTo c ((a, m) :: l) = m + sumTo c l := by simp only [sumTo]; rw [if_pos hq]
        rw [e, Int.add_assoc]
      · rw [decide_eq_false hq]; simp

/-- The whole sweep: of sorted edges of some ranges. -/
theorem sweep (is : Int → Bool) (rs es : List (Int × Int)) (hp : es.Perm (edgesL rs)) (hs : es.Pairwise (fun a b => a.1 ≤ b.1)) :
    setRight (thoseL is (spansL 0 0 es)) = true ∧ ∀ c, memR (thoseL is (spansL 0 0 es)) c = (decide (0 ≤ c) && decide (c ≤ 1114111) && is (coverN c rs)) := by
  obtain ⟨h1, h2⟩ := those_spans is es 0 0 [] (Int.le_refl _) (fun e he => by have := edges_bound rs e (hp.mem_iff.1 he); omega) hs rfl (by decide)
  refine ⟨h1, fun c => ?_⟩
  rw [thoseL, h2, Int.zero_add, sumTo_perm c hp]
  by_cases hc : 0 ≤ c ∧ c ≤ 1114111
  · rw [sumTo_edges hc.1 hc.2]; simp [memR]
  · have : (decide (0 ≤ c) && decide (c ≤ 1114111)) = false := by
      rw [Bool.and_eq_false_iff, decide_eq_false_iff_not, decide_eq_false_iff_not]; omega
    simp [this, memR]

end Go.Proofs.YtnhnldmldnhaoaaGreatDoor
