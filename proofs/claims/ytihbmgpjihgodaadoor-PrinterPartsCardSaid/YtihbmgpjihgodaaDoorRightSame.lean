/- Is it a tree? The document's way of asking (all parts' fields, then the groups' numbers and names) against the program's (part by part): the same, in plain words. -/
import Derived.Test.YtihbmgpjihgodaaDoorRight
namespace Go.Proofs.YtihbmgpjihgodaaDoor
open Go

/-- What the document asks of a part: its fields, how many Kids, its number. -/
def shapedP (p : T) : Bool := plainT p && (decide (p.op ≠ 6) || decide (1 ≤ p.cap))
mutual
def shapedT : T → Bool
  | .mk op kids rune set pl cap name mn mx lz => shapedP (.mk op kids rune set pl cap name mn mx lz) && shapedL kids
def shapedL : List T → Bool
  | [] => true
  | t :: ts => shapedT t && shapedL ts
end
theorem shapedL_all (l : List T) : shapedL l = l.all shapedT := by
  induction l with
  | nil => rfl
  | cons t l ih => simp [shapedL, ih]
theorem shapedT_iff (t : T) : shapedT t = true ↔ ∀ p ∈ parts t, shapedP p = true := by
  induction t using T.ind with
  | h op kids rune set pl cap name mn mx lz ih =>
    have hl : ∀ l : List T, (∀ k ∈ l, (shapedT k = true ↔ ∀ p ∈ parts k, shapedP p = true)) → (shapedL l = true ↔ ∀ p ∈ partsL l, shapedP p = true) := by
      intro l
      induction l with
      | nil => intro _; simp [shapedL, partsL]
      | cons a l ihl =>
        intro h
        have h1 := h a (List.mem_cons_self ..)
        have h2 := ihl (fun k hk => h k (List.mem_cons_of_mem _ hk))
        simp only [shapedL, partsL, Bool.and_eq_true, List.mem_append, h1, h2]
        constructor
        · rintro ⟨h3, h4⟩ p (hp | hp)
          · exact h3 p hp
          · exact h4 p hp
        · intro h3
          exact ⟨fun p hp => h3 p (.inl hp), fun p hp => h3 p (.inr hp)⟩
    simp only [shapedT, parts, Bool.and_eq_true, List.mem_cons, hl kids ih]
    constructor
    · rintro ⟨h1, h2⟩ p (rfl | hp)
      · exact h1
      · exact h2 p hp
    · intro h
      exact ⟨h _ (.inl rfl), fun p hp => h p (.inr hp)⟩

/-- A list's groups. -/
def groupsL (l : List T) : List T := l.filter (fun p => decide (p.op = 6))
def GOk (g : List T) : Prop := ∀ (i : Nat) (h : i < g.length), g[i].cap = (i : Int) + 1 ∧ ∀ (k : Nat) (hk : k < i), ¬ (g[k].name = g[i].name ∧ g[i].name.size ≠ 0)

theorem GOk_snoc (g : List T) (p : T) : GOk (g ++ [p]) ↔ GOk g ∧ p.cap = (g.length : Int) + 1 ∧ ∀ q ∈ g, ¬ (q.name = p.name ∧ p.name.size ≠ 0) := by
  constructor
  · intro h
    refine ⟨fun i hi => ?_, ?_, ?_⟩
    · obtain ⟨h1, h2⟩ := h i (by simp; omega)
      rw [List.getElem_append_left hi] at h1 h2
      refine ⟨h1, fun k hk => ?_⟩
      have := h2 k hk
      rw [List.getElem_append_left (by omega)] at this
      exact this
    · obtain ⟨h1, _⟩ := h g.length (by simp)
      simpa using h1
    · intro q hq
      obtain ⟨k, hk, rfl⟩ := List.mem_iff_getElem.1 hq
      obtain ⟨_, h2⟩ := h g.length (by simp)
      have := h2 k hk
      rw [List.getElem_append_left hk] at this
      simpa using this
  · rintro ⟨h1, h2, h3⟩ i hi
    simp only [List.length_append, List.length_singleton] at hi
    by_cases he : i < g.length
    · obtain ⟨h4, h5⟩ := h1 i he
      rw [List.getElem_append_left he]
      refine ⟨h4, fun k hk => ?_⟩
      rw [List.getElem_append_left (by omega)]
      exact h5 k hk
    · obtain rfl : i = g.length := by omega
      refine ⟨by simpa using h2, fun k hk => ?_⟩
      rw [List.getElem_append_left hk]
      simpa using h3 _ (List.getElem_mem hk)
theorem data_name {a b : ByteArray} : a.data.toList = b.data.toList ↔ a = b := by
  constructor
  · intro h
    exact ByteArray.ext (Array.toList_inj.1 h)
  · rintro rfl; rfl
/-- What the program's walk knows behind some parts. -/
theorem runR_spec (l : List T) :
    (∀ n S, runR l = some (n, S) → (∀ p ∈ l, plainT p = true) ∧ GOk (groupsL l) ∧ n = (groupsL l).length ∧ ∀ s : List UInt8, s ∈ S ↔ ∃ q ∈ groupsL l, q.name.data.toList = s) ∧
    (runR l = none → ¬ ((∀ p ∈ l, plainT p = true) ∧ GOk (groupsL l))) := by
  obtain ⟨m, hm⟩ : ∃ m, m = l.length := ⟨_, rfl⟩
  induction m generalizing l with
  | zero =>
    obtain rfl : l = [] := List.eq_nil_of_length_eq_zero hm.symm
    refine ⟨fun n S h => ?_, fun h => by simp [runR] at h⟩
    simp [runR] at h
    obtain ⟨rfl, rfl⟩ := h
    exact ⟨by simp, fun i hi => by simp [groupsL] at hi, rfl, by simp [groupsL]⟩
  | succ m ih =>
    rcases snoc_cases l with rfl | ⟨a, p, rfl⟩
    · simp at hm
    · obtain ⟨i1, i2⟩ := ih a (by simp at hm; omega)
      have hgr : groupsL (a ++ [p]) = groupsL a ++ (if p.op = 6 then [p] else []) := by
        unfold groupsL
        rw [List.filter_append]
        by_cases h : p.op = 6 <;> simp [h]
      rw [runR_snoc]
      cases hr : runR a with
      | none =>
        refine ⟨fun n S h => by simp [stepR] at h, fun _ hh => i2 hr ⟨fun q hq => hh.1 q (by simp [hq]), ?_⟩⟩
        have hg := hh.2
        rw [hgr] at hg
        by_cases h6 : p.op = 6
        · rw [if_pos h6] at hg
          exact ((GOk_snoc _ _).1 hg).1
        · rw [if_neg h6, List.append_nil] at hg
          exact hg
      | some q =>
        obtain ⟨n, S⟩ := q
        obtain ⟨j1, j2, j3, j4⟩ := i1 n S hr
        by_cases hp : plainT p = false
        · refine ⟨fun n' S' h => by simp [stepR, hp] at h, fun _ hh => ?_⟩
          have := hh.1 p (by simp)
          rw [hp] at this; cases this
        · have hp' : plainT p = true := by simpa using hp
          have hall : ∀ q ∈ a ++ [p], plainT q = true := by
            intro q hq
            rcases List.mem_append.1 hq with h | h
            · exact j1 q h
            · obtain rfl := List.mem_singleton.1 h; exact hp'
          by_cases h6 : p.op = 6
          · rw [hgr, if_pos h6]
            by_cases hbad : p.cap ≠ n + 1 ∨ (p.name.size ≠ 0 ∧ p.name.data.toList ∈ S)
            · refine ⟨fun n' S' h => (by simp only [stepR] at h; rw [if_neg hp, if_pos h6, if_pos hbad] at h; cases h), fun _ hh => ?_⟩
              obtain ⟨g1, g2, g3⟩ := (GOk_snoc _ _).1 hh.2
              rcases hbad with hb | ⟨hb1, hb2⟩
              · exact hb (by rw [g2, j3])
              · obtain ⟨q, hq, he⟩ := (j4 _).1 hb2
                exact g3 q hq ⟨data_name.1 he, hb1⟩
            · refine ⟨fun n' S' h => ?_, fun h => by simp only [stepR] at h; rw [if_neg hp, if_pos h6, if_neg hbad] at h; cases h⟩
              simp only [stepR] at h
              rw [if_neg hp, if_pos h6, if_neg hbad] at h
              simp only [Option.some.injEq, Prod.mk.injEq] at h
              obtain ⟨rfl, rfl⟩ := h
              refine ⟨hall, (GOk_snoc _ _).2 ⟨j2, ?_, ?_⟩, by simp [j3], fun s => ?_⟩
              · have : ¬ p.cap ≠ n + 1 := fun h => hbad (.inl h)
                rw [← j3]; omega
              · rintro q hq ⟨e1, e2⟩
                exact hbad (.inr ⟨e2, (j4 _).2 ⟨q, hq, by rw [e1]⟩⟩)
              · simp only [List.mem_cons, List.mem_append, List.not_mem_nil, or_false, j4]
                constructor
                · rintro (rfl | ⟨q, hq, he⟩)
                  · exact ⟨p, .inr rfl, rfl⟩
                  · exact ⟨q, .inl hq, he⟩
                · rintro ⟨q, hq | rfl, he⟩
                  · exact .inr ⟨q, hq, he⟩
                  · exact .inl he.symm
          · rw [hgr, if_neg h6, List.append_nil]
            refine ⟨fun n' S' h => ?_, fun h => by simp only [stepR] at h; rw [if_neg hp, if_neg h6] at h; cases h⟩
            simp only [stepR] at h
            rw [if_neg hp, if_neg h6] at h
            simp only [Option.some.injEq, Prod.mk.injEq] at h
            obtain ⟨rfl, rfl⟩ := h
            exact ⟨hall, j2, j3, j4⟩
theorem runR_iff (l : List T) : (runR l).isSome = true ↔ (∀ p ∈ l, plainT p = true) ∧ GOk (groupsL l) := by
  obtain ⟨h1, h2⟩ := runR_spec l
  cases h : runR l with
  | none => simpa using h2 h
  | some q => simpa using ⟨(h1 q.1 q.2 h).1, (h1 q.1 q.2 h).2.1⟩
/-- The document's and the program's are one. -/
theorem rightB_iff (t : T) : rightB t = true ↔ depth t ≤ 50 ∧ weight t ≤ 4000 ∧ shapedT t = true ∧ GOk (groupsL (parts t)) := by
  unfold rightB
  rw [Bool.and_eq_true, Bool.and_eq_true, decide_eq_true_eq, decide_eq_true_eq, runR_iff, shapedT_iff]
  constructor
  · rintro ⟨⟨h1, h2⟩, h3, h4⟩
    refine ⟨h1, h2, fun p hp => ?_, h4⟩
    unfold shapedP
    rw [h3 p hp, Bool.true_and]
    by_cases h6 : p.op = 6
    · have hm : p ∈ groupsL (parts t) := List.mem_filter.2 ⟨hp, by simpa using h6⟩
      obtain ⟨i, hi, rfl⟩ := List.mem_iff_getElem.1 hm
      have := (h4 i hi).1
      simp; omega
    · simp [h6]
  · rintro ⟨h1, h2, h3, h4⟩
    refine ⟨⟨h1, h2⟩, fun p hp => ?_, h4⟩
    have := h3 p hp
    unfold shapedP at this
    simp only [Bool.and_eq_true] at this
    exact this.1
theorem rightB_yes {t : T} (h1 : depth t ≤ 50) (h2 : weight t ≤ 4000) (h3 : shapedT t = true) (h4 : GOk (groupsL (parts t))) : rightB t = true := (rightB_iff t).2 ⟨h1, h2, h3, h4⟩
theorem rightB_no {t : T} (h : ¬ (depth t ≤ 50 ∧ weight t ≤ 4000 ∧ shapedT t = true ∧ GOk (groupsL (parts t)))) : rightB t = false := by
  cases hr : rightB t with
  | false => rfl
  | true => exact absurd ((rightB_iff t).1 hr) h
end Go.Proofs.YtihbmgpjihgodaaDoor
