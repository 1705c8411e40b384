/- Where the reader stands; what is wrong lies within the text: the scanners. -/
import Derived.Test.YtnhnldmldnhaoaaGreatDoorDRight
import Derived.Lib.IndexMore
namespace Go.Proofs.YtnhnldmldnhaoaaGreatDoor
open Go Go.RowKit Go.Proofs Go.Shelf

/-- What is wrong lies within the text. -/
def Within (s : ByteArray) (e f t : Int) : Prop := e ≠ 0 ∧ 0 ≤ f ∧ f ≤ t ∧ t ≤ s.size
/-- A place behind another, where a rune begins. -/
def Behind (s : ByteArray) (p q : Nat) : Prop := p < q ∧ q ≤ s.size ∧ Bd s q
theorem toList_len (s : ByteArray) : s.data.toList.length = s.size := by simp
theorem hexs_low : ∀ c : UInt8, hexs.contains c = true → c.toNat < 128 := by
  have h : ∀ c ∈ hexs, c.toNat < 128 := by decide
  intro c hc
  exact h c (by simpa using hc)
theorem stands_lt' {s : ByteArray} {p : Nat} {c : UInt8} {t : List UInt8} (h : stands s p (c :: t) = true) : p < s.size := by
  have h1 := stands_at h 0 c rfl
  have h2 := (List.getElem?_eq_some_iff.1 h1).1
  rw [toList_len] at h2
  omega
theorem Bd.at {s : ByteArray} {p q : Nat} {x : List UInt8} (h : Bd s p) (hpq : p ≤ q) (hs : stands s q x = true) (k : Nat) (c : UInt8) (hk : x[k]? = some c) (h128 : c.toNat < 128) : Bd s (q + k + 1) ∧ q + k < s.size := by
  have h1 := stands_at hs k c hk
  have h2 := (List.getElem?_eq_some_iff.1 h1).1
  rw [toList_len] at h2
  exact ⟨h.behind (by omega) h1 h128, by omega⟩
theorem codeP_fit {s : ByteArray} {q : Nat} {n : Int} {r : Nat} (hq : q ≤ s.size) (hb : Bd s q) (h : codeP s q = some (n, r)) : Behind s q r := by
  have hr := codeP_q hq h
  refine ⟨hr.1, hr.2, ?_⟩
  unfold codeP at h
  by_cases c1 : stands s q [123] = true
  · rw [if_pos c1] at h
    by_cases h2 : (bracedN s q).2.1 = true
    · rw [if_pos h2] at h
      simp only [Option.some.injEq, Prod.mk.injEq] at h
      obtain ⟨_, rfl⟩ := h
      unfold bracedN at h2 ⊢
      simp only [Bool.and_eq_true] at h2
      simp only [Bool.and_eq_true]
      rw [if_pos h2.1]
      exact (hb.at (by omega) h2.1.2 0 125 rfl (by decide)).1
    · rw [if_neg h2] at h; cases h
  · rw [if_neg c1] at h
    by_cases h3 : q + 1 < s.size
    · rw [drop_two s q h3] at h
      simp only at h
      split at h
      · rename_i hx
        cases h
        have e0 : s.data.toList[q]? = some s[q] := byte_at (by omega)
        have e1 : s.data.toList[q + 1]? = some s[q + 1] := byte_at (by omega)
        exact (hb.one e0 (hexs_low _ hx.1)).one e1 (hexs_low _ hx.2)
      · cases h
    · split at h
      · rename_i heq; exact absurd heq (drop_short s q (by omega) _ _ _)
      · cases h
theorem propP_fit {s : ByteArray} {q : Nat} {nm : ByteArray} {r : Nat} (hq : q ≤ s.size) (hb : Bd s q) (h : propP s q = some (nm, r)) : Behind s q r := by
  have hr := propP_q hq h
  refine ⟨hr.1, hr.2, ?_⟩
  unfold propP at h
  by_cases c1 : stands s q [123] = true
  · rw [if_pos c1] at h
    by_cases h2 : 0 ≤ Lib.indexByte (s.data.toList.drop (q + 1)) 125
    · rw [if_pos h2] at h
      simp only [Option.some.injEq, Prod.mk.injEq] at h
      obtain ⟨_, rfl⟩ := h
      obtain ⟨o, ho⟩ : ∃ o : Nat, Lib.indexByte (s.data.toList.drop (q + 1)) 125 = o := ⟨(Lib.indexByte (s.data.toList.drop (q + 1)) 125).toNat, by omega⟩
      rw [ho]
      obtain ⟨h1, _⟩ := Lib.indexByte_some ho
      rw [List.getElem?_drop] at h1
      simp only [Int.toNat_natCast]
      exact hb.behind (by omega) h1 (by decide)
    · rw [if_neg h2] at h; cases h
  · rw [if_neg c1] at h
    by_cases h3 : q < s.size
    · rw [if_pos h3] at h
      simp only [Option.some.injEq, Prod.mk.injEq] at h
      obtain ⟨_, rfl⟩ := h
      exact hb.next
    · rw [if_neg h3] at h; cases h
/-- What an escape tells. -/
def EscFit (s : ByteArray) (p : Nat) : EscR → Prop
  | .wrong e f t => Within s e f t
  | .lit k _ _ q => (k = 1 ∨ k = 3 ∨ k = 4) ∧ ∃ Q : Nat, q = Q ∧ Behind s p Q
  | .set _ q => ∃ Q : Nat, q = Q ∧ Behind s p Q
theorem within_mk {s : ByteArray} {p q : Nat} (e : Int) (he : e ≠ 0) (hpq : p ≤ q) (hq : q ≤ s.size) : Within s e p q := ⟨he, by omega, by omega, by omega⟩
theorem escP_fit (s : ByteArray) (p : Nat) (perl : Bool) (hb : Bd s p) (hs : stands s p [92] = true) : EscFit s p (escP s p perl) := by
  have hp := stands_lt' hs
  have hb1 : Bd s (p + 1) := hb.sign (Nat.le_refl _) hs (by decide)
  unfold escP
  rw [if_neg (by simp [hs])]
  split
  · exact ⟨by decide, by omega, by omega, by omega⟩
  rename_i h1
  have hg := nextW_gt s (p + 1) (by omega)
  have hl := nextW_le s (p + 1) (by omega)
  have hb2 := hb1.next
  have ok : ∃ Q : Nat, ((nextW s (p + 1) : Nat) : Int) = Q ∧ Behind s p Q := ⟨_, rfl, by omega, hl, hb2⟩
  split
  · exact ⟨.inl rfl, ok⟩
  split
  · exact ⟨.inl rfl, ok⟩
  split
  · unfold escX
    cases hc : codeP s (nextW s (p + 1)) with
    | none => exact within_mk 61 (by decide) (by omega) hl
    | some x =>
      have := codeP_fit hl hb2 hc
      exact ⟨.inl rfl, _, rfl, by have := this.1; omega, this.2⟩
  split
  · unfold escPr
    cases hc : propP s (nextW s (p + 1)) with
    | none => exact within_mk 61 (by decide) (by omega) hl
    | some x =>
      have := propP_fit hl hb2 hc
      simp only
      split
      · exact within_mk 63 (by decide) (by have := this.1; omega) this.2.1
      · exact ⟨_, rfl, by have := this.1; omega, this.2⟩
  split
  · exact within_mk 61 (by decide) (by omega) hl
  unfold escPl
  split
  · exact ⟨.inr (.inl rfl), ok⟩
  split
  · exact ⟨.inr (.inr rfl), ok⟩
  split
  · exact within_mk 61 (by decide) (by omega) hl
  · exact ok
theorem oneP_fit (s : ByteArray) (p : Nat) (perl : Bool) (hb : Bd s p) (hp : p < s.size) : EscFit s p (oneP s p perl) := by
  unfold oneP
  split
  · rename_i h; exact escP_fit s p perl hb h
  · exact ⟨.inl rfl, _, rfl, nextW_gt s p hp, nextW_le s p (by omega), hb.next⟩
/-- What an item tells. -/
def ItemFit (s : ByteArray) (p : Nat) : ItemR → Prop
  | .wrong e f t => Within s e f t
  | .ok _ q => Behind s p q
theorem namedP_fit {s : ByteArray} {p k : Nat} (hp : p ≤ s.size) (hb : Bd s p) (h : namedP s p = some k) : Behind s p (k + 2) := by
  have hq := namedP_q hp h
  refine ⟨by omega, hq.2, ?_⟩
  unfold namedP at h
  by_cases c1 : stands s p [91, 58] = true
  · rw [if_pos c1] at h
    by_cases c2 : stands s (p + 2 + (runP s (p + 2) nmL).length) [58, 93] = true
    · rw [if_pos c2] at h
      cases h
      exact (hb.at (by omega) c2 1 93 rfl (by decide)).1
    · rw [if_neg c2] at h; cases h
  · rw [if_neg c1] at h; cases h
theorem itemP_fit (s : ByteArray) (p : Nat) (perl : Bool) (fr : Int) (hp : p ≤ s.size) (hb : Bd s p) (h0 : 0 ≤ fr) (h1 : fr ≤ s.size) : ItemFit s p (itemP s p perl fr) := by
  unfold itemP
  cases hn : namedP s p with
  | some k =>
    have hk := namedP_fit hp hb hn
    simp only
    split
    · exact within_mk 72 (by decide) (by have := hk.1; omega) hk.2.1
    · exact hk
  | none =>
    simp only
    split
    · exact ⟨by decide, h0, h1, Int.le_refl _⟩
    rename_i hlt
    have hf := oneP_fit s p perl hb (by omega)
    cases ho : oneP s p perl with
    | wrong e f t => rw [ho] at hf; exact hf
    | set f' q' =>
      rw [ho] at hf
      obtain ⟨Q, rfl, h2⟩ := hf
      exact h2
    | lit k r a q' =>
      rw [ho] at hf
      obtain ⟨_, Q, rfl, h2⟩ := hf
      simp only [Int.toNat_natCast]
      split
      · exact within_mk 72 (by decide) (by have := h2.1; omega) h2.2.1
      split
      · rename_i hr
        unfold rangedP at hr
        simp only [Bool.and_eq_true, decide_eq_true_eq] at hr
        have hb2 := Bd.sign h2.2.2 (Nat.le_refl _) hr.1.1 (by decide)
        have hf2 := oneP_fit s (Q + 1) perl hb2 hr.1.2
        cases ho2 : oneP s (Q + 1) perl with
        | wrong e f t => rw [ho2] at hf2; exact hf2
        | set f' q' =>
          rw [ho2] at hf2
          obtain ⟨Q2, rfl, h3⟩ := hf2
          exact within_mk 72 (by decide) (by have := h2.1; have := h3.1; omega) h3.2.1
        | lit k r a q' =>
          rw [ho2] at hf2
          obtain ⟨_, Q2, rfl, h3⟩ := hf2
          simp only [Int.toNat_natCast]
          split
          · exact within_mk 72 (by decide) (by have := h2.1; have := h3.1; omega) h3.2.1
          · exact ⟨by have := h2.1; have := h3.1; omega, h3.2⟩
      · exact h2
theorem restP_fit (s : ByteArray) (perl : Bool) (fr : Int) (h0 : 0 ≤ fr) (h1 : fr ≤ s.size) : ∀ (n p : Nat) (g : Int → Bool), p ≤ s.size → Bd s p → s.size + 1 - p ≤ n → ItemFit s p (restP s perl fr n p g)
  | 0, p, _, hp, _, hn => by omega
  | n + 1, p, g, hp, hb, hn => by
    unfold restP
    split
    · rename_i hs
      have h2 := stands_lt' hs
      exact ⟨by omega, by omega, hb.sign (Nat.le_refl _) hs (by decide)⟩
    · have hi := itemP_fit s p perl fr hp hb h0 h1
      cases hx : itemP s p perl fr with
      | wrong e f t => rw [hx] at hi; exact hi
      | ok f q =>
        rw [hx] at hi
        have hr := restP_fit s perl fr h0 h1 n q (fun c => g c || f c) hi.2.1 hi.2.2 (by have := hi.1; omega)
        simp only
        cases hy : restP s perl fr n q (fun c => g c || f c) with
        | wrong e f t => rw [hy] at hr; exact hr
        | ok f q2 => rw [hy] at hr; exact ⟨by have := hi.1; have := hr.1; omega, hr.2⟩
theorem clsQ_fit (s : ByteArray) (p : Nat) (perl : Bool) (F : Option ((Int → Bool) → Int → Bool)) (hp : p ≤ s.size) (hb : Bd s p) : ItemFit s p (clsQ s p perl F) := by
  have key : ItemFit s p (clsP s p perl) := by
    unfold clsP
    by_cases hn : stands s p [91] = true
    · rw [if_neg (by simpa using hn)]
      have hb1 := hb.sign (Nat.le_refl _) hn (by decide)
      have hl := stands_lt' hn
      have hc : p < clsAt s p ∧ clsAt s p ≤ s.size ∧ Bd s (clsAt s p) := by
        unfold clsAt
        split
        · rename_i h
          have := stands_lt' h
          exact ⟨by omega, by omega, hb1.sign (Nat.le_refl _) h (by decide)⟩
        · exact ⟨by omega, by omega, hb1⟩
      have hi := itemP_fit s (clsAt s p) perl p hc.2.1 hc.2.2 (by omega) (by omega)
      cases hx : itemP s (clsAt s p) perl p with
      | wrong e f t => rw [hx] at hi; exact hi
      | ok f q =>
        rw [hx] at hi
        have hr := restP_fit s perl p (by omega) (by omega) (s.size + 1) q f hi.2.1 hi.2.2 (by omega)
        simp only
        cases hy : restP s perl p (s.size + 1) q f with
        | wrong e f t => rw [hy] at hr; exact hr
        | ok f q2 => rw [hy] at hr; exact ⟨by have := hc.1; have := hi.1; have := hr.1; omega, hr.2⟩
    · rw [if_pos hn]
      exact within_mk 1 (by decide) (Nat.le_refl _) hp
  unfold clsQ
  cases hc : clsP s p perl with
  | wrong e f t => rw [hc] at key; exact key
  | ok g q => rw [hc] at key; exact key
/-- A group's flags. -/
def FlagsFit (s : ByteArray) (p : Nat) : Except Nat (Int × Bool × Nat) → Prop
  | .error q => p ≤ q ∧ q ≤ s.size
  | .ok (_, _, q) => Behind s p q
theorem small_byte {s : ByteArray} {p : Nat} {c : Int} (h : nextC s p = c) (h0 : 0 ≤ c) (h1 : c < 128) : p < s.size ∧ nextW s p = p + 1 ∧ (Bd s p → Bd s (p + 1)) := by
  obtain ⟨hl, h2, h3, h4⟩ := nextC_small s p (by omega) (by omega)
  refine ⟨hl, h3, fun hb => hb.one (c := s[p]) (byte_at hl) h4⟩
theorem flagsRun_fit (s : ByteArray) : ∀ (k p : Nat) (f : Int) (off any : Bool), p ≤ s.size → Bd s p → FlagsFit s p (flagsRun s k p f off any)
  | 0, p, f, off, any, hp, hb => ⟨hp, Nat.le_refl _⟩
  | k + 1, p, f, off, any, hp, hb => by
    have more : ∀ (f : Int) (off any : Bool), p < s.size → Bd s (p + 1) → FlagsFit s p (flagsRun s k (p + 1) f off any) := by
      intro f off any hl hb1
      have h := flagsRun_fit s k (p + 1) f off any (by omega) hb1
      cases hx : flagsRun s k (p + 1) f off any with
      | error q => rw [hx] at h; exact ⟨by have := h.1; omega, h.2⟩
      | ok x => rw [hx] at h; exact ⟨by have := h.1; omega, h.2⟩
    unfold flagsRun
    split
    · rename_i hf
      have hs := flagOf_small hf
      have hy := small_byte (s := s) (p := p) rfl hs.1 hs.2
      split
      · exact more _ _ _ hy.1 (hy.2.2 hb)
      · exact more _ _ _ hy.1 (hy.2.2 hb)
    · split
      · rename_i h
        have hy := small_byte h.1 (by decide) (by decide)
        exact more _ _ _ hy.1 (hy.2.2 hb)
      · split
        · rename_i h
          rcases h.1 with h | h
          · have hy := small_byte h (by decide) (by decide)
            exact ⟨by omega, by omega, hy.2.2 hb⟩
          · have hy := small_byte h (by decide) (by decide)
            exact ⟨by omega, by omega, hy.2.2 hb⟩
        · refine ⟨?_, nextW_le s p hp⟩
          by_cases hl : p < s.size
          · exact Nat.le_of_lt (nextW_gt s p hl)
          · rw [(nextC_end s p (by omega)).2]; exact Nat.le_refl _
theorem nextW_ge (s : ByteArray) (p : Nat) : p ≤ nextW s p := by
  by_cases hl : p < s.size
  · exact Nat.le_of_lt (nextW_gt s p hl)
  · rw [(nextC_end s p (by omega)).2]; exact Nat.le_refl _
theorem flagsP_fit (s : ByteArray) (p : Nat) (f : Int) (hp : p ≤ s.size) (hb : Bd s p) : FlagsFit s p (flagsP s p f) := by
  unfold flagsP
  split
  · exact ⟨nextW_ge s p, nextW_le s p hp⟩
  rename_i h1
  have hy := small_byte (by simpa using h1) (by decide) (by decide)
  split
  · exact ⟨by have := nextW_ge s (p + 1); omega, nextW_le s (p + 1) (by omega)⟩
  rename_i h2
  have hz := small_byte (by simpa using h2) (by decide) (by decide)
  have h := flagsRun_fit s (s.size + 1 - (p + 2)) (p + 2) f false false (by omega) (hz.2.2 (hy.2.2 hb))
  cases hx : flagsRun s (s.size + 1 - (p + 2)) (p + 2) f false false with
  | error q => rw [hx] at h; exact ⟨by have := h.1; omega, h.2⟩
  | ok x => rw [hx] at h; exact ⟨by have := h.1; omega, h.2⟩
/-- A named group's beginning. -/
def NameFit (s : ByteArray) (p : Nat) : Except Nat (ByteArray × Nat) → Prop
  | .error q => p ≤ q ∧ q ≤ s.size
  | .ok (_, q) => Behind s p q
theorem nameP_fit (s : ByteArray) (p : Nat) (hp : p ≤ s.size) (hb : Bd s p) : NameFit s p (nameP s p) := by
  have he : p ≤ endP s p ∧ endP s p ≤ s.size := by
    unfold endP
    split
    · rename_i h
      obtain ⟨o, ho⟩ : ∃ o : Nat, Lib.indexByte (s.data.toList.drop p) 62 = o := ⟨(Lib.indexByte (s.data.toList.drop p) 62).toNat, by omega⟩
      obtain ⟨h1, _⟩ := Lib.indexByte_some ho
      have h2 := (List.getElem?_eq_some_iff.1 h1).1
      rw [List.length_drop, toList_len] at h2
      rw [ho]; simp only [Int.toNat_natCast]; omega
    · exact ⟨hp, Nat.le_refl _⟩
  unfold nameP
  cases hf : fromP s p with
  | none => exact he
  | some q =>
    simp only
    have hq : p < q := by
      unfold fromP at hf
      split at hf
      · cases hf; omega
      · split at hf
        · cases hf; omega
        · cases hf
    split
    · rename_i h
      obtain ⟨o, ho⟩ : ∃ o : Nat, Lib.indexByte (s.data.toList.drop q) 62 = o := ⟨(Lib.indexByte (s.data.toList.drop q) 62).toNat, by omega⟩
      obtain ⟨h1, _⟩ := Lib.indexByte_some ho
      rw [List.getElem?_drop] at h1
      have h2 := (List.getElem?_eq_some_iff.1 h1).1
      rw [toList_len] at h2
      rw [ho]; simp only [Int.toNat_natCast]
      exact ⟨by omega, by omega, hb.behind (by omega) h1 (by decide)⟩
    · exact he
theorem countP_fit {s : ByteArray} {p : Nat} {a b : Int} {q : Nat} (_ : p ≤ s.size) (hb : Bd s p) (h : countP s p = some (a, b, q)) : Behind s p q := by
  unfold countP at h
  split at h
  case isFalse => cases h
  split at h
  · cases h
  split at h
  · rename_i c
    cases h
    have := hb.at (by omega) c 0 125 rfl (by decide)
    exact ⟨by omega, by omega, this.1⟩
  split at h
  · rename_i c
    cases h
    have := hb.at (by omega) c 1 125 rfl (by decide)
    exact ⟨by omega, by omega, this.1⟩
  split at h
  · split at h
    · cases h
    split at h
    · rename_i c
      cases h
      have := hb.at (by omega) c 0 125 rfl (by decide)
      exact ⟨by omega, by omega, this.1⟩
    · cases h
  · cases h
theorem signP_some {s : ByteArray} {p : Nat} {x : Int × Int × Int} {q : Nat} (hp : p ≤ s.size) (hb : Bd s p) (h : signP s p = (some x, q)) : Behind s p q := by
  unfold signP at h
  split at h
  · rename_i c
    cases h
    have := hb.at (Nat.le_refl _) c 0 42 rfl (by decide)
    exact ⟨by omega, by omega, this.1⟩
  split at h
  · rename_i c
    cases h
    have := hb.at (Nat.le_refl _) c 0 43 rfl (by decide)
    exact ⟨by omega, by omega, this.1⟩
  split at h
  · rename_i c
    cases h
    have := hb.at (Nat.le_refl _) c 0 63 rfl (by decide)
    exact ⟨by omega, by omega, this.1⟩
  split at h
  · rename_i a b q' hc
    cases h
    exact countP_fit hp hb hc
  · cases h
theorem behindLazy_fit {s : ByteArray} {p : Nat} {f : Int} (hp : p ≤ s.size) (hb : Bd s p) : p ≤ behindLazy s p f ∧ behindLazy s p f ≤ s.size ∧ Bd s (behindLazy s p f) := by
  unfold behindLazy
  split
  · rename_i h
    unfold lazyAt at h
    simp only [Bool.and_eq_true] at h
    have := hb.at (Nat.le_refl _) h.2 0 63 rfl (by decide)
    exact ⟨by omega, by omega, this.1⟩
  · exact ⟨Nat.le_refl _, hp, hb⟩
/-- What a repeat tells. -/
def RepFit (s : ByteArray) (p : Nat) : Except (Int × Int × Int) (Bool × Nat) → Prop
  | .error (e, f, t) => Within s e f t
  | .ok (_, q) => p ≤ q ∧ q ≤ s.size ∧ Bd s q
theorem repeatP_fit (s : ByteArray) (fr p : Nat) (f op mn mx : Int) (hfr : fr ≤ p) (hp : p ≤ s.size) (hb : Bd s p) : RepFit s p (repeatP s fr p f op mn mx) := by
  unfold repeatP
  split
  · exact within_mk 85 (by decide) hfr hp
  have h1 := behindLazy_fit (f := f) hp hb
  cases hs : signP s (behindLazy s p f) with
  | mk o q =>
    cases o with
    | none => exact h1
    | some x =>
      obtain ⟨o2, a2, b2⟩ := x
      have h2 := signP_some h1.2.1 h1.2.2 hs
      simp only
      split
      · exact within_mk 85 (by decide) (Nat.le_of_lt h2.1) h2.2.1
      · have h3 := behindLazy_fit (f := f) h2.2.1 h2.2.2
        exact within_mk 83 (by decide) (by have := h1.1; have := h2.1; have := h3.1; omega) h3.2.1
theorem quoteP_fit (s : ByteArray) (p : Nat) (hp : p ≤ s.size) (hb : Bd s p) : p ≤ (quoteP s p).2 ∧ (quoteP s p).2 ≤ s.size ∧ Bd s (quoteP s p).2 := by
  unfold quoteP
  split
  · rename_i h
    rcases Lib.index_spec (s.data.toList.drop p) [92, 69] with ⟨h1, _⟩ | ⟨i, h1, h2, h3, _⟩
    · omega
    · rw [h1]
      simp only [Int.toNat_natCast]
      have hst : stands s (p + i) [92, 69] = true := by
        unfold Lib.occAt at h3
        rw [List.drop_drop] at h3
        exact h3
      have := hb.at (by omega) hst 1 69 rfl (by decide)
      exact ⟨by omega, by omega, this.1⟩
  · exact ⟨hp, Nat.le_refl _, Bd.end_ s⟩
end Go.Proofs.YtnhnldmldnhaoaaGreatDoor
