/- The reader of layer 7: what one and item hand back, whatever stands there. -/
import Derived.Test.YtnafemcholkmlaaGreatDoorQBrEsc2
import Derived.Test.YtnafemcholkmlaaGreatDoorQBrItem6
import Derived.Test.YtnafemcholkmlaaGreatDoorQBrNamed2
namespace Go.Proofs.YtnafemcholkmlaaGreatDoor
open Go Go.RowKit Go.Proofs Go.Shelf

/-- What an escape never is. -/
def EscOk : EscR → Prop
  | .lit k _ _ _ => k ≠ 2
  | .wrong e _ _ => e ≠ 0
  | .set _ _ => True
theorem escP_ok (s : ByteArray) (p : Nat) (perl : Bool) : EscOk (escP s p perl) := by
  unfold escP
  split
  · show (1 : Int) ≠ 0; decide
  split
  · show (62 : Int) ≠ 0; decide
  split
  · show (1 : Int) ≠ 2; decide
  split
  · show (1 : Int) ≠ 2; decide
  split
  · unfold escX
    split
    · show (1 : Int) ≠ 2; decide
    · show (61 : Int) ≠ 0; decide
  split
  · unfold escPr
    split
    · show (61 : Int) ≠ 0; decide
    · split
      · show (63 : Int) ≠ 0; decide
      · trivial
  split
  · show (61 : Int) ≠ 0; decide
  unfold escPl
  split
  · show (3 : Int) ≠ 2; decide
  split
  · show (4 : Int) ≠ 2; decide
  split
  · show (61 : Int) ≠ 0; decide
  · trivial
theorem oneP_ok (s : ByteArray) (p : Nat) (perl : Bool) : EscOk (oneP s p perl) := by
  unfold oneP
  split
  · exact escP_ok s p perl
  · show (1 : Int) ≠ 2; decide

theorem one_any (b : Nat) (s : ByteArray) (p : Nat) (fr : Int) (perl : Bool) (w : World) (h : BrR w b s p fr perl) (hT : Tabs w) (hp : p < s.size) (hs : s.size ≤ 140737488355328) :
    Calls Tryz.prog 33 #[.pointer (some ⟨b, 0, none⟩)] w (OneOut w b s fr perl (oneP s p perl)) := by
  unfold oneP
  by_cases hn : stands s p [92] = true
  · rw [if_pos hn]
    have hq := escP_q s p perl (by omega)
    have hk := escP_ok s p perl
    cases he : escP s p perl with
    | wrong x f t => rw [he] at hk; exact one_bad b s p fr perl w h hT hp hs hn x f t hk he
    | lit k r a q =>
      rw [he] at hq
      obtain ⟨Q, rfl, _, _⟩ := hq
      exact one_lit b s p fr perl w h hT hp hs hn k r a Q he
    | set f q =>
      rw [he] at hq
      obtain ⟨Q, rfl, _, _⟩ := hq
      exact one_set b s p fr perl w h hT hp hs hn f Q he
  · rw [if_neg hn]
    exact one_rune b s p fr perl w h hT hp hs (Bool.eq_false_iff.2 hn)

theorem take_while_len {α : Type} (f : α → Bool) (l : List α) : l.take (l.takeWhile f).length = l.takeWhile f := by
  induction l with
  | nil => rfl
  | cons x l ih =>
    by_cases hx : f x = true
    · rw [List.takeWhile_cons_of_pos hx, List.length_cons, List.take_succ_cons, ih]
    · rw [List.takeWhile_cons_of_neg hx]; rfl
theorem item_any (b : Nat) (s : ByteArray) (p : Nat) (fr : Int) (perl : Bool) (w : World) (h : BrR w b s p fr perl) (hT : Tabs w) (h0 : 1 ≠ b) (h1 : 2 ≠ b) (hp : p ≤ s.size) (hs : s.size ≤ 100000000000) :
    Calls Tryz.prog 20 #[.pointer (some ⟨b, 0, none⟩)] w (ItemOut w b s fr perl (itemP s p perl fr)) := by
  have HO : ∀ q, q < s.size → ∀ r, oneP s q perl = r → ∀ W, BrR W b s q fr perl → w.grownBy W (some b) → Calls Tryz.prog 33 #[.pointer (some ⟨b, 0, none⟩)] W (OneOut W b s fr perl r) := fun q hq r hr W hW hG => by
    rw [← hr]; exact one_any b s q fr perl W hW (hT.grown hG h0 h1) hq (by omega)
  unfold itemP
  cases hn : namedP s p with
  | some k =>
    unfold namedP at hn
    by_cases c1 : stands s p [91, 58] = true
    · rw [if_pos c1] at hn
      by_cases c2 : stands s (p + 2 + (runP s (p + 2) nmL).length) [58, 93] = true
      · rw [if_pos c2] at hn
        cases hn
        have hx : (List.drop (p + 2) s.data.toList).take (p + 2 + (runP s (p + 2) nmL).length - (p + 2)) = runP s (p + 2) nmL := by
          rw [Nat.add_sub_cancel_left]; exact take_while_len _ _
        simp only
        rw [hx]
        cases hsp : posSpec (runP s (p + 2) nmL) with
        | none => exact item_nambad b s p fr perl w h hp (by omega) c1 c2 hsp
        | some f => exact item_named b s p fr perl w h hp (by omega) c1 c2 f hsp
      · rw [if_neg c2] at hn; cases hn
    · rw [if_neg c1] at hn; cases hn
  | none =>
    simp only
    by_cases hz : s.size ≤ p
    · rw [if_pos hz]
      exact (item_end b s p fr perl w h (by omega) hn).mono fun _ _ ⟨he, hg⟩ => ⟨hg, he⟩
    rw [if_neg hz]
    have hp' : p < s.size := by omega
    have hq := oneP_q s p perl hp'
    have hk := oneP_ok s p perl
    cases ho : oneP s p perl with
    | wrong x f t => exact item_wrong b s p fr perl w h hp' hn x f t (HO p hp' _ ho)
    | set f q => exact item_set b s p fr perl w h hp' hn f q (HO p hp' _ ho)
    | lit k r a q =>
      rw [ho] at hq hk
      obtain ⟨Q, rfl, hq1, hq2⟩ := hq
      simp only [Int.toNat_natCast]
      by_cases hk1 : k = 1
      · subst hk1
        rw [if_neg (by simp)]
        have HO1 := HO p hp' _ ho
        by_cases hr : rangedP s Q = true
        · rw [if_pos hr]
          unfold rangedP at hr
          simp only [Bool.and_eq_true, decide_eq_true_eq, Bool.not_eq_true'] at hr
          obtain ⟨⟨h45, hl⟩, h93⟩ := hr
          have hq' := oneP_q s (Q + 1) perl hl
          cases ho2 : oneP s (Q + 1) perl with
          | wrong x f t => exact range_wrong b s p fr perl w h hp' hn (by omega) r a Q HO1 hq2 hl h93 h45 x f t (HO (Q + 1) hl _ ho2)
          | set f q2 =>
            rw [ho2] at hq'
            obtain ⟨Q2, rfl, _, _⟩ := hq'
            exact range_set b s p fr perl w h hp' hn (by omega) r a Q HO1 hq2 hl h93 h45 f Q2 Q2 rfl (HO (Q + 1) hl _ ho2)
          | lit k2 r2 a2 q2 =>
            rw [ho2] at hq'
            obtain ⟨Q2, rfl, _, _⟩ := hq'
            simp only [Int.toNat_natCast]
            by_cases hk2 : k2 = 1
            · subst hk2
              by_cases hlt : r2 < r
              · rw [if_pos (.inr hlt)]
                exact range_falls b s p fr perl w h hp' hn (by omega) r a Q HO1 hq2 hl h93 h45 r2 a2 Q2 Q2 rfl hlt (HO (Q + 1) hl _ ho2)
              · rw [if_neg (by simp [hlt])]
                exact range_right b s p fr perl w h hp' hn (by omega) r a Q HO1 hq2 hl h93 h45 r2 a2 Q2 Q2 rfl hlt (HO (Q + 1) hl _ ho2)
            · rw [if_pos (.inl hk2)]
              exact range_kind b s p fr perl w h hp' hn (by omega) r a Q HO1 hq2 hl h93 h45 k2 r2 a2 Q2 Q2 rfl hk2 (HO (Q + 1) hl _ ho2)
        · rw [if_neg hr]
          by_cases hl : s.size ≤ Q + 1
          · exact item_last b s p fr perl w h hp' hn r a Q HO1 hq2 hl
          by_cases h93 : stands s (Q + 1) [93] = true
          · exact item_shut b s p fr perl w h hp' hn r a Q HO1 hq2 (by omega) h93
          · refine item_alone b s p fr perl w h hp' hn r a Q HO1 hq2 (by omega) (Bool.eq_false_iff.2 h93) ?_
            rw [Bool.eq_false_iff]
            intro h45
            exact hr (by unfold rangedP; rw [h45, Bool.eq_false_iff.2 h93, decide_eq_true (show Q + 1 < s.size by omega)]; rfl)
      · rw [if_pos hk1]
        exact item_kind b s p fr perl w h hp' hn k r a Q Q rfl hk1 hk (HO p hp' _ ho)
end Go.Proofs.YtnafemcholkmlaaGreatDoor
