/- martelloref06.Escape, whole. -/
import Derived.Test.YtjmgboegipeijaaGreatDoorRefEsc
namespace Go.Proofs.YtjmgboegipeijaaGreatDoor
open Go Go.RowKit Go.Proofs Go.Shelf

theorem letterI_neg {C : Int} (h : ¬ 0 ≤ letterI C) : letterI C = -1 := by
  unfold letterI at h ⊢
  repeat' split at h
  all_goals first | omega | simp [*]
theorem nextC_nn {s : ByteArray} {p : Nat} (h : p < s.size) : 0 ≤ nextC s p ∧ nextC s p ≤ 1114111 := by
  refine ⟨?_, (nextC_le s p).2⟩
  unfold nextC; rw [if_pos h]; omega
theorem perls_flat (c q : Int) (h0 : 0 ≤ c) (W : World) : Calls Tryz.prog 36 #[.int .i32 c, .int .i64 q] W fun e w' => ∃ k a v q is, e = .returned (perlsT k 0 v a q is) ∧ Below W.heap.size W w' ∧ ∃ sa sn sc, v = .slice sa sn sc := by
  by_cases h1 : placeI c ≠ 0
  · exact (perls_place c q W h1).mono fun e w' h => ⟨_, _, _, _, _, h.1, h.2, _, _, _, rfl⟩
  · have h1' : placeI c = 0 := Decidable.not_not.1 h1
    by_cases h2 : c = 81
    · exact (perls_quote c q W h1' h2).mono fun e w' h => ⟨_, _, _, _, _, h.1, h.2, _, _, _, rfl⟩
    · by_cases h3 : 127 < c
      · exact (perls_high c q W h1' h2 h3).mono fun e w' h => ⟨_, _, _, _, _, h.1, h.2, _, _, _, rfl⟩
      · cases hq : perlSpec c with
        | none => exact (perls_none c q W h1' h2 h0 (by omega) hq).mono fun e w' h => ⟨_, _, _, _, _, h.1, h.2, _, _, _, rfl⟩
        | some f =>
          refine (perls_set c q W h1' h2 h0 (by omega) f hq).mono fun e w' h => ?_
          obtain ⟨v, out, rfl, p1, _, p3, p4⟩ := h
          obtain ⟨sa, sc, rfl, _, _⟩ := p1.ranges (by omega)
          exact ⟨_, _, _, _, _, rfl, p4, _, _, _, rfl⟩

set_option maxHeartbeats 1000000 in
/-- The contract of martelloref06.Escape. -/
theorem ref06_Escape (s : ByteArray) (p : Nat) (b : Bool) (w : World) (hT : Tabs w) (hp : p ≤ s.size) (hs : s.size ≤ 140737488355328) :
    Calls Tryz.prog 12 #[.string s, .int .i64 p, .bool b] w (EscOut w (escP s p b)) := by
  unfold escP
  by_cases h0 : p < s.size
  · by_cases hcx : s[p].toNat = 92
    · have c0 : stands s p [92] = true := (stands_one s p 92).2 ⟨h0, UInt8.toNat_inj.1 hcx⟩
      have hc : ((s[p].toNat : Int) != 92) = false := by rw [hcx]; rfl
      rw [if_neg (fun h => h c0)]
      by_cases h1 : s.size ≤ p + 1
      · rw [if_pos h1]; exact refesc_trail s p b w hs h0 hc (by omega)
      rw [if_neg h1]
      have h1' : p + 1 < s.size := by omega
      obtain ⟨hC0, hC1⟩ := nextC_nn h1'
      obtain ⟨C, hC⟩ : ∃ C, nextC s (p + 1) = C := ⟨_, rfl⟩
      obtain ⟨Q, hQ⟩ : ∃ Q, nextW s (p + 1) = Q := ⟨_, rfl⟩
      rw [hC] at hC0 hC1
      rw [hC, hQ]
      by_cases hsg : signI C = true
      · rw [if_pos hsg]; exact refesc_sign s p b w hs h0 hc h1' hT C Q hC hQ hC0 hC1 hsg
      rw [if_neg hsg]
      have hsgf : signI C = false := Bool.eq_false_iff.2 hsg
      by_cases hl : 0 ≤ letterI C
      · rw [if_pos hl]; exact refesc_letter s p b w hs h0 hc h1' hT C Q hC hQ hC0 hC1 hsgf hl
      rw [if_neg hl]
      have hln := letterI_neg hl
      by_cases hx : C = 120
      · rw [if_pos hx]
        unfold escX
        cases hcd : codeP s Q with
        | none => exact refesc_x_no s p b w hs h0 hc h1' hT C Q hC hQ hC0 hC1 hsgf hln hx hcd
        | some x =>
          obtain ⟨n, r⟩ := x
          exact refesc_x_yes s p b w hs h0 hc h1' hT C Q hC hQ hC0 hC1 hsgf hln hx n r hcd
      rw [if_neg hx]
      by_cases hpp : C = 112 ∨ C = 80
      · rw [if_pos hpp]
        unfold escPr
        rcases hpp with h9 | h9
        · rw [show (C == 80) = false by simp; omega]
          cases hcd : propP s Q with
          | none => exact refesc_p112_no s p b w hs h0 hc h1' hT C Q hC hQ hC0 hC1 hsgf hln h9 hcd
          | some x =>
            obtain ⟨nm, r⟩ := x
            simp only
            cases hpr : propSpec nm.data.toList false with
            | none => exact refesc_p112_unknown s p b w hs h0 hc h1' hT C Q hC hQ hC0 hC1 hsgf hln h9 nm r hcd hpr
            | some f => exact refesc_p112_set s p b w hs h0 hc h1' hT C Q hC hQ hC0 hC1 hsgf hln h9 nm r hcd f hpr
        · rw [show (C == 80) = true by simp; omega]
          cases hcd : propP s Q with
          | none => exact refesc_p80_no s p b w hs h0 hc h1' hT C Q hC hQ hC0 hC1 hsgf hln h9 hcd
          | some x =>
            obtain ⟨nm, r⟩ := x
            simp only
            cases hpr : propSpec nm.data.toList true with
            | none => exact refesc_p80_unknown s p b w hs h0 hc h1' hT C Q hC hQ hC0 hC1 hsgf hln h9 nm r hcd hpr
            | some f => exact refesc_p80_set s p b w hs h0 hc h1' hT C Q hC hQ hC0 hC1 hsgf hln h9 nm r hcd f hpr
      rw [if_neg hpp]
      have hne3 : C ≠ 120 ∧ C ≠ 112 ∧ C ≠ 80 := by omega
      by_cases hb : b = false
      · rw [if_pos hb]
        exact refesc_pl_flat s p b w hs h0 hc h1' hT C Q hC hQ hC0 hC1 hsgf hln hne3 hb (fun W => perls_flat C Q hC0 W)
      rw [if_neg hb]
      have hbt : b = true := by cases b <;> simp_all
      unfold escPl
      by_cases hplx : placeI C ≠ 0
      · rw [if_pos hplx]
        exact refesc_pl_lit s p b w hs h0 hc h1' hT C Q hC hQ hC0 hC1 hsgf hln hne3 hbt 3 (placeI C) (fun W => perls_place C Q W hplx)
      rw [if_neg hplx]
      have hpl : placeI C = 0 := Decidable.not_not.1 hplx
      by_cases h81 : C = 81
      · rw [if_pos h81]
        exact refesc_pl_lit s p b w hs h0 hc h1' hT C Q hC hQ hC0 hC1 hsgf hln hne3 hbt 4 0 (fun W => perls_quote C Q W hpl h81)
      rw [if_neg h81]
      by_cases h127 : 127 < C
      · have hn : perlSpec (min C 127) = none := by rw [show min C 127 = 127 by omega]; rfl
        rw [hn]
        exact refesc_pl_none s p b w hs h0 hc h1' hT C Q hC hQ hC0 hC1 hsgf hln hne3 (fun W => perls_high C Q W hpl h81 h127)
      rw [show min C 127 = C by omega]
      cases hps : perlSpec C with
      | none => exact refesc_pl_none s p b w hs h0 hc h1' hT C Q hC hQ hC0 hC1 hsgf hln hne3 (fun W => perls_none C Q W hpl h81 hC0 (by omega) hps)
      | some f => exact refesc_pl_set s p b w hs h0 hc h1' hT C Q hC hQ hC0 hC1 hsgf hln hne3 hbt f (fun W => perls_set C Q W hpl h81 hC0 (by omega) f hps)
    · rw [if_pos (fun h => hcx (by obtain ⟨_, h2⟩ := (stands_one s p 92).1 h; rw [h2]; rfl))]
      exact refesc_nob s p b w hs h0 (by simp; omega)
  · rw [if_pos (stands_one_no s p 92 (by omega))]
    exact refesc_end s p b w hs (by omega)
end Go.Proofs.YtjmgboegipeijaaGreatDoor
