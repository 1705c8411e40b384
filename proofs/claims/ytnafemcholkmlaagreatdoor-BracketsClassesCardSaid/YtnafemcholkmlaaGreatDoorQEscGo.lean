/- scan.Escape, whole. -/
import Derived.Test.YtnafemcholkmlaaGreatDoorQEscSpec
import Derived.Test.YtnafemcholkmlaaGreatDoorQEscape1
import Derived.Test.YtnafemcholkmlaaGreatDoorQEscape3
import Derived.Test.YtnafemcholkmlaaGreatDoorQEscS
namespace Go.Proofs.YtnafemcholkmlaaGreatDoor
open Go Go.RowKit Go.Proofs Go.Shelf

theorem code_yes (s : ByteArray) (q : Nat) (n : Int) (r : Nat) (h : codeP s q = some (n, r)) (hq : q ≤ s.size) (hs : s.size ≤ 140737488355328) (b : Nat) (rest : List Value) (t : TypeId) (W : World) (hR : Rd W b s q rest t) :
    Calls Tryz.prog 78 #[.pointer (some ⟨b, 0, none⟩)] W fun e w' => e = .returned (.tuple #[.int .i32 n, .bool true]) ∧ Rd w' b s r rest t ∧ W.grownBy w' (some b) := by
  unfold codeP at h
  by_cases c1 : stands s q [123] = true
  · rw [if_pos c1] at h
    by_cases h2 : (bracedN s q).2.1 = true
    · rw [if_pos h2] at h
      cases h
      refine (esc_code_braced b s q rest t W hR hq hs c1).mono fun e w' hh => ?_
      rw [h2] at hh; exact hh
    · rw [if_neg h2] at h; cases h
  · rw [if_neg c1] at h
    by_cases h3 : q + 1 < s.size
    · rw [drop_two s q h3] at h
      simp only at h
      by_cases h4 : hexs.contains s[q] = true ∧ hexs.contains s[q + 1] = true
      · rw [if_pos h4] at h
        cases h
        refine (esc_code_two b s q s[q] s[q + 1] _ rest t W hR (by omega) hs (Bool.eq_false_iff.2 c1) (drop_two s q h3)).mono fun e w' hh => ?_
        exact ⟨(hh.1 h4).1, (hh.1 h4).2, hh.2.2⟩
      · rw [if_neg h4] at h; cases h
    · split at h
      · rename_i heq; exact absurd heq (drop_short s q (by omega) _ _ _)
      · cases h
theorem code_no (s : ByteArray) (q : Nat) (h : codeP s q = none) (hq : q ≤ s.size) (hs : s.size ≤ 140737488355328) : ∃ (n : Int) (r : Nat), ∀ (b : Nat) (rest : List Value) (t : TypeId) (W : World), Rd W b s q rest t →
    Calls Tryz.prog 78 #[.pointer (some ⟨b, 0, none⟩)] W fun e w' => e = .returned (.tuple #[.int .i32 n, .bool false]) ∧ Rd w' b s r rest t ∧ W.grownBy w' (some b) := by
  unfold codeP at h
  by_cases c1 : stands s q [123] = true
  · rw [if_pos c1] at h
    by_cases h2 : (bracedN s q).2.1 = true
    · rw [if_pos h2] at h; cases h
    · refine ⟨(bracedN s q).1, (bracedN s q).2.2, fun b rest t W hR => (esc_code_braced b s q rest t W hR hq hs c1).mono fun e w' hh => ?_⟩
      rw [Bool.eq_false_iff.2 h2] at hh; exact hh
  · rw [if_neg c1] at h
    by_cases h3 : q + 1 < s.size
    · rw [drop_two s q h3] at h
      simp only at h
      by_cases h4 : hexs.contains s[q] = true ∧ hexs.contains s[q + 1] = true
      · rw [if_pos h4] at h; cases h
      · refine ⟨0, q, fun b rest t W hR => (esc_code_two b s q s[q] s[q + 1] _ rest t W hR (by omega) hs (Bool.eq_false_iff.2 c1) (drop_two s q h3)).mono fun e w' hh => ?_⟩
        exact ⟨(hh.2.1 h4).1, (hh.2.1 h4).2, hh.2.2⟩
    · exact ⟨0, q, fun b rest t W hR => esc_code_short b s q rest t W hR hq (Bool.eq_false_iff.2 c1) (by omega)⟩
theorem name_yes (s : ByteArray) (q : Nat) (nm : ByteArray) (r : Nat) (h : propP s q = some (nm, r)) (hq : q ≤ s.size) (hs : s.size ≤ 140737488355328) (b : Nat) (rest : List Value) (t : TypeId) (hb : 1 ≠ b ∧ 2 ≠ b) (W : World) (hR : Rd W b s q rest t) (hT : Tabs W) :
    Calls Tryz.prog 79 #[.pointer (some ⟨b, 0, none⟩)] W fun e w' => e = .returned (.tuple #[.string nm, .bool true]) ∧ Rd w' b s r rest t ∧ W.grownBy w' (some b) := by
  unfold propP at h
  by_cases c1 : stands s q [123] = true
  · rw [if_pos c1] at h
    by_cases h2 : 0 ≤ Lib.indexByte (s.data.toList.drop (q + 1)) 125
    · rw [if_pos h2] at h
      cases h
      exact esc_name_yes b s q _ rest t W hR hq hs c1 (by omega)
    · rw [if_neg h2] at h; cases h
  · rw [if_neg c1] at h
    by_cases h3 : q < s.size
    · rw [if_pos h3] at h
      cases h
      refine (esc_name_rune b s q rest t W hR hT hb hq hs (Bool.eq_false_iff.2 c1)).mono fun e w' hh => ?_
      rw [decide_eq_true (show 0 ≤ nextC s q by unfold nextC; rw [if_pos h3]; omega)] at hh
      exact hh
    · rw [if_neg h3] at h; cases h
theorem name_no (s : ByteArray) (q : Nat) (h : propP s q = none) (hq : q ≤ s.size) (hs : s.size ≤ 140737488355328) : ∃ (nm : ByteArray) (r : Nat), ∀ (b : Nat) (rest : List Value) (t : TypeId) (_ : 1 ≠ b ∧ 2 ≠ b) (W : World), Rd W b s q rest t → Tabs W →
    Calls Tryz.prog 79 #[.pointer (some ⟨b, 0, none⟩)] W fun e w' => e = .returned (.tuple #[.string nm, .bool false]) ∧ Rd w' b s r rest t ∧ W.grownBy w' (some b) := by
  unfold propP at h
  by_cases c1 : stands s q [123] = true
  · rw [if_pos c1] at h
    by_cases h2 : 0 ≤ Lib.indexByte (s.data.toList.drop (q + 1)) 125
    · rw [if_pos h2] at h; cases h
    · have h9 := Lib.indexByte_ge (s.data.toList.drop (q + 1)) 125
      exact ⟨_, _, fun b rest t hb W hR hT => esc_name_no b s q rest t W hR hq hs c1 (by omega)⟩
  · rw [if_neg c1] at h
    by_cases h3 : q < s.size
    · rw [if_pos h3] at h; cases h
    · refine ⟨s.extract q (nextW s q), nextW s q, fun b rest t hb W hR hT => (esc_name_rune b s q rest t W hR hT hb hq hs (Bool.eq_false_iff.2 c1)).mono fun e w' hh => ?_⟩
      rw [decide_eq_false (show ¬ 0 ≤ nextC s q by unfold nextC; rw [if_neg h3]; omega)] at hh
      exact hh
theorem byte_of {s : ByteArray} {p : Nat} {C : Int} (hC : nextC s p = C) (h0 : 0 ≤ C) (h1 : C < 128) : ∃ x : UInt8, s.data.toList[p]? = some x ∧ (x.toNat : Int) = C ∧ nextW s p = p + 1 := by
  obtain ⟨h, e1, e2, _⟩ := nextC_small s p (by omega) (by omega)
  exact ⟨s[p], getElem_toList s p h, by omega, e2⟩
theorem byte_lit {s : ByteArray} {p : Nat} {C : Int} (k : UInt8) (hC : nextC s p = C) (hk : C = k.toNat) (h1 : k.toNat < 128) : s.data.toList[p]? = some k ∧ nextW s p = p + 1 := by
  obtain ⟨x, h, e1, e2⟩ := byte_of hC (by omega) (by omega)
  refine ⟨?_, e2⟩
  rw [h]
  exact congrArg some (UInt8.toNat_inj.1 (by omega))

theorem letterI_cases {C : Int} (h : 0 ≤ letterI C) : C = 97 ∨ C = 102 ∨ C = 110 ∨ C = 114 ∨ C = 116 ∨ C = 118 := by
  unfold letterI at h
  repeat' split at h
  all_goals omega
theorem letterI_not {C : Int} (h : ¬ 0 ≤ letterI C) : C ≠ 97 ∧ C ≠ 102 ∧ C ≠ 110 ∧ C ≠ 114 ∧ C ≠ 116 ∧ C ≠ 118 := by
  refine ⟨?_, ?_, ?_, ?_, ?_, ?_⟩ <;> (intro e; subst e; exact h (by decide))
theorem placeI_cases {C : Int} (h : placeI C ≠ 0) : C = 65 ∨ C = 122 ∨ C = 98 ∨ C = 66 := by
  unfold placeI at h
  repeat' split at h
  all_goals first | omega | exact absurd rfl h
theorem placeI_not {C : Int} (h : placeI C = 0) : C ≠ 65 ∧ C ≠ 122 ∧ C ≠ 98 ∧ C ≠ 66 := by
  refine ⟨?_, ?_, ?_, ?_⟩ <;> (intro e; subst e; exact absurd h (by decide))
theorem signI_not {C : Int} (h : ¬ signI C = true) (_ : 0 ≤ C) : C ≤ 32 ∨ 127 ≤ C ∨ (48 ≤ C ∧ C ≤ 57) ∨ (97 ≤ C ∧ C ≤ 122) ∨ (65 ≤ C ∧ C ≤ 90) := by
  unfold signI at h
  simp only [decide_eq_true_eq] at h
  omega
theorem perlSpec_some {C : Int} {f : Int → Bool} (h : perlSpec (min C 127) = some f) : (97 ≤ C ∧ C ≤ 122) ∨ (65 ≤ C ∧ C ≤ 90) := by
  unfold perlSpec perlL at h
  by_cases h1 : min C 127 = 100 ∨ min C 127 = 68
  · omega
  · rw [if_neg h1] at h
    by_cases h2 : min C 127 = 115 ∨ min C 127 = 83
    · omega
    · rw [if_neg h2] at h
      by_cases h3 : min C 127 = 119 ∨ min C 127 = 87
      · omega
      · rw [if_neg h3] at h; cases h

set_option maxHeartbeats 1000000 in
/-- The contract of scan.Escape. -/
theorem scan_Escape (s : ByteArray) (p : Nat) (b : Bool) (w : World) (hT : Tabs w) (hp : p ≤ s.size) (hs : s.size ≤ 140737488355328) :
    Calls Tryz.prog 51 #[.string s, .int .i64 p, .bool b] w (EscOut w (escP s p b)) := by
  unfold escP
  by_cases c0n : ¬ stands s p [92] = true
  · rw [if_pos c0n]; exact escape_nob s p b w hs hp (Bool.eq_false_iff.2 c0n)
  rw [if_neg c0n]
  have c0 : stands s p [92] = true := Decidable.not_not.1 c0n
  have hle := stands_le (p := ⟨#[92]⟩) hp c0
  have hle' : p + 1 ≤ s.size := hle
  by_cases h1 : s.size ≤ p + 1
  · rw [if_pos h1]; exact escape_trail s p b w hs hT (by omega) c0
  rw [if_neg h1]
  have hp2 : p + 2 ≤ s.size := by omega
  have hC0 : 0 ≤ nextC s (p + 1) := by unfold nextC; rw [if_pos (by omega)]; omega
  obtain ⟨C, hC⟩ : ∃ C, nextC s (p + 1) = C := ⟨_, rfl⟩
  obtain ⟨Q, hQ⟩ : ∃ Q, nextW s (p + 1) = Q := ⟨_, rfl⟩
  have hQs : Q ≤ s.size := by rw [← hQ]; exact nextW_le s (p + 1) hle'
  rw [hC] at hC0
  rw [hC, hQ]
  have hb : 1 ≠ w.heap.size + 1 + 1 ∧ 2 ≠ w.heap.size + 1 + 1 := by have := hT.lt; omega
  by_cases hsg : signI C = true
  · rw [if_pos hsg]
    have hsg' := hsg
    unfold signI at hsg'
    simp only [decide_eq_true_eq] at hsg'
    obtain ⟨x, e1, e2, e3⟩ := byte_of hC hC0 (by omega)
    rw [hQ] at e3
    subst e3
    rw [← e2]
    exact escape_sign s p b x w hs hp2 c0 e1 (by unfold isSign; omega)
  rw [if_neg hsg]
  by_cases hl : 0 ≤ letterI C
  · rw [if_pos hl]
    rcases letterI_cases hl with rfl | rfl | rfl | rfl | rfl | rfl
    · obtain ⟨e1, e3⟩ := byte_lit 97 hC rfl (by decide); rw [hQ] at e3; subst e3; exact escape_let97 s p b w hs hp2 c0 e1
    · obtain ⟨e1, e3⟩ := byte_lit 102 hC rfl (by decide); rw [hQ] at e3; subst e3; exact escape_let102 s p b w hs hp2 c0 e1
    · obtain ⟨e1, e3⟩ := byte_lit 110 hC rfl (by decide); rw [hQ] at e3; subst e3; exact escape_let110 s p b w hs hp2 c0 e1
    · obtain ⟨e1, e3⟩ := byte_lit 114 hC rfl (by decide); rw [hQ] at e3; subst e3; exact escape_let114 s p b w hs hp2 c0 e1
    · obtain ⟨e1, e3⟩ := byte_lit 116 hC rfl (by decide); rw [hQ] at e3; subst e3; exact escape_let116 s p b w hs hp2 c0 e1
    · obtain ⟨e1, e3⟩ := byte_lit 118 hC rfl (by decide); rw [hQ] at e3; subst e3; exact escape_let118 s p b w hs hp2 c0 e1
  rw [if_neg hl]
  have hln := letterI_not hl
  by_cases hx : C = 120
  · rw [if_pos hx]
    subst hx
    obtain ⟨e1, e3⟩ := byte_lit 120 hC rfl (by decide)
    rw [hQ] at e3; subst e3
    unfold escX
    cases hcd : codeP s (p + 1 + 1) with
    | none =>
      obtain ⟨n, r, hc⟩ := code_no s _ hcd hQs hs
      exact escape_x_no s p b w hs hp2 c0 e1 n r (fun W hR => hc _ _ _ W hR)
    | some x =>
      obtain ⟨n, r⟩ := x
      exact escape_x_yes s p b w hs hp2 c0 e1 n r (fun W hR => code_yes s _ n r hcd hQs hs _ _ _ W hR)
  rw [if_neg hx]
  by_cases hpp : C = 112 ∨ C = 80
  · rw [if_pos hpp]
    unfold escPr
    rcases hpp with rfl | rfl
    · obtain ⟨e1, e3⟩ := byte_lit 112 hC rfl (by decide)
      rw [hQ] at e3; subst e3
      rw [show ((112 : Int) == 80) = false from rfl]
      cases hcd : propP s (p + 1 + 1) with
      | none =>
        obtain ⟨n, r, hc⟩ := name_no s _ hcd hQs hs
        exact escape_p112_no s p b w hs hT hp2 c0 e1 n r (fun W hR hT => hc _ _ _ hb W hR hT)
      | some x =>
        obtain ⟨nm, r⟩ := x
        simp only
        cases hpr : propSpec nm.data.toList false with
        | none => exact escape_p112_unknown s p b w hs hT hp2 c0 e1 nm r (fun W hR hT => name_yes s _ nm r hcd hQs hs _ _ _ hb W hR hT) hpr
        | some f => exact escape_p112_set s p b w hs hT hp2 c0 e1 nm r (fun W hR hT => name_yes s _ nm r hcd hQs hs _ _ _ hb W hR hT) f hpr
    · obtain ⟨e1, e3⟩ := byte_lit 80 hC rfl (by decide)
      rw [hQ] at e3; subst e3
      rw [show ((80 : Int) == 80) = true from rfl]
      cases hcd : propP s (p + 1 + 1) with
      | none =>
        obtain ⟨n, r, hc⟩ := name_no s _ hcd hQs hs
        exact escape_p80_no s p b w hs hT hp2 c0 e1 n r (fun W hR hT => hc _ _ _ hb W hR hT)
      | some x =>
        obtain ⟨nm, r⟩ := x
        simp only
        cases hpr : propSpec nm.data.toList true with
        | none => exact escape_p80_unknown s p b w hs hT hp2 c0 e1 nm r (fun W hR hT => name_yes s _ nm r hcd hQs hs _ _ _ hb W hR hT) hpr
        | some f => exact escape_p80_set s p b w hs hT hp2 c0 e1 nm r (fun W hR hT => name_yes s _ nm r hcd hQs hs _ _ _ hb W hR hT) f hpr
  rw [if_neg hpp]
  have hne3 : C ≠ 120 ∧ C ≠ 112 ∧ C ≠ 80 := by omega
  have hrg := signI_not hsg hC0
  cases b with
  | false =>
    rw [if_pos rfl]
    rcases hrg with hr | hr | hr | hr | hr
    · exact escape_flat0 s p w hs hT hp2 c0 C Q hC hQ hC0 hr hln hne3
    · exact escape_flat1 s p w hs hT hp2 c0 C Q hC hQ hC0 hr hln hne3
    · exact escape_flat2 s p w hs hT hp2 c0 C Q hC hQ hC0 hr hln hne3
    · exact escape_flat3 s p w hs hT hp2 c0 C Q hC hQ hC0 hr hln hne3
    · exact escape_flat4 s p w hs hT hp2 c0 C Q hC hQ hC0 hr hln hne3
  | true =>
    rw [if_neg (by decide)]
    unfold escPl
    by_cases hplx : placeI C ≠ 0
    · rw [if_pos hplx]
      rcases placeI_cases hplx with rfl | rfl | rfl | rfl
      · obtain ⟨e1, e3⟩ := byte_lit 65 hC rfl (by decide); rw [hQ] at e3; subst e3; exact escape_at65 s p w hs hp2 c0 e1
      · obtain ⟨e1, e3⟩ := byte_lit 122 hC rfl (by decide); rw [hQ] at e3; subst e3; exact escape_at122 s p w hs hp2 c0 e1
      · obtain ⟨e1, e3⟩ := byte_lit 98 hC rfl (by decide); rw [hQ] at e3; subst e3; exact escape_at98 s p w hs hp2 c0 e1
      · obtain ⟨e1, e3⟩ := byte_lit 66 hC rfl (by decide); rw [hQ] at e3; subst e3; exact escape_at66 s p w hs hp2 c0 e1
    rw [if_neg hplx]
    have hpl : placeI C = 0 := Decidable.not_not.1 hplx
    have hpn := placeI_not hpl
    by_cases h81 : C = 81
    · rw [if_pos h81]
      subst h81
      obtain ⟨e1, e3⟩ := byte_lit 81 hC rfl (by decide); rw [hQ] at e3; subst e3; exact escape_at81 s p w hs hp2 c0 e1
    rw [if_neg h81]
    have hne8 : C ≠ 120 ∧ C ≠ 112 ∧ C ≠ 80 ∧ C ≠ 65 ∧ C ≠ 122 ∧ C ≠ 98 ∧ C ≠ 66 ∧ C ≠ 81 := by omega
    cases hps : perlSpec (min C 127) with
    | none =>
      rcases hrg with hr | hr | hr | hr | hr
      · exact escape_pnone0 s p w hs hT hp2 c0 C Q hC hQ hC0 hr hln hne8 hps
      · exact escape_pnone1 s p w hs hT hp2 c0 C Q hC hQ hC0 hr hln hne8 hps
      · exact escape_pnone2 s p w hs hT hp2 c0 C Q hC hQ hC0 hr hln hne8 hps
      · exact escape_pnone3 s p w hs hT hp2 c0 C Q hC hQ hC0 hr hln hne8 hps
      · exact escape_pnone4 s p w hs hT hp2 c0 C Q hC hQ hC0 hr hln hne8 hps
    | some f =>
      rcases perlSpec_some hps with hr | hr
      · exact escape_pset3 s p w hs hT hp2 c0 C Q hC hQ hC0 hr hln hne8 f hps
      · exact escape_pset4 s p w hs hT hp2 c0 C Q hC hQ hC0 hr hln hne8 f hps
end Go.Proofs.YtnafemcholkmlaaGreatDoor
