/- The document's counted repeat. -/
import Derived.Test.YtjmgboegipeijaaGreatDoorCount
namespace Go.Proofs.YtjmgboegipeijaaGreatDoor
open Go Go.RowKit Go.Proofs

theorem stands_one (s : ByteArray) (i : Nat) (c : UInt8) : stands s i [c] = true ↔ ∃ h : i < s.size, s[i] = c := by
  unfold stands Lib.hasPrefix
  rw [List.isPrefixOf_iff_prefix]
  constructor
  · intro h
    have h1 := h.length_le
    simp at h1
    refine ⟨by omega, ?_⟩
    have h2 := h.getElem (i := 0) (by simp)
    simp only [List.getElem_cons_zero, List.getElem_drop, Nat.add_zero] at h2
    have h3 := getElem_toList s i (by omega)
    exact Option.some.inj (h3.symm.trans ((List.getElem?_eq_getElem (by simp; omega)).trans (congrArg some h2.symm)))
  · rintro ⟨h, rfl⟩
    refine ⟨(s.data.toList.drop (i + 1)), ?_⟩
    have h3 := getElem_toList s i h
    rw [List.getElem?_eq_getElem (by simpa using h)] at h3
    rw [← Option.some.inj h3, List.singleton_append, ← List.drop_eq_getElem_cons]
theorem stands_two (s : ByteArray) (i : Nat) (c d : UInt8) : stands s i [c, d] = true ↔ ∃ h : i + 1 < s.size, s[i] = c ∧ s[i + 1] = d := by
  unfold stands Lib.hasPrefix
  rw [List.isPrefixOf_iff_prefix]
  constructor
  · intro h
    have h1 := h.length_le
    simp at h1
    refine ⟨by omega, ?_, ?_⟩
    · have h2 := h.getElem (i := 0) (by simp)
      simp only [List.getElem_cons_zero, List.getElem_drop, Nat.add_zero] at h2
      have h3 := getElem_toList s i (by omega)
      exact Option.some.inj (h3.symm.trans ((List.getElem?_eq_getElem (by simp; omega)).trans (congrArg some h2.symm)))
    · have h2 := h.getElem (i := 1) (by simp)
      simp only [List.getElem_cons_succ, List.getElem_cons_zero, List.getElem_drop] at h2
      have h3 := getElem_toList s (i + 1) (by omega)
      exact Option.some.inj (h3.symm.trans ((List.getElem?_eq_getElem (by simp; omega)).trans (congrArg some h2.symm)))
  · rintro ⟨h, rfl, rfl⟩
    refine ⟨(s.data.toList.drop (i + 2)), ?_⟩
    have h3 := getElem_toList s i (by omega)
    rw [List.getElem?_eq_getElem (by simp; omega)] at h3
    have h4 := getElem_toList s (i + 1) (by omega)
    rw [List.getElem?_eq_getElem (by simp; omega)] at h4
    rw [← Option.some.inj h3, ← Option.some.inj h4, List.cons_append, List.singleton_append, ← List.drop_eq_getElem_cons, ← List.drop_eq_getElem_cons]
theorem stands_one_no (s : ByteArray) (i : Nat) (c : UInt8) (h : s.size ≤ i) : ¬ stands s i [c] = true := by
  rw [stands_one]; rintro ⟨h', _⟩; omega
theorem u8_ne {a b : UInt8} (h : ¬ a = b) : ¬ a.toNat = b.toNat := fun e => h (UInt8.toNat_inj.1 e)

set_option maxHeartbeats 1000000 in
theorem ref06_Count (s : ByteArray) (p : Nat) (w : World) (hp : p ≤ s.size) (hs : s.size ≤ 140737488355328) :
    Calls Tryz.prog 15 #[.string s, .int .i64 p] w fun e w' => e = .returned (countV (countP s p)) ∧ w = w' := by
  by_cases h0 : p < s.size
  · by_cases c1 : s[p] = 123
    · have C1 := Lib.hid ((stands_one s p 123).2 ⟨h0, c1⟩)
      have e1 : s[p].toNat = 123 := by rw [c1]; rfl
      clear c1
      have l2 := runP_le_size s (p + 1) digs h0
      go_enter Tryz.func15, Tryz.ntmps15
      go_wp2_with fail
      refine (ref06_digits s (p + 1) _ h0 hs).mono ?_
      rintro e w1 ⟨rfl, rfl⟩
      by_cases c2 : runP s (p + 1) digs = []
      · have HF := Lib.hid (show countP s p = none by unfold countP; rw [if_pos C1.out, if_pos c2])
        rw [c2]
        go_wp2_with fail
        refine bodyPost_ret (v := .tuple #[.int .i64 0, .int .i64 0, .int .i64 0, .bool false]) (by simp [results, Tryz.results15, go_sem]) rfl ⟨?_, rfl⟩
        rw [HF.out]; rfl
      · have e2 : decide (0 < (runP s (p + 1) digs).length) = true := decide_eq_true (List.length_pos_iff.2 c2)
        rw [e2]
        by_cases h3 : p + 1 + (runP s (p + 1) digs).length < s.size
        · by_cases d1 : s[p + 1 + (runP s (p + 1) digs).length] = 125
          · have HF := Lib.hid (show countP s p = _ by unfold countP; rw [if_pos C1.out, if_neg c2, if_pos ((stands_one s _ 125).2 ⟨h3, d1⟩)])
            have f1 : s[p + 1 + (runP s (p + 1) digs).length].toNat = 125 := by rw [d1]; rfl
            clear d1
            go_wp2_with fail
            refine bodyPost_ret (v := .tuple #[.int .i64 (numP 10 1000 0 (runP s (p + 1) digs)), .int .i64 (numP 10 1000 0 (runP s (p + 1) digs)), .int .i64 (p + 1 + (runP s (p + 1) digs).length + 1), .bool true]) (by simp [results, Tryz.results15, go_sem]) rfl ⟨?_, rfl⟩
            rw [HF.out]; rfl
          · have n1 : ¬ stands s (p + 1 + (runP s (p + 1) digs).length) [125] = true := fun h => by obtain ⟨_, h⟩ := (stands_one s _ 125).1 h; exact d1 h
            have f1 : ¬ s[p + 1 + (runP s (p + 1) digs).length].toNat = 125 := u8_ne d1
            clear d1
            by_cases d2 : s[p + 1 + (runP s (p + 1) digs).length] = 44
            · have f2 : s[p + 1 + (runP s (p + 1) digs).length].toNat = 44 := by rw [d2]; rfl
              by_cases h4 : p + 1 + (runP s (p + 1) digs).length + 1 < s.size
              · by_cases d3 : s[p + 1 + (runP s (p + 1) digs).length + 1] = 125
                · have HF := Lib.hid (show countP s p = _ by unfold countP; rw [if_pos C1.out, if_neg c2, if_neg n1, if_pos ((stands_two s _ 44 125).2 ⟨h4, d2, d3⟩)])
                  have f3 : s[p + 1 + (runP s (p + 1) digs).length + 1].toNat = 125 := by rw [d3]; rfl
                  clear d2 d3 n1 f1
                  go_wp2_with fail
                  refine bodyPost_ret (v := .tuple #[.int .i64 (numP 10 1000 0 (runP s (p + 1) digs)), .int .i64 (-1), .int .i64 (p + 1 + (runP s (p + 1) digs).length + 2), .bool true]) (by simp [results, Tryz.results15, go_sem]) rfl ⟨?_, rfl⟩
                  rw [HF.out]; rfl
                · have n3 : ¬ stands s (p + 1 + (runP s (p + 1) digs).length) [44, 125] = true := fun h => by obtain ⟨_, _, h⟩ := (stands_two s _ 44 125).1 h; exact d3 h
                  have y4 : stands s (p + 1 + (runP s (p + 1) digs).length) [44] = true := (stands_one s _ 44).2 ⟨h3, d2⟩
                  have f3 : ¬ s[p + 1 + (runP s (p + 1) digs).length + 1].toNat = 125 := u8_ne d3
                  have N := Lib.hid (And.intro n1 (And.intro n3 y4))
                  clear d2 d3 n1 n3 y4 f1
                  have l7 := runP_le_size s (p + 1 + (runP s (p + 1) digs).length + 1) digs (by omega)
                  go_wp2_with fail
                  refine (ref06_digits s (p + 1 + (runP s (p + 1) digs).length + 1) _ (by omega) hs).mono ?_
                  rintro e w1 ⟨rfl, rfl⟩
                  by_cases c6 : runP s (p + 1 + (runP s (p + 1) digs).length + 1) digs = []
                  · have HF := Lib.hid (show countP s p = none by unfold countP; rw [if_pos C1.out, if_neg c2, if_neg N.out.1, if_neg N.out.2.1, if_pos N.out.2.2, if_pos c6])
                    rw [c6]
                    go_wp2_with fail
                    refine bodyPost_ret (v := .tuple #[.int .i64 0, .int .i64 0, .int .i64 0, .bool false]) (by simp [results, Tryz.results15, go_sem]) rfl ⟨?_, rfl⟩
                    rw [HF.out]; rfl
                  · have e6 : decide (0 < (runP s (p + 1 + (runP s (p + 1) digs).length + 1) digs).length) = true := decide_eq_true (List.length_pos_iff.2 c6)
                    rw [e6]
                    by_cases h5 : p + 1 + (runP s (p + 1) digs).length + 1 + (runP s (p + 1 + (runP s (p + 1) digs).length + 1) digs).length < s.size
                    · by_cases d5 : s[p + 1 + (runP s (p + 1) digs).length + 1 + (runP s (p + 1 + (runP s (p + 1) digs).length + 1) digs).length] = 125
                      · have HF := Lib.hid (show countP s p = _ by unfold countP; rw [if_pos C1.out, if_neg c2, if_neg N.out.1, if_neg N.out.2.1, if_pos N.out.2.2, if_neg c6, if_pos ((stands_one s _ 125).2 ⟨h5, d5⟩)])
                        have f5 : s[p + 1 + (runP s (p + 1) digs).length + 1 + (runP s (p + 1 + (runP s (p + 1) digs).length + 1) digs).length].toNat = 125 := by rw [d5]; rfl
                        clear d5
                        go_wp2_with fail
                        refine bodyPost_ret (v := .tuple #[.int .i64 (numP 10 1000 0 (runP s (p + 1) digs)), .int .i64 (numP 10 1000 0 (runP s (p + 1 + (runP s (p + 1) digs).length + 1) digs)), .int .i64 (p + 1 + (runP s (p + 1) digs).length + 1 + (runP s (p + 1 + (runP s (p + 1) digs).length + 1) digs).length + 1), .bool true]) (by simp [results, Tryz.results15, go_sem]) rfl ⟨?_, rfl⟩
                        rw [HF.out]; rfl
                      · have HF := Lib.hid (show countP s p = none by unfold countP; rw [if_pos C1.out, if_neg c2, if_neg N.out.1, if_neg N.out.2.1, if_pos N.out.2.2, if_neg c6, if_neg (fun h => by obtain ⟨_, h⟩ := (stands_one s _ 125).1 h; exact d5 h)])
                        have f5 : ((s[p + 1 + (runP s (p + 1) digs).length + 1 + (runP s (p + 1 + (runP s (p + 1) digs).length + 1) digs).length].toNat : Int) != 125) = true := by have := u8_ne d5; rw [bne_iff_ne]; simp at this; omega
                        clear d5
                        go_wp2_with fail
                        refine bodyPost_ret (v := .tuple #[.int .i64 0, .int .i64 0, .int .i64 0, .bool false]) (by simp [results, Tryz.results15, go_sem]) rfl ⟨?_, rfl⟩
                        rw [HF.out]; rfl
                    · have HF := Lib.hid (show countP s p = none by unfold countP; rw [if_pos C1.out, if_neg c2, if_neg N.out.1, if_neg N.out.2.1, if_pos N.out.2.2, if_neg c6, if_neg (stands_one_no s _ 125 (by omega))])
                      go_wp2_with fail
                      refine bodyPost_ret (v := .tuple #[.int .i64 0, .int .i64 0, .int .i64 0, .bool false]) (by simp [results, Tryz.results15, go_sem]) rfl ⟨?_, rfl⟩
                      rw [HF.out]; rfl
              · have HF := Lib.hid (show countP s p = none by
                  have n3 : ¬ stands s (p + 1 + (runP s (p + 1) digs).length) [44, 125] = true := fun h => by obtain ⟨h, _, _⟩ := (stands_two s _ 44 125).1 h; omega
                  have e0 : runP s (p + 1 + (runP s (p + 1) digs).length + 1) digs = [] := List.length_eq_zero_iff.1 (by have := runP_le s (p + 1 + (runP s (p + 1) digs).length + 1) digs; omega)
                  unfold countP; rw [if_pos C1.out, if_neg c2, if_neg n1, if_neg n3, if_pos ((stands_one s _ 44).2 ⟨h3, d2⟩), if_pos e0])
                clear d2 n1 f1
                go_wp2_with fail
                refine bodyPost_ret (v := .tuple #[.int .i64 0, .int .i64 0, .int .i64 0, .bool false]) (by simp [results, Tryz.results15, go_sem]) rfl ⟨?_, rfl⟩
                rw [HF.out]; rfl
            · have HF := Lib.hid (show countP s p = none by
                have n4 : ¬ stands s (p + 1 + (runP s (p + 1) digs).length) [44] = true := fun h => by obtain ⟨_, h⟩ := (stands_one s _ 44).1 h; exact d2 h
                have n3 : ¬ stands s (p + 1 + (runP s (p + 1) digs).length) [44, 125] = true := fun h => by obtain ⟨_, h, _⟩ := (stands_two s _ 44 125).1 h; exact d2 h
                unfold countP; rw [if_pos C1.out, if_neg c2, if_neg n1, if_neg n3, if_neg n4])
              have f2 : ¬ s[p + 1 + (runP s (p + 1) digs).length].toNat = 44 := u8_ne d2
              clear d2 n1
              go_wp2_with fail
              refine bodyPost_ret (v := .tuple #[.int .i64 0, .int .i64 0, .int .i64 0, .bool false]) (by simp [results, Tryz.results15, go_sem]) rfl ⟨?_, rfl⟩
              rw [HF.out]; rfl
        · have HF := Lib.hid (show countP s p = none by
            have n1 := stands_one_no s (p + 1 + (runP s (p + 1) digs).length) 125 (by omega)
            have n2 := stands_one_no s (p + 1 + (runP s (p + 1) digs).length) 44 (by omega)
            have n3 : ¬ stands s (p + 1 + (runP s (p + 1) digs).length) [44, 125] = true := by rw [stands_two]; rintro ⟨h', _⟩; omega
            unfold countP; rw [if_pos C1.out, if_neg c2, if_neg n1, if_neg n3, if_neg n2])
          go_wp2_with fail
          refine bodyPost_ret (v := .tuple #[.int .i64 0, .int .i64 0, .int .i64 0, .bool false]) (by simp [results, Tryz.results15, go_sem]) rfl ⟨?_, rfl⟩
          rw [HF.out]; rfl
    · have HF := Lib.hid (show countP s p = none by unfold countP; rw [if_neg (fun h => by obtain ⟨_, h⟩ := (stands_one s p 123).1 h; exact c1 h)])
      have n1 : ((s[p].toNat : Int) != 123) = true := by have := u8_ne c1; rw [bne_iff_ne]; simp at this; omega
      clear c1
      go_enter Tryz.func15, Tryz.ntmps15
      go_wp2_with fail
      refine bodyPost_ret (v := .tuple #[.int .i64 0, .int .i64 0, .int .i64 0, .bool false]) (by simp [results, Tryz.results15, go_sem]) rfl ⟨?_, rfl⟩
      rw [HF.out]; rfl
  · have HF := Lib.hid (show countP s p = none by unfold countP; rw [if_neg (stands_one_no s p 123 (by omega))])
    go_enter Tryz.func15, Tryz.ntmps15
    go_wp2_with fail
    refine bodyPost_ret (v := .tuple #[.int .i64 0, .int .i64 0, .int .i64 0, .bool false]) (by simp [results, Tryz.results15, go_sem]) rfl ⟨?_, rfl⟩
    rw [HF.out]; rfl
end Go.Proofs.YtjmgboegipeijaaGreatDoor
