/- The document's number behind a backslash and x: martelloref06.number; the same as the reader's. -/
import Derived.Test.YtnafemcholkmlaaGreatDoorQEscTwo
import Derived.Deep.QuietTactic
import Derived.BigQuiet
import Derived.LoopTactic
namespace Go.Proofs.YtnafemcholkmlaaGreatDoor
open Go Go.RowKit Go.Proofs

/-- A rune's number at a place, and the place behind; or none. -/
def codeP (s : ByteArray) (q : Nat) : Option (Int × Nat) :=
  if stands s q [123] = true then (if (bracedN s q).2.1 = true then some ((bracedN s q).1, (bracedN s q).2.2) else none)
  else match s.data.toList.drop q with
    | x :: y :: _ => if hexs.contains x = true ∧ hexs.contains y = true then some (hexN [x, y], q + 2) else none
    | _ => none
def codeV : Option (Int × Nat) → Value
  | some (n, q) => .tuple #[.int .i32 n, .int .i64 q, .bool true]
  | none => .tuple #[.int .i32 0, .int .i64 0, .bool false]

theorem drop_two (s : ByteArray) (p : Nat) (h : p + 1 < s.size) : s.data.toList.drop p = s[p] :: s[p + 1] :: s.data.toList.drop (p + 2) := by
  have l1 : p < s.data.toList.length := by simp; omega
  have l2 : p + 1 < s.data.toList.length := by simp; omega
  rw [List.drop_eq_getElem_cons l1, List.drop_eq_getElem_cons l2]
  rfl
theorem drop_short (s : ByteArray) (p : Nat) (h : s.size ≤ p + 1) : ∀ x y r, s.data.toList.drop p ≠ x :: y :: r := by
  intro x y r e
  have := congrArg List.length e
  simp at this
  omega
theorem hexN_two (x y : UInt8) (hx : hexs.contains x = true) (hy : hexs.contains y = true) : hexN [x, y] = 16 * hexI x.toNat + hexI y.toNat := by
  have h1 := hexI_in x hx
  have h2 := hexI_in y hy
  unfold hexN
  simp only [Lib.toLowerA, List.map_cons, List.map_nil, numP]
  rw [← h1.2.2, ← h2.2.2]
  omega
theorem stands_hex {s : ByteArray} {p : Nat} (h : p < s.size) (hx : hexs.contains s[p] = true) : ¬ stands s p [123] = true := by
  intro hc
  obtain ⟨_, h1⟩ := (stands_one s p 123).1 hc
  rw [h1] at hx
  exact absurd hx (by decide)
theorem codeP_two (s : ByteArray) (p : Nat) (h : p + 1 < s.size) (hx : hexs.contains s[p] = true) (hy : hexs.contains s[p + 1] = true) : codeP s p = some (16 * hexI s[p].toNat + hexI s[p + 1].toNat, p + 2) := by
  unfold codeP
  rw [if_neg (stands_hex (by omega) hx), drop_two s p h]
  simp only [hx, hy, and_self, if_true]
  rw [hexN_two _ _ hx hy]
theorem codeP_none (s : ByteArray) (p : Nat) (h1 : ¬ stands s p [123] = true) (h2 : ∀ h : p + 1 < s.size, ¬ (hexs.contains s[p] = true ∧ hexs.contains s[p + 1] = true)) : codeP s p = none := by
  unfold codeP
  rw [if_neg h1]
  by_cases h : p + 1 < s.size
  · rw [drop_two s p h]; simp only; rw [if_neg (h2 h)]
  · split
    · rename_i heq; exact absurd heq (drop_short s p (by omega) _ _ _)
    · rfl
theorem codeP_braced (s : ByteArray) (p : Nat) (h1 : stands s p [123] = true) : codeP s p = (if (bracedN s p).2.1 = true then some ((bracedN s p).1, (bracedN s p).2.2) else none) := by unfold codeP; rw [if_pos h1]
theorem numP_hex_snoc (l : List UInt8) (x : UInt8) (hx : hexs.contains x = true) : hexN (l ++ [x]) = min (16 * hexN l + hexI x.toNat) 1114112 := by
  unfold hexN
  simp only [Lib.toLowerA, List.map_append, List.map_cons, List.map_nil]
  rw [numP_snoc, ← (hexI_in x hx).2.2]
  congr 1
  omega

theorem bracedN_none (s : ByteArray) (p : Nat) (h1 : stands s p [123] = true) (h : ¬ (bracedN s p).2.1 = true) : codeP s p = none := by rw [codeP_braced s p h1, if_neg h]
theorem bracedN_some (s : ByteArray) (p : Nat) (h1 : stands s p [123] = true) (h : runP s (p + 1) hexs ≠ []) (h2 : stands s (p + 1 + (runP s (p + 1) hexs).length) [125] = true) (h3 : hexN (runP s (p + 1) hexs) ≤ 1114111) :
    codeP s p = some (hexN (runP s (p + 1) hexs), p + 1 + (runP s (p + 1) hexs).length + 1) := by
  have e1 : (runP s (p + 1) hexs).isEmpty = false := isEmpty_no h
  rw [codeP_braced s p h1]
  unfold bracedN
  simp [e1, h2, h3]
theorem bracedN_bad (s : ByteArray) (p : Nat) (h1 : stands s p [123] = true) (h : runP s (p + 1) hexs = [] ∨ ¬ stands s (p + 1 + (runP s (p + 1) hexs).length) [125] = true ∨ ¬ hexN (runP s (p + 1) hexs) ≤ 1114111) : codeP s p = none := by
  refine bracedN_none s p h1 ?_
  unfold bracedN
  simp only [Bool.and_eq_true, Bool.not_eq_true', decide_eq_true_eq]
  rintro ⟨⟨a, b⟩, c⟩
  rcases h with h | h | h
  · rw [h] at a; cases a
  · exact h b
  · exact h c

set_option maxHeartbeats 4000000 in
/-- Behind a brace. -/
theorem ref06_number_braced (s : ByteArray) (p : Nat) (w : World) (hs : s.size ≤ 140737488355328) (h0 : p < s.size) (hc : s[p].toNat = 123) :
    Calls Tryz.prog 94 #[.string s, .int .i64 p] w fun e w' => e = .returned (codeV (codeP s p)) ∧ Below w.heap.size w w' := by
  have HX := Lib.hid (fun (c : UInt8) (W : World) => ref06_hex (c.toNat : Int) W (by omega) (by have := c.toNat_lt; omega))
  have HB := Lib.hid (show stands s p [123] = true from (stands_one s p 123).2 ⟨h0, UInt8.toNat_inj.1 hc⟩)
  have HE := Lib.hid (show ∀ W : World, Calls Tryz.prog 132 #[.int .u8 (s[p].toNat : Int)] W fun e w' => e = .returned (.int .i64 (-1)) ∧ w' = W from fun W => by rw [hc]; exact ref06_hex 123 W (by omega) (by omega))
  have hcb : ((s[p].toNat : Int) != 123) = false := by rw [hc]; rfl
  clear hc
  have hle := runP_le_size s (p + 1) hexs (by omega)
  have h0' : (p : Int) < (s.size : Int) := by omega
  have hd0 : decide (s.size ≤ p) = false := by simp; omega
  have hd1 : decide ((s.size : Int) ≤ (p : Int)) = false := by simp; omega
  go_enter Tryz.func94, Tryz.ntmps94
  by_cases h1 : p + 1 < s.size
  · have h1' : (p : Int) + 1 < (s.size : Int) := by omega
    go_wp2_with fail
    refine (HE.out _).mono ?_
    rintro e w1 ⟨rfl, rfl⟩
    go_wp2_with fail
    go_loopw [7, 8] (fun n i wr => ∃ k : Nat, k ≤ (runP s (p + 1) hexs).length ∧ i = .int .i64 ((p + 1 + k : Nat) : Int) ∧ n = .int .i64 (hexN ((runP s (p + 1) hexs).take k)) ∧ Below w1.heap.size w1 wr) (fun _ i _ => s.size - (intOf i).toNat)
    case atStart => exact ⟨0, Nat.zero_le _, by go_num, by simp [hexN, Lib.toLowerA, numP], Below.refl _ _⟩
    case round =>
      obtain ⟨k, hk, rfl, rfl, hbel⟩ := hrel
      have HBEL := Lib.hid hbel; clear hbel
      by_cases hlt : k < (runP s (p + 1) hexs).length
      · obtain ⟨h', hg, hcx⟩ := runP_getElem s (p + 1) hexs k hlt
        rw [← hg] at hcx
        have hv := hexI_in _ hcx
        have hn := hexN_bd (l := (runP s (p + 1) hexs).take k) (fun c hc => takeWhile_yes _ _ c (List.mem_of_mem_take hc))
        have hst : hexN ((runP s (p + 1) hexs).take (k + 1)) = min (16 * hexN ((runP s (p + 1) hexs).take k) + hexI (s[p + 1 + k].toNat : Int)) 1114112 := by
          rw [List.take_succ_eq_append_getElem hlt, ← hg, numP_hex_snoc _ _ hcx]
        have HXX := Lib.hid (fun W => HX.out s[p + 1 + k] W)
        obtain ⟨a, ha⟩ : ∃ a, hexI (s[p + 1 + k].toNat : Int) = a := ⟨_, rfl⟩
        rw [ha] at hv hst
        simp only [ha] at HXX
        obtain ⟨N, hN⟩ : ∃ N, hexN ((runP s (p + 1) hexs).take k) = N := ⟨_, rfl⟩
        rw [hN] at hn hst ⊢
        have HST := Lib.hid hst
        clear hst hg hcx ha hN
        obtain ⟨hv1, hv2, -⟩ := hv
        obtain ⟨hn1, hn2⟩ := hn
        have hb : (p : Int) + 1 + (k : Int) < (s.size : Int) := by omega
        go_wp2_with fail
        refine (HXX.out _).mono ?_
        rintro e w2 ⟨rfl, rfl⟩
        go_wp2_with fail
        refine (HXX.out _).mono ?_
        rintro e w3 ⟨rfl, rfl⟩
        go_wp2_with fail
        go_roundw
        case rel =>
          refine ⟨k + 1, by omega, by go_num, ?_, HBEL.out⟩
          rw [HST.out]
        case measure => simp [intOf]; omega
      · have hk' : k = (runP s (p + 1) hexs).length := by omega
        obtain ⟨run, hrun⟩ : ∃ run, runP s (p + 1) hexs = run := ⟨_, rfl⟩
        have HRUN := Lib.hid hrun
        have hend := runP_end s (p + 1) hexs
        have HBD := hexN_bd (l := runP s (p + 1) hexs) (fun c hc => takeWhile_yes _ _ c hc)
        have HSOME := Lib.hid (bracedN_some s p HB.out)
        have HBAD := Lib.hid (bracedN_bad s p HB.out)
        rw [hrun] at hk' hend hle HBD HSOME HBAD ⊢
        rw [hk', List.take_length]
        obtain ⟨N, hN⟩ : ∃ N, hexN run = N := ⟨_, rfl⟩
        rw [hN] at HBD HSOME HBAD ⊢
        obtain ⟨hn1, hn2⟩ := HBD
        have HKL := Lib.hid hk'
        have HNR := Lib.hid hN
        clear hk' hrun hk hlt hN
        by_cases hlt2 : p + 1 + run.length < s.size
        · have hcx := hend hlt2
          have hv := hexI_out _ hcx
          have HXX := Lib.hid (show ∀ W : World, Calls Tryz.prog 132 #[.int .u8 (s[p + 1 + run.length].toNat : Int)] W fun e w' => e = .returned (.int .i64 (-1)) ∧ w' = W from fun W => by rw [← hv]; exact HX.out _ W)
          have hb : (p : Int) + 1 + (run.length : Int) < (s.size : Int) := by omega
          clear hcx hv hend
          go_wp2_with fail
          refine (HXX.out _).mono ?_
          rintro e w2 ⟨rfl, rfl⟩
          by_cases hr : run = []
          · have hz : run.length = 0 := by rw [hr]; rfl
            have HF := Lib.hid (HBAD.out (.inl hr))
            have hz' : ((run.length : Nat) : Int) = 0 := by omega
            clear hr
            go_wp2_with fail
            go_ret3
            exact ⟨by rw [HF.out]; rfl, HBEL.out⟩
          · have hz : 0 < run.length := List.length_pos_iff.2 hr
            have hne : ((p : Int) + 1 + (run.length : Int) == (p : Int) + 1) = false := by simp; omega
            by_cases hcl : s[p + 1 + run.length].toNat = 125
            · have HST := Lib.hid (show stands s (p + 1 + run.length) [125] = true from (stands_one s _ 125).2 ⟨hlt2, UInt8.toNat_inj.1 hcl⟩)
              by_cases hN : N ≤ 1114111
              · have HF := Lib.hid (HSOME.out hr HST.out hN)
                have hwN : IntKind.i32.wrap N = N := IntWalk.i32_in _ (by omega)
                clear hr
                go_wp2_with fail
                go_ret3
                exact ⟨by rw [HF.out]; simp [codeV], HBEL.out⟩
              · have HF := Lib.hid (HBAD.out (.inr (.inr (by omega))))
                have hN' : N > 1114111 := by omega
                clear hr
                go_wp2_with fail
                go_ret3
                exact ⟨by rw [HF.out]; rfl, HBEL.out⟩
            · have hclb : ((s[p + 1 + run.length].toNat : Int) != 125) = true := by simp; omega
              have HF := Lib.hid (HBAD.out (.inr (.inl (fun h => hcl (by obtain ⟨_, h2⟩ := (stands_one s _ 125).1 h; rw [h2]; rfl)))))
              clear hr hcl
              go_wp2_with fail
              go_ret3
              exact ⟨by rw [HF.out]; rfl, HBEL.out⟩
        · have hb : p + 1 + run.length = s.size := by omega
          have hb2 : (s.size : Int) ≤ (p : Int) + 1 + (run.length : Int) := by omega
          have HF := Lib.hid (HBAD.out (.inr (.inl (stands_one_no s _ 125 (by omega)))))
          have hr : run.length ≠ 0 := by omega
          · have hne : ((p : Int) + 1 + (run.length : Int) == (p : Int) + 1) = false := by simp; omega
            clear hend hb
            go_wp2_with fail
            go_ret3
            exact ⟨by rw [HF.out]; rfl, HBEL.out⟩
  · have HF := Lib.hid (bracedN_bad s p HB.out (.inl (by unfold runP; rw [List.drop_of_length_le (by simp; omega)]; rfl)))
    have hsz : (p : Int) + 1 = (s.size : Int) := by omega
    have hnl : ¬ (p : Int) + 1 < (s.size : Int) := by omega
    go_wp2_with fail
    go_loopw [7, 8] (fun n i wr => i = .int .i64 ((p + 1 : Nat) : Int) ∧ n = .int .i64 0 ∧ wr = w) (fun _ i _ => s.size - (intOf i).toNat)
    case atStart => exact ⟨by go_num, rfl, rfl⟩
    case round =>
      obtain ⟨rfl, rfl, rfl⟩ := hrel
      have hn2 : ¬ (((p + 1 : Nat) : Int) < (s.size : Int)) := by omega
      go_wp2_with fail
      go_ret3
      exact ⟨by rw [HF.out]; rfl, Below.refl _ _⟩

set_option maxHeartbeats 4000000 in
theorem ref06_number (s : ByteArray) (p : Nat) (w : World) (hp : p ≤ s.size) (hs : s.size ≤ 140737488355328) :
    Calls Tryz.prog 94 #[.string s, .int .i64 p] w fun e w' => e = .returned (codeV (codeP s p)) ∧ Below w.heap.size w w' := by
  by_cases h0 : p < s.size
  · by_cases hc : s[p].toNat = 123
    · exact ref06_number_braced s p w hs h0 hc
    · have HX := Lib.hid (fun (c : UInt8) (W : World) => ref06_hex (c.toNat : Int) W (by omega) (by have := c.toNat_lt; omega))
      have hcb : ((s[p].toNat : Int) != 123) = true := by simp; omega
      have h0' : (p : Int) < (s.size : Int) := by omega
      have hd0 : decide (s.size ≤ p) = false := by simp; omega
      have hd1 : decide ((s.size : Int) ≤ (p : Int)) = false := by simp; omega
      have HST := Lib.hid (show ¬ stands s p [123] = true from fun h => hc (by obtain ⟨_, h2⟩ := (stands_one s p 123).1 h; rw [h2]; rfl))
      clear hc
      have hw4 : IntKind.i64.wrap ((p : Int) + 1) = (p : Int) + 1 := by rw [IntKind.wrap_i64]; omega
      have hw5 : IntKind.i64.wrap ((p : Int) + 2) = (p : Int) + 2 := by rw [IntKind.wrap_i64]; omega
      by_cases h1 : p + 1 < s.size
      · have h1' : (p : Int) + 1 < (s.size : Int) := by omega
        by_cases cx : hexs.contains s[p] = true
        · have ba := hexI_in _ cx
          have HA := Lib.hid (fun W => HX.out s[p] W)
          by_cases cy : hexs.contains s[p + 1] = true
          · have bb := hexI_in _ cy
            have HB := Lib.hid (fun W => HX.out s[p + 1] W)
            have HF := Lib.hid (codeP_two s p h1 cx cy)
            clear cx cy HA HB
            obtain ⟨ba0, ba1, -⟩ := ba
            obtain ⟨bb0, bb1, -⟩ := bb
            have hw1 : IntKind.i64.wrap (16 * hexI (s[p].toNat : Int) + hexI (s[p + 1].toNat : Int)) = 16 * hexI (s[p].toNat : Int) + hexI (s[p + 1].toNat : Int) := by rw [IntKind.wrap_i64]; omega
            have hw2 : IntKind.i32.wrap (16 * hexI (s[p].toNat : Int) + hexI (s[p + 1].toNat : Int)) = 16 * hexI (s[p].toNat : Int) + hexI (s[p + 1].toNat : Int) := IntWalk.i32_in _ (by omega)
            have hw3 : IntKind.i64.wrap (16 * hexI (s[p].toNat : Int)) = 16 * hexI (s[p].toNat : Int) := by rw [IntKind.wrap_i64]; omega
            go_enter Tryz.func94, Tryz.ntmps94
            go_wp2_with fail
            refine (HX.out s[p] _).mono ?_
            rintro e w2 ⟨rfl, rfl⟩
            go_wp2_with fail
            refine (HX.out s[p + 1] _).mono ?_
            rintro e w3 ⟨rfl, rfl⟩
            go_wp2_with fail
            go_quiet ((go_at_call 132; exact Calls.quiet_of_same (HX.out _ _)))
            go_wp2_with fail
            go_ret3
            exact ⟨by rw [HF.out]; simp [codeV], below_drewN (Below.refl _ _) nq⟩
          · have bb := hexI_out _ (Bool.eq_false_iff.2 cy)
            have HB := Lib.hid (fun W => HX.out s[p + 1] W)
            have HF := Lib.hid (codeP_none s p HST.out (fun h h2 => cy h2.2))
            clear cx cy
            obtain ⟨a, ha⟩ : ∃ a, hexI (s[p].toNat : Int) = a := ⟨_, rfl⟩
            rw [ha] at ba
            simp only [ha] at HA; simp only [bb] at HB
            clear ha bb
            obtain ⟨ba0, ba1, -⟩ := ba
            go_enter Tryz.func94, Tryz.ntmps94
            go_wp2_with fail
            refine (HA.out _).mono ?_
            rintro e w2 ⟨rfl, rfl⟩
            go_wp2_with fail
            refine (HB.out _).mono ?_
            rintro e w3 ⟨rfl, rfl⟩
            go_wp2_with fail
            go_ret3
            exact ⟨by rw [HF.out]; rfl, Below.refl _ _⟩
        · have bb := hexI_out _ (Bool.eq_false_iff.2 cx)
          have HB := Lib.hid (fun W => HX.out s[p] W)
          have HF := Lib.hid (codeP_none s p HST.out (fun h h2 => cx h2.1))
          clear cx
          simp only [bb] at HB
          clear bb
          go_enter Tryz.func94, Tryz.ntmps94
          go_wp2_with fail
          refine (HB.out _).mono ?_
          rintro e w2 ⟨rfl, rfl⟩
          go_wp2_with fail
          go_ret3
          exact ⟨by rw [HF.out]; rfl, Below.refl _ _⟩
      · have HF := Lib.hid (codeP_none s p HST.out (fun h => absurd h h1))
        have h1' : ¬ (p : Int) + 1 < (s.size : Int) := by omega
        go_enter Tryz.func94, Tryz.ntmps94
        go_wp2_with fail
        go_ret3
        exact ⟨by rw [HF.out]; rfl, Below.refl _ _⟩
  · have hge : s.size ≤ p := Nat.le_of_not_lt h0
    have HF := Lib.hid (show codeP s p = none from codeP_none s p (stands_one_no s p 123 hge) (fun h => absurd h (by omega)))
    have h0' : (s.size : Int) ≤ (p : Int) := by omega
    have h1' : ¬ (p : Int) + 1 < (s.size : Int) := by omega
    go_enter Tryz.func94, Tryz.ntmps94
    go_wp2_with fail
    go_ret3
    exact ⟨by rw [HF.out]; rfl, Below.refl _ _⟩
end Go.Proofs.YtnafemcholkmlaaGreatDoor
