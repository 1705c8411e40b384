/- ScanTold: a counted repeat, a named group's beginning, written out, with anything behind, are read as they are: the law's walk. -/
import Derived.Test.YtjmgboegipeijaaGreatDoorTellName
import Derived.Lib.AppendIntMem
import Derived.Deep.DeepCutAuto
import Derived.Deep.CutBlock
namespace Go.Proofs.YtjmgboegipeijaaGreatDoor
open Go Go.RowKit Go.Proofs

theorem below_growN (w : World) (k : Nat) (os : Array Obj) : Below w.heap.size w (Sort.grow (w.drewN k) os) := by
  refine ⟨rfl, rfl, rfl, ?_, fun j hj => ?_⟩
  · show w.heap.size ≤ (w.heap ++ os).size; rw [Array.size_append]; omega
  · show (w.heap ++ os)[j]? = w.heap[j]?
    rw [Array.getElem?_append_left hj]
theorem itoa_nat (a : Nat) : Lib.itoa (a : Int) = Lib.decDigits a := by
  unfold Lib.itoa; rw [if_neg (by omega)]; rfl

def nameP0 (s : ByteArray) : Bool := decide (0 < s.size) && decide (s.size ≤ 32) && !digB (s.data.toList.getD 0 0)
/-- What is told as a counted repeat: its most, its text. -/
def Told (a : Nat) (s13 s14 : Value) : Prop := ∃ (bb : Int) (S : ByteArray), s13 = .int .i64 bb ∧ s14 = .string S ∧ (∀ U behind : ByteArray, U = S ++ behind → countP U 0 = some ((a : Int), bb, S.size)) ∧ S.size ≤ 11
theorem told_both {a m : Nat} {A D : ByteArray} (ha : A.data.toList = Lib.decDigits a) (hd : D.data.toList = Lib.decDigits (a + m)) (h1 : a ≤ 1000 := by assumption) (h2 : a + m ≤ 1000 := by assumption) :
    Told a (.int .i64 ((a : Int) + (m : Int))) (.string ((⟨#[123]⟩ : ByteArray) ++ A ++ ⟨#[44]⟩ ++ D ++ ⟨#[125]⟩)) := by
  have hSl : ((⟨#[123]⟩ : ByteArray) ++ A ++ ⟨#[44]⟩ ++ D ++ ⟨#[125]⟩).data.toList = [123] ++ Lib.decDigits a ++ [44] ++ Lib.decDigits (a + m) ++ [125] :=
    append_list (append_list (append_list (append_list rfl ha) rfl) hd) rfl
  refine ⟨_, _, rfl, rfl, fun U behind hU => ?_, ?_⟩
  · have hUl : U.data.toList = [123] ++ Lib.decDigits a ++ [44] ++ Lib.decDigits (a + m) ++ [125] ++ behind.data.toList := by rw [hU]; exact append_list hSl rfl
    rw [tell_both U a (a + m) h1 h2 _ hUl, size_of_list hSl]
    simp only [Option.some.injEq, Prod.mk.injEq, List.length_append, List.length_cons, List.length_nil]
    exact ⟨trivial, by omega, by omega⟩
  · rw [size_of_list hSl]; have h3 := decDigits_len (show a ≤ 9999 by omega); have h4 := decDigits_len (show a + m ≤ 9999 by omega); simp only [List.length_append, List.length_cons, List.length_nil]; omega
theorem told_open {a : Nat} {A : ByteArray} (ha : A.data.toList = Lib.decDigits a) (h1 : a ≤ 1000 := by assumption) :
    Told a (.int .i64 (-1)) (.string ((⟨#[123]⟩ : ByteArray) ++ A ++ ⟨#[44, 125]⟩)) := by
  have hSl : ((⟨#[123]⟩ : ByteArray) ++ A ++ ⟨#[44, 125]⟩).data.toList = [123] ++ Lib.decDigits a ++ [44, 125] := append_list (append_list rfl ha) rfl
  refine ⟨_, _, rfl, rfl, fun U behind hU => ?_, ?_⟩
  · have hUl : U.data.toList = [123] ++ Lib.decDigits a ++ [44, 125] ++ behind.data.toList := by rw [hU]; exact append_list hSl rfl
    rw [tell_open U a h1 _ hUl, size_of_list hSl]
    simp only [Option.some.injEq, Prod.mk.injEq, List.length_append, List.length_cons, List.length_nil]
    exact ⟨trivial, trivial, by omega⟩
  · rw [size_of_list hSl]; have h3 := decDigits_len (show a ≤ 9999 by omega); simp only [List.length_append, List.length_cons, List.length_nil]; omega

set_option maxRecDepth 100000 in
set_option maxHeartbeats 2000000 in
theorem law_scanTold (x0 x1 : Int) (op : Bool) (name behind : ByteArray) (w : World) (h0 : 0 ≤ x0 ∧ x0 < 65536) (h1 : 0 ≤ x1 ∧ x1 < 65536) (htab : Lib.TabIs Tryz.prog w "internal/strconv.uint64pow10" .u64 Lib.pow10Tab)
    (hn : name.size ≤ 140737488351232) (hb : behind.size ≤ 140737488351232) :
    Calls Tryz.prog 9 #[.int .u16 x0, .int .u16 x1, .bool op, .string name, .string behind] w fun e w' => e = .returned (.bool true) ∧ Below w.heap.size w w' := by
  obtain ⟨a, ha, ha2⟩ : ∃ a : Nat, x0 % 1001 = a ∧ a ≤ 1000 := ⟨(x0 % 1001).toNat, by omega, by omega⟩
  obtain ⟨m, hm, hm2⟩ : ∃ m : Nat, x1 % (1001 - (a : Int)) = m ∧ a + m ≤ 1000 := by
    have hp := Int.emod_nonneg x1 (show (1001 - (a : Int)) ≠ 0 by omega)
    have hq := Int.emod_lt_of_pos x1 (show 0 < (1001 - (a : Int)) by omega)
    exact ⟨(x1 % (1001 - (a : Int))).toNat, by omega, by omega⟩
  have ha3 : x0.tmod 1001 = a := by rw [Int.tmod_eq_emod_of_nonneg h0.1]; exact ha
  have hm3 : x1.tmod (1001 - (a : Int)) = m := by rw [Int.tmod_eq_emod_of_nonneg h1.1]; exact hm
  obtain ⟨h0a, h0b⟩ := h0
  obtain ⟨h1a, h1b⟩ := h1
  have HT := Lib.hid (Lib.tabBelow_of_tabIs htab); clear htab
  go_enter Tryz.func9, Tryz.ntmps9
  go_wp2_with fail
  refine (head06 w).mono ?_
  rintro e w1 ⟨rfl, hB⟩
  have B1 := Lib.hid hB; clear hB
  go_wp2_with fail
  refine (Tryz.strconv_Itoa (a : Int) (by omega) (by omega) _ (HT.out _ B1.out)).mono ?_
  rintro e w2 ⟨rfl, k2, os2, rfl⟩
  have B2 := Lib.hid (below_then B1.out (below_growN w1 k2 os2))
  obtain ⟨w2, hw2⟩ : ∃ w2, Sort.grow (w1.drewN k2) os2 = w2 := ⟨_, rfl⟩
  rw [hw2] at B2 ⊢
  clear hw2
  rw [itoa_nat]
  obtain ⟨A, hA⟩ : ∃ A, A = (⟨(Lib.decDigits a).toArray⟩ : ByteArray) := ⟨_, rfl⟩
  have hAl : A.data.toList = Lib.decDigits a := by rw [hA]
  have hAs : A.size ≤ 4 := by rw [size_of_list hAl]; exact decDigits_len (by omega)
  rw [← hA]
  have HAl := Lib.hid hAl; clear hA hAl
  go_wp2_with fail
  refine (Tryz.strconv_Itoa ((a : Int) + (m : Int)) (by omega) (by omega) _ (HT.out _ B2.out)).mono ?_
  rintro e w3 ⟨rfl, k3, os3, rfl⟩
  have B3 := Lib.hid (below_then B2.out (below_growN w2 k3 os3))
  obtain ⟨w3, hw3⟩ : ∃ w3, Sort.grow (w2.drewN k3) os3 = w3 := ⟨_, rfl⟩
  rw [hw3] at B3 ⊢
  clear hw3
  rw [show Lib.itoa ((a : Int) + (m : Int)) = Lib.decDigits (a + m) by rw [← Int.natCast_add]; exact itoa_nat _]
  obtain ⟨D, hD⟩ : ∃ D, D = (⟨(Lib.decDigits (a + m)).toArray⟩ : ByteArray) := ⟨_, rfl⟩
  have hDl : D.data.toList = Lib.decDigits (a + m) := by rw [hD]
  have hDs : D.size ≤ 4 := by rw [size_of_list hDl]; exact decDigits_len (by omega)
  rw [← hD]
  have HDl := Lib.hid hDl; clear hD hDl
  go_upto_if 47 with (fail)
  go_cut [13, 14] (fun s13 s14 wx => Told a s13 s14 ∧ Below w.heap.size w wx)
  case first =>
    cases op with
    | false =>
      go_wp2_with fail
      go_meet
      exact ⟨told_both HAl.out HDl.out, B3.out⟩
    | true =>
      go_wp2_with fail
      refine (Tryz.strconv_Itoa (a : Int) (by omega) (by omega) _ (HT.out _ B3.out)).mono ?_
      rintro e w4 ⟨rfl, k4, os4, rfl⟩
      have B4 := Lib.hid (below_then B3.out (below_growN w3 k4 os4))
      rw [itoa_nat]
      obtain ⟨A2, hA⟩ : ∃ A2, A2 = (⟨(Lib.decDigits a).toArray⟩ : ByteArray) := ⟨_, rfl⟩
      have hAl : A2.data.toList = Lib.decDigits a := by rw [hA]
      have hAs2 : A2.size ≤ 4 := by rw [size_of_list hAl]; exact decDigits_len (by omega)
      rw [← hA]
      have HA2 := Lib.hid hAl; clear hA hAl
      go_wp2_with fail
      go_meet
      exact ⟨told_open HA2.out, B4.out⟩
  case rest =>
    obtain ⟨⟨bb, S, rfl, rfl, hcp, hSs⟩, hBc⟩ := hcut
    have HCP := Lib.hid hcp
    have BC := Lib.hid hBc
    clear hcp hBc
    go_wp2_with fail
    obtain ⟨U, hU⟩ : ∃ U, U = S ++ behind := ⟨_, rfl⟩
    have hcu := HCP.out U behind hU
    have hUs : U.size ≤ 140737488355328 := by rw [hU, ByteArray.size_append]; omega
    rw [← hU]
    clear hU
    refine (scan_Count U 0 _ (by omega) hUs).mono ?_
    rintro e w4 ⟨rfl, hB⟩
    have B4 := Lib.hid (below_then BC.out hB); clear hB
    rw [hcu]
    simp only [countV]
    clear hcu
    go_upto_region 11 with (fail)
    go_cut [19] (fun s19 wx => s19 = .bool (nameP0 name) ∧ wx = w4)
    case first =>
      by_cases q0 : name.size = 0
      · have hv : nameP0 name = false := by unfold nameP0; rw [decide_eq_false (by omega)]; rfl
        have HV := Lib.hid hv
        have q1 : ¬ 0 < name.size := by omega
        have q2 : ¬ (0 : Int) < (name.size : Int) := by omega
        clear hv q0
        go_wp2_with fail
        go_meet
        exact ⟨by rw [HV.out], rfl⟩
      · have hp : 0 < name.size := by omega
        have q2 : (0 : Int) < (name.size : Int) := by omega
        by_cases q3 : name.size ≤ 32
        · have q4 : (name.size : Int) ≤ 32 := by omega
          obtain ⟨c, hc⟩ : ∃ c, name[0]'hp = c := ⟨_, rfl⟩
          have hcd : name.data.toList.getD 0 0 = c := by rw [← hc, List.getD_eq_getElem?_getD, List.getElem?_eq_getElem (by simpa using hp)]; rfl
          have hv : nameP0 name = !digB c := by unfold nameP0; rw [hcd, decide_eq_true hp, decide_eq_true q3]; rfl
          have HV := Lib.hid hv
          clear hv hcd q0
          by_cases d1 : 48 ≤ c.toNat
          · by_cases d2 : c.toNat ≤ 57
            · have hd : digB c = true := by rw [digB_eq]; exact decide_eq_true ⟨d1, d2⟩
              have HD := Lib.hid hd
              have g1 : decide ((48 : Int) ≤ (c.toNat : Int)) = true := by simp; omega
              have g2 : decide ((c.toNat : Int) ≤ 57) = true := by simp; omega
              clear hd
              go_wp2_with fail
              go_meet
              exact ⟨by rw [HV.out, HD.out]; rfl, rfl⟩
            · have hd : digB c = false := by rw [digB_eq]; exact decide_eq_false (by omega)
              have HD := Lib.hid hd
              have g1 : decide ((48 : Int) ≤ (c.toNat : Int)) = true := by simp; omega
              have g2 : decide ((c.toNat : Int) ≤ 57) = false := by simp; omega
              clear hd
              go_wp2_with fail
              go_meet
              exact ⟨by rw [HV.out, HD.out]; rfl, rfl⟩
          · have hd : digB c = false := by rw [digB_eq]; exact decide_eq_false (by omega)
            have HD := Lib.hid hd
            have g1 : decide ((48 : Int) ≤ (c.toNat : Int)) = false := by simp; omega
            clear hd
            go_wp2_with fail
            go_meet
            exact ⟨by rw [HV.out, HD.out]; rfl, rfl⟩
        · have q4 : ¬ (name.size : Int) ≤ 32 := by omega
          have hv : nameP0 name = false := by unfold nameP0; rw [decide_eq_false q3]; simp
          have HV := Lib.hid hv
          clear hv q0
          go_wp2_with fail
          go_meet
          exact ⟨by rw [HV.out], rfl⟩
    case rest =>
      obtain ⟨rfl, rfl⟩ := hcut
      obtain ⟨P0, hP0⟩ : ∃ P0, P0 = nameP0 name := ⟨_, rfl⟩
      rw [← hP0]
      have HP0 := Lib.hid hP0; clear hP0
      go_wp2_with fail
      go_loop [19, 20] (fun pv iv => ∃ k : Nat, k ≤ name.size ∧ iv = .int .i64 k ∧ (∃ b : Bool, pv = .bool b ∧ b = (P0 && (name.data.toList.take k).all wordB)) ∧ noGt name 0 k) (fun _ i => name.size - (intOf i).toNat)
      case atStart => exact ⟨0, Nat.zero_le _, rfl, ⟨P0, rfl, by simp⟩, fun j h1 h2 => by omega⟩
      case round =>
        obtain ⟨k, hk, rfl, ⟨b, rfl, hb2⟩, hn2⟩ := hrel
        have HB := Lib.hid hb2; have HN := Lib.hid hn2; clear hb2 hn2
        by_cases hlt : k < name.size
        · have HL := Lib.hid hlt
          obtain ⟨c, hc⟩ : ∃ c, c = (name[k]'hlt).toNat := ⟨_, rfl⟩
          have hW := wordB_eq (name[k]'hlt)
          rw [← hc] at hW
          have HW := Lib.hid hW
          clear hW
          have hsn : (P0 && (name.data.toList.take (k + 1)).all wordB) = (b && wordB (name[k]'hlt)) := by
            have hk2 : k < name.data.toList.length := by simpa using hlt
            have e : name.data.toList[k] = name[k]'hlt := rfl
            rw [List.take_succ_eq_append_getElem hk2, List.all_append, e, HB.out]
            cases P0 <;> simp
          have HS := Lib.hid hsn; clear hsn
          by_cases h62 : c = 62
          · have e62 : (((name[k]'hlt).toNat : Int) == 62) = true := by simp; omega
            clear hc h62
            go_wp2_with fail
            go_ret
            exact ⟨rfl, B4.out⟩
          · have e62 : (((name[k]'hlt).toNat : Int) == 62) = false := by simp; omega
            have HX := Lib.hid (noGt_succ HN.out hlt (fun e => h62 (by rw [hc, e]; rfl)))
            cases b with
            | false =>
              have HZ := Lib.hid (show (P0 && (name.data.toList.take (k + 1)).all wordB) = false by rw [HS.out]; rfl)
              clear hc h62
              go_wp2_with fail
              go_round
              case rel => exact ⟨k + 1, HL.out, by go_num, ⟨false, rfl, HZ.out.symm⟩, HX.out⟩
              case measure => have := HL.out; simp [intOf]; omega
            | true =>
              have hcase : c < 48 ∨ (48 ≤ c ∧ c ≤ 57) ∨ (58 ≤ c ∧ c ≤ 64) ∨ (65 ≤ c ∧ c ≤ 90) ∨ (91 ≤ c ∧ c ≤ 94) ∨ c = 95 ∨ c = 96 ∨ (97 ≤ c ∧ c ≤ 122) ∨ 123 ≤ c := by omega
              have HC := Lib.hid hc
              clear h62
              rcases hcase with ha | ha | ha | ha | ha | ha | ha | ha | ha
              · have f1 : ¬ 97 ≤ (name[k]'hlt).toNat := by omega
                have gf1 : decide ((97 : Int) ≤ ((name[k]'hlt).toNat : Int)) = false := by simp; omega
                have f2 : (name[k]'hlt).toNat ≤ 122 := by omega
                have gf2 : decide (((name[k]'hlt).toNat : Int) ≤ 122) = true := by simp; omega
                have f3 : ¬ 65 ≤ (name[k]'hlt).toNat := by omega
                have gf3 : decide ((65 : Int) ≤ ((name[k]'hlt).toNat : Int)) = false := by simp; omega
                have f4 : (name[k]'hlt).toNat ≤ 90 := by omega
                have gf4 : decide (((name[k]'hlt).toNat : Int) ≤ 90) = true := by simp; omega
                have f6 : ¬ 48 ≤ (name[k]'hlt).toNat := by omega
                have gf6 : decide ((48 : Int) ≤ ((name[k]'hlt).toNat : Int)) = false := by simp; omega
                have f7 : (name[k]'hlt).toNat ≤ 57 := by omega
                have gf7 : decide (((name[k]'hlt).toNat : Int) ≤ 57) = true := by simp; omega
                have f5 : (((name[k]'hlt).toNat : Int) == 95) = false := by simp; omega
                have HA := Lib.hid ha
                clear ha hc
                have hw : wordB (name[k]'hlt) = false := by rw [HW.out]; have := HC.out; have := HA.out; exact decide_eq_false (by omega)
                have HZ := Lib.hid (show (P0 && (name.data.toList.take (k + 1)).all wordB) = false by rw [HS.out, hw]; rfl)
                clear hw
                go_wp2_with fail
                go_round
                case rel => exact ⟨k + 1, HL.out, by go_num, ⟨false, rfl, HZ.out.symm⟩, HX.out⟩
                case measure => have := HL.out; simp [intOf]; omega
              · have f1 : ¬ 97 ≤ (name[k]'hlt).toNat := by omega
                have gf1 : decide ((97 : Int) ≤ ((name[k]'hlt).toNat : Int)) = false := by simp; omega
                have f2 : (name[k]'hlt).toNat ≤ 122 := by omega
                have gf2 : decide (((name[k]'hlt).toNat : Int) ≤ 122) = true := by simp; omega
                have f3 : ¬ 65 ≤ (name[k]'hlt).toNat := by omega
                have gf3 : decide ((65 : Int) ≤ ((name[k]'hlt).toNat : Int)) = false := by simp; omega
                have f4 : (name[k]'hlt).toNat ≤ 90 := by omega
                have gf4 : decide (((name[k]'hlt).toNat : Int) ≤ 90) = true := by simp; omega
                have f6 : 48 ≤ (name[k]'hlt).toNat := by omega
                have gf6 : decide ((48 : Int) ≤ ((name[k]'hlt).toNat : Int)) = true := by simp; omega
                have f7 : (name[k]'hlt).toNat ≤ 57 := by omega
                have gf7 : decide (((name[k]'hlt).toNat : Int) ≤ 57) = true := by simp; omega
                have f5 : (((name[k]'hlt).toNat : Int) == 95) = false := by simp; omega
                have HA := Lib.hid ha
                clear ha hc
                have hw : wordB (name[k]'hlt) = true := by rw [HW.out]; have := HC.out; have := HA.out; exact decide_eq_true (by omega)
                have HZ := Lib.hid (show (P0 && (name.data.toList.take (k + 1)).all wordB) = true by rw [HS.out, hw]; rfl)
                clear hw
                go_wp2_with fail
                go_round
                case rel => exact ⟨k + 1, HL.out, by go_num, ⟨true, rfl, HZ.out.symm⟩, HX.out⟩
                case measure => have := HL.out; simp [intOf]; omega
              · have f1 : ¬ 97 ≤ (name[k]'hlt).toNat := by omega
                have gf1 : decide ((97 : Int) ≤ ((name[k]'hlt).toNat : Int)) = false := by simp; omega
                have f2 : (name[k]'hlt).toNat ≤ 122 := by omega
                have gf2 : decide (((name[k]'hlt).toNat : Int) ≤ 122) = true := by simp; omega
                have f3 : ¬ 65 ≤ (name[k]'hlt).toNat := by omega
                have gf3 : decide ((65 : Int) ≤ ((name[k]'hlt).toNat : Int)) = false := by simp; omega
                have f4 : (name[k]'hlt).toNat ≤ 90 := by omega
                have gf4 : decide (((name[k]'hlt).toNat : Int) ≤ 90) = true := by simp; omega
                have f6 : 48 ≤ (name[k]'hlt).toNat := by omega
                have gf6 : decide ((48 : Int) ≤ ((name[k]'hlt).toNat : Int)) = true := by simp; omega
                have f7 : ¬ (name[k]'hlt).toNat ≤ 57 := by omega
                have gf7 : decide (((name[k]'hlt).toNat : Int) ≤ 57) = false := by simp; omega
                have f5 : (((name[k]'hlt).toNat : Int) == 95) = false := by simp; omega
                have HA := Lib.hid ha
                clear ha hc
                have hw : wordB (name[k]'hlt) = false := by rw [HW.out]; have := HC.out; have := HA.out; exact decide_eq_false (by omega)
                have HZ := Lib.hid (show (P0 && (name.data.toList.take (k + 1)).all wordB) = false by rw [HS.out, hw]; rfl)
                clear hw
                go_wp2_with fail
                go_round
                case rel => exact ⟨k + 1, HL.out, by go_num, ⟨false, rfl, HZ.out.symm⟩, HX.out⟩
                case measure => have := HL.out; simp [intOf]; omega
              · have f1 : ¬ 97 ≤ (name[k]'hlt).toNat := by omega
                have gf1 : decide ((97 : Int) ≤ ((name[k]'hlt).toNat : Int)) = false := by simp; omega
                have f2 : (name[k]'hlt).toNat ≤ 122 := by omega
                have gf2 : decide (((name[k]'hlt).toNat : Int) ≤ 122) = true := by simp; omega
                have f3 : 65 ≤ (name[k]'hlt).toNat := by omega
                have gf3 : decide ((65 : Int) ≤ ((name[k]'hlt).toNat : Int)) = true := by simp; omega
                have f4 : (name[k]'hlt).toNat ≤ 90 := by omega
                have gf4 : decide (((name[k]'hlt).toNat : Int) ≤ 90) = true := by simp; omega
                have f6 : 48 ≤ (name[k]'hlt).toNat := by omega
                have gf6 : decide ((48 : Int) ≤ ((name[k]'hlt).toNat : Int)) = true := by simp; omega
                have f7 : ¬ (name[k]'hlt).toNat ≤ 57 := by omega
                have gf7 : decide (((name[k]'hlt).toNat : Int) ≤ 57) = false := by simp; omega
                have f5 : (((name[k]'hlt).toNat : Int) == 95) = false := by simp; omega
                have HA := Lib.hid ha
                clear ha hc
                have hw : wordB (name[k]'hlt) = true := by rw [HW.out]; have := HC.out; have := HA.out; exact decide_eq_true (by omega)
                have HZ := Lib.hid (show (P0 && (name.data.toList.take (k + 1)).all wordB) = true by rw [HS.out, hw]; rfl)
                clear hw
                go_wp2_with fail
                go_round
                case rel => exact ⟨k + 1, HL.out, by go_num, ⟨true, rfl, HZ.out.symm⟩, HX.out⟩
                case measure => have := HL.out; simp [intOf]; omega
              · have f1 : ¬ 97 ≤ (name[k]'hlt).toNat := by omega
                have gf1 : decide ((97 : Int) ≤ ((name[k]'hlt).toNat : Int)) = false := by simp; omega
                have f2 : (name[k]'hlt).toNat ≤ 122 := by omega
                have gf2 : decide (((name[k]'hlt).toNat : Int) ≤ 122) = true := by simp; omega
                have f3 : 65 ≤ (name[k]'hlt).toNat := by omega
                have gf3 : decide ((65 : Int) ≤ ((name[k]'hlt).toNat : Int)) = true := by simp; omega
                have f4 : ¬ (name[k]'hlt).toNat ≤ 90 := by omega
                have gf4 : decide (((name[k]'hlt).toNat : Int) ≤ 90) = false := by simp; omega
                have f6 : 48 ≤ (name[k]'hlt).toNat := by omega
                have gf6 : decide ((48 : Int) ≤ ((name[k]'hlt).toNat : Int)) = true := by simp; omega
                have f7 : ¬ (name[k]'hlt).toNat ≤ 57 := by omega
                have gf7 : decide (((name[k]'hlt).toNat : Int) ≤ 57) = false := by simp; omega
                have f5 : (((name[k]'hlt).toNat : Int) == 95) = false := by simp; omega
                have HA := Lib.hid ha
                clear ha hc
                have hw : wordB (name[k]'hlt) = false := by rw [HW.out]; have := HC.out; have := HA.out; exact decide_eq_false (by omega)
                have HZ := Lib.hid (show (P0 && (name.data.toList.take (k + 1)).all wordB) = false by rw [HS.out, hw]; rfl)
                clear hw
                go_wp2_with fail
                go_round
                case rel => exact ⟨k + 1, HL.out, by go_num, ⟨false, rfl, HZ.out.symm⟩, HX.out⟩
                case measure => have := HL.out; simp [intOf]; omega
              · have f1 : ¬ 97 ≤ (name[k]'hlt).toNat := by omega
                have gf1 : decide ((97 : Int) ≤ ((name[k]'hlt).toNat : Int)) = false := by simp; omega
                have f2 : (name[k]'hlt).toNat ≤ 122 := by omega
                have gf2 : decide (((name[k]'hlt).toNat : Int) ≤ 122) = true := by simp; omega
                have f3 : 65 ≤ (name[k]'hlt).toNat := by omega
                have gf3 : decide ((65 : Int) ≤ ((name[k]'hlt).toNat : Int)) = true := by simp; omega
                have f4 : ¬ (name[k]'hlt).toNat ≤ 90 := by omega
                have gf4 : decide (((name[k]'hlt).toNat : Int) ≤ 90) = false := by simp; omega
                have f6 : 48 ≤ (name[k]'hlt).toNat := by omega
                have gf6 : decide ((48 : Int) ≤ ((name[k]'hlt).toNat : Int)) = true := by simp; omega
                have f7 : ¬ (name[k]'hlt).toNat ≤ 57 := by omega
                have gf7 : decide (((name[k]'hlt).toNat : Int) ≤ 57) = false := by simp; omega
                have f5 : (((name[k]'hlt).toNat : Int) == 95) = true := by simp; omega
                have HA := Lib.hid ha
                clear ha hc
                have hw : wordB (name[k]'hlt) = true := by rw [HW.out]; have := HC.out; have := HA.out; exact decide_eq_true (by omega)
                have HZ := Lib.hid (show (P0 && (name.data.toList.take (k + 1)).all wordB) = true by rw [HS.out, hw]; rfl)
                clear hw
                go_wp2_with fail
                go_round
                case rel => exact ⟨k + 1, HL.out, by go_num, ⟨true, rfl, HZ.out.symm⟩, HX.out⟩
                case measure => have := HL.out; simp [intOf]; omega
              · have f1 : ¬ 97 ≤ (name[k]'hlt).toNat := by omega
                have gf1 : decide ((97 : Int) ≤ ((name[k]'hlt).toNat : Int)) = false := by simp; omega
                have f2 : (name[k]'hlt).toNat ≤ 122 := by omega
                have gf2 : decide (((name[k]'hlt).toNat : Int) ≤ 122) = true := by simp; omega
                have f3 : 65 ≤ (name[k]'hlt).toNat := by omega
                have gf3 : decide ((65 : Int) ≤ ((name[k]'hlt).toNat : Int)) = true := by simp; omega
                have f4 : ¬ (name[k]'hlt).toNat ≤ 90 := by omega
                have gf4 : decide (((name[k]'hlt).toNat : Int) ≤ 90) = false := by simp; omega
                have f6 : 48 ≤ (name[k]'hlt).toNat := by omega
                have gf6 : decide ((48 : Int) ≤ ((name[k]'hlt).toNat : Int)) = true := by simp; omega
                have f7 : ¬ (name[k]'hlt).toNat ≤ 57 := by omega
                have gf7 : decide (((name[k]'hlt).toNat : Int) ≤ 57) = false := by simp; omega
                have f5 : (((name[k]'hlt).toNat : Int) == 95) = false := by simp; omega
                have HA := Lib.hid ha
                clear ha hc
                have hw : wordB (name[k]'hlt) = false := by rw [HW.out]; have := HC.out; have := HA.out; exact decide_eq_false (by omega)
                have HZ := Lib.hid (show (P0 && (name.data.toList.take (k + 1)).all wordB) = false by rw [HS.out, hw]; rfl)
                clear hw
                go_wp2_with fail
                go_round
                case rel => exact ⟨k + 1, HL.out, by go_num, ⟨false, rfl, HZ.out.symm⟩, HX.out⟩
                case measure => have := HL.out; simp [intOf]; omega
              · have f1 : 97 ≤ (name[k]'hlt).toNat := by omega
                have gf1 : decide ((97 : Int) ≤ ((name[k]'hlt).toNat : Int)) = true := by simp; omega
                have f2 : (name[k]'hlt).toNat ≤ 122 := by omega
                have gf2 : decide (((name[k]'hlt).toNat : Int) ≤ 122) = true := by simp; omega
                have f3 : 65 ≤ (name[k]'hlt).toNat := by omega
                have gf3 : decide ((65 : Int) ≤ ((name[k]'hlt).toNat : Int)) = true := by simp; omega
                have f4 : ¬ (name[k]'hlt).toNat ≤ 90 := by omega
                have gf4 : decide (((name[k]'hlt).toNat : Int) ≤ 90) = false := by simp; omega
                have f6 : 48 ≤ (name[k]'hlt).toNat := by omega
                have gf6 : decide ((48 : Int) ≤ ((name[k]'hlt).toNat : Int)) = true := by simp; omega
                have f7 : ¬ (name[k]'hlt).toNat ≤ 57 := by omega
                have gf7 : decide (((name[k]'hlt).toNat : Int) ≤ 57) = false := by simp; omega
                have f5 : (((name[k]'hlt).toNat : Int) == 95) = false := by simp; omega
                have HA := Lib.hid ha
                clear ha hc
                have hw : wordB (name[k]'hlt) = true := by rw [HW.out]; have := HC.out; have := HA.out; exact decide_eq_true (by omega)
                have HZ := Lib.hid (show (P0 && (name.data.toList.take (k + 1)).all wordB) = true by rw [HS.out, hw]; rfl)
                clear hw
                go_wp2_with fail
                go_round
                case rel => exact ⟨k + 1, HL.out, by go_num, ⟨true, rfl, HZ.out.symm⟩, HX.out⟩
                case measure => have := HL.out; simp [intOf]; omega
              · have f1 : 97 ≤ (name[k]'hlt).toNat := by omega
                have gf1 : decide ((97 : Int) ≤ ((name[k]'hlt).toNat : Int)) = true := by simp; omega
                have f2 : ¬ (name[k]'hlt).toNat ≤ 122 := by omega
                have gf2 : decide (((name[k]'hlt).toNat : Int) ≤ 122) = false := by simp; omega
                have f3 : 65 ≤ (name[k]'hlt).toNat := by omega
                have gf3 : decide ((65 : Int) ≤ ((name[k]'hlt).toNat : Int)) = true := by simp; omega
                have f4 : ¬ (name[k]'hlt).toNat ≤ 90 := by omega
                have gf4 : decide (((name[k]'hlt).toNat : Int) ≤ 90) = false := by simp; omega
                have f6 : 48 ≤ (name[k]'hlt).toNat := by omega
                have gf6 : decide ((48 : Int) ≤ ((name[k]'hlt).toNat : Int)) = true := by simp; omega
                have f7 : ¬ (name[k]'hlt).toNat ≤ 57 := by omega
                have gf7 : decide (((name[k]'hlt).toNat : Int) ≤ 57) = false := by simp; omega
                have f5 : (((name[k]'hlt).toNat : Int) == 95) = false := by simp; omega
                have HA := Lib.hid ha
                clear ha hc
                have hw : wordB (name[k]'hlt) = false := by rw [HW.out]; have := HC.out; have := HA.out; exact decide_eq_false (by omega)
                have HZ := Lib.hid (show (P0 && (name.data.toList.take (k + 1)).all wordB) = false by rw [HS.out, hw]; rfl)
                clear hw
                go_wp2_with fail
                go_round
                case rel => exact ⟨k + 1, HL.out, by go_num, ⟨false, rfl, HZ.out.symm⟩, HX.out⟩
                case measure => have := HL.out; simp [intOf]; omega
        · have hke : k = name.size := by omega
          have hbn : b = nameB name := by rw [HB.out, hke, List.take_of_length_le (by simp), HP0.out]; rfl
          have HBN := Lib.hid hbn
          have HNG := Lib.hid (show noGt name 0 name.size by rw [← hke]; exact HN.out)
          clear hke hbn
          go_wp2_with fail
          obtain ⟨U, hU⟩ : ∃ U, U = (⟨#[40, 63, 80, 60]⟩ : ByteArray) ++ name ++ ⟨#[62]⟩ ++ behind := ⟨_, rfl⟩
          have hUl : U.data.toList = [40, 63, 80, 60] ++ name.data.toList ++ [62] ++ behind.data.toList := by rw [hU]; exact append_list (append_list (append_list rfl rfl) rfl) rfl
          have hUs : U.size ≤ 1000000000000000 := by rw [size_of_list hUl]; simp; omega
          rw [← hU]
          have HT4 := Lib.hid (tell_four U name _ hUl HNG.out)
          clear hU hUl
          refine (scan_Name U 0 _ (by omega) hUs).mono ?_
          rintro e w5 ⟨rfl, hB5⟩
          rw [HT4.out]
          have B5 := Lib.hid (below_then B4.out hB5); clear hB5
          obtain ⟨V, hV⟩ : ∃ V, V = (⟨#[40, 63, 60]⟩ : ByteArray) ++ name ++ ⟨#[62]⟩ ++ behind := ⟨_, rfl⟩
          have hVl : V.data.toList = [40, 63, 60] ++ name.data.toList ++ [62] ++ behind.data.toList := by rw [hV]; exact append_list (append_list (append_list rfl rfl) rfl) rfl
          have hVs : V.size ≤ 1000000000000000 := by rw [size_of_list hVl]; simp; omega
          have HV := Lib.hid hV
          have HT3 := Lib.hid (tell_three V name _ hVl HNG.out)
          clear hV hVl
          rw [HBN.out]
          cases hnb : nameB name with
          | true =>
            rw [if_pos rfl]
            simp only [nameV]
            go_wp2_with fail
            rw [← HV.out]
            refine (scan_Name V 0 _ (by omega) hVs).mono ?_
            rintro e w6 ⟨rfl, hB6⟩
            rw [HT3.out, hnb, if_pos rfl]
            have B6 := Lib.hid ((B5.out.alloc B5.out.size _).trans (hB6.mono (by have := B5.out.size; simp only [World.size_alloc]; omega)))
            obtain ⟨y, hlty⟩ := agg_kept2 (cs := [.int .i64 0, .int .i64 0, .int .i64 0]) hB6 (.cells #[.int .i64 0, .int .i64 0, .int .i64 0] 30)
            have z := Blk.new w6 [.int .i64 0, .int .i64 0, .int .i64 0] 30
            have y0 := Blk.cell y (j := 0) rfl; have y1 := Blk.cell y (j := 1) rfl; have y2 := Blk.cell y (j := 2) rfl
            have z0 := Blk.cell z (j := 0) rfl; have z1 := Blk.cell z (j := 1) rfl; have z2 := Blk.cell z (j := 2) rfl
            clear hB6 y z
            simp only [nameV]
            go_wp2_with fail
            go_ret
            exact ⟨rfl, B6.out.alloc (by have := B6.out.size; omega) _⟩
          | false =>
            rw [if_neg (by simp)]
            simp only [nameV]
            go_wp2_with fail
            rw [← HV.out]
            refine (scan_Name V 0 _ (by omega) hVs).mono ?_
            rintro e w6 ⟨rfl, hB6⟩
            rw [HT3.out, hnb, if_neg (by simp)]
            have B6 := Lib.hid ((B5.out.alloc B5.out.size _).trans (hB6.mono (by have := B5.out.size; simp only [World.size_alloc]; omega)))
            obtain ⟨y, hlty⟩ := agg_kept2 (cs := [.int .i64 64, .int .i64 0, .int .i64 (endP U 0 : Int)]) hB6 (.cells #[.int .i64 64, .int .i64 0, .int .i64 (endP V 0 : Int)] 30)
            have z := Blk.new w6 [.int .i64 64, .int .i64 0, .int .i64 (endP V 0 : Int)] 30
            have y0 := Blk.cell y (j := 0) rfl; have y1 := Blk.cell y (j := 1) rfl; have y2 := Blk.cell y (j := 2) rfl
            have z0 := Blk.cell z (j := 0) rfl; have z1 := Blk.cell z (j := 1) rfl; have z2 := Blk.cell z (j := 2) rfl
            clear hB6 y z
            simp only [nameV]
            go_wp2_with fail
            go_ret
            exact ⟨rfl, B6.out.alloc (by have := B6.out.size; omega) _⟩
end Go.Proofs.YtjmgboegipeijaaGreatDoor
