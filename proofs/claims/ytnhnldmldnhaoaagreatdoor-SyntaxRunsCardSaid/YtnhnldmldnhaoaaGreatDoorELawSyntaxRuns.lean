/- SyntaxRuns: a pattern of letters and digits alone is their runes; with a count behind the last one that is repeated: the law's walk. The library's table of powers of ten, off what a row lists. -/
import Derived.Test.YtnhnldmldnhaoaaGreatDoorEShiftPure
import Derived.Test.YtnhnldmldnhaoaaGreatDoorDSyParse
import Derived.Test.YtnhnldmldnhaoaaGreatDoorDLawSyntaxDots
import Derived.Lib.AppendIntMem
import Derived.LoopTactic
import Derived.Test.YtnhnldmldnhaoaaGreatDoorProg
import Derived.Lib.LaidU8
import Derived.Lib.LaidTab
import Derived.Lib.ItoaNum
import Derived.KernelRfl
namespace Go.Proofs.YtnhnldmldnhaoaaGreatDoor
open Go Go.RowKit Go.Proofs Go.Shelf

theorem and44_key : ∀ k : Fin 64, 0 ≤ IntKind.i64.wrap (BitVec.ofNat 64 k.val &&& 44#64).toNat ∧ IntKind.i64.wrap (BitVec.ofNat 64 k.val &&& 44#64).toNat ≤ 63 ∧ onB (IntKind.i64.wrap (BitVec.ofNat 64 k.val &&& 44#64).toNat) 1 = false ∧ onB (IntKind.i64.wrap (BitVec.ofNat 64 k.val &&& 44#64).toNat) 2 = false ∧ onB (IntKind.i64.wrap (BitVec.ofNat 64 k.val &&& 44#64).toNat) 16 = false := by decide +kernel
/-- Three flags of a number. -/
theorem and44 (f : Int) : 0 ≤ bits .and .i64 f 44 ∧ bits .and .i64 f 44 ≤ 63 ∧ onB (bits .and .i64 f 44) 1 = false ∧ onB (bits .and .i64 f 44) 2 = false ∧ onB (bits .and .i64 f 44) 16 = false := by
  have hy : (BitVec.ofInt 64 f &&& 63#64).toNat < 64 := by
    rw [BitVec.toNat_and]
    exact Nat.lt_of_le_of_lt Nat.and_le_right (by decide)
  have he : BitVec.ofInt 64 f &&& BitVec.ofInt 64 44 = BitVec.ofNat 64 (BitVec.ofInt 64 f &&& 63#64).toNat &&& 44#64 := by
    rw [BitVec.ofNat_toNat, BitVec.setWidth_eq, BitVec.and_assoc, show (63#64 &&& 44#64 : BitVec 64) = 44#64 by decide]
    rfl
  have hb : bits .and .i64 f 44 = IntKind.i64.wrap (BitVec.ofNat 64 (BitVec.ofInt 64 f &&& 63#64).toNat &&& 44#64).toNat := by rw [← he]; rfl
  rw [hb]
  exact and44_key ⟨_, hy⟩
theorem below_growR (w : World) (k : Nat) (os : Array Obj) : Below w.heap.size w (Sort.grow (w.drewN k) os) := by
  refine ⟨rfl, rfl, rfl, ?_, fun j hj => ?_⟩
  · show w.heap.size ≤ (w.heap ++ os).size; rw [Array.size_append]; omega
  · show (w.heap ++ os)[j]? = w.heap[j]?
    rw [Array.getElem?_append_left hj]
theorem size_listR {a : ByteArray} {l : List UInt8} (h : a.data.toList = l) : a.size = l.length := by rw [← h, toList_len]
theorem itoaR (a : Nat) : Lib.itoa (a : Int) = Lib.decDigits a := by
  unfold Lib.itoa; rw [if_neg (by omega)]; rfl
theorem app_list {a b : ByteArray} {l m : List UInt8} (ha : a.data.toList = l) (hb : b.data.toList = m) : (a ++ b).data.toList = l ++ m := by
  rw [ByteArray.data_append, Array.toList_append, ha, hb]
/-- The Kids of such a pattern. -/
theorem runs_kid (s : ByteArray) (L : List UInt8) (c : UInt8) (hL : s.data.toList = L ++ [c]) (R : T) (k : Nat) (hk : k < s.size) : ∃ h : k < (L.map leafB ++ [R]).length, (k + 1 < s.size → (L.map leafB ++ [R])[k] = leafB s[k]) ∧ (k + 1 = s.size → (L.map leafB ++ [R])[k] = R ∧ s[k] = c) := by
  have hls : s.data.toList.length = s.size := toList_len s
  have hLl : L.length + 1 = s.size := by rw [← hls, hL]; simp
  have hb := byte_at hk
  refine ⟨by simp; omega, fun h => ?_, fun h => ?_⟩
  · rw [List.getElem_append_left (by simp; omega), List.getElem_map]
    rw [hL, List.getElem?_append_left (by omega), List.getElem?_eq_getElem (by omega)] at hb
    rw [Option.some.inj hb]
  · have e : k = L.length := by omega
    subst e
    rw [hL, List.getElem?_append_right (Nat.le_refl _), Nat.sub_self] at hb
    refine ⟨?_, (Option.some.inj hb).symm⟩
    rw [List.getElem_append_right (by simp)]
    simp
theorem runs_plain {s U : ByteArray} {n m : Nat} (hU : U.data.toList = s.data.toList ++ ([123] ++ Lib.decDigits n ++ [44] ++ Lib.decDigits m ++ [125])) (ha : ∀ k (hk : k < s.size), alnum s[k] = true) : plainB U = true := by
  have hd : ∀ u : Nat, ∀ x ∈ Lib.decDigits u, x ≠ 92 ∧ x ≠ 91 ∧ x ≠ 63 := fun u x hx => by
    have h1 := decDigits_digs u x hx
    refine ⟨?_, ?_, ?_⟩ <;> (rintro rfl; exact absurd h1 (by decide))
  have hs : ∀ x ∈ s.data.toList, x ≠ 92 ∧ x ≠ 91 ∧ x ≠ 63 := fun x hx => by
    obtain ⟨k, hk, rfl⟩ := List.getElem_of_mem hx
    have hk2 : k < s.size := by rw [← toList_len]; exact hk
    have h5 := ha k hk2
    have h6 := byte_at hk2
    rw [List.getElem?_eq_getElem hk] at h6
    rw [Option.some.inj h6]
    exact ⟨alnum_ne h5 92 (by decide), alnum_ne h5 91 (by decide), alnum_ne h5 63 (by decide)⟩
  unfold plainB
  rw [List.all_eq_true]
  intro x hx
  have h : x ≠ 92 ∧ x ≠ 91 ∧ x ≠ 63 := by
    rw [hU] at hx
    simp only [List.mem_append] at hx
    rcases hx with hx | (((hx | hx) | hx) | hx) | hx
    · exact hs x hx
    · simp at hx; subst hx; decide
    · exact hd n x hx
    · simp at hx; subst hx; decide
    · exact hd m x hx
    · simp at hx; subst hx; decide
  simp [h.1, h.2.1, h.2.2]
set_option maxRecDepth 100000 in
set_option maxHeartbeats 8000000 in
theorem law_syntaxRuns (s : ByteArray) (x0 x1 f : Int) (w : World) (h0 : 0 ≤ x0 ∧ x0 < 256) (h1 : 0 ≤ x1 ∧ x1 < 256) (hs : s.size ≤ 140737488351232) (hT : TabsM w) (hP : Lib.TabIs Tryz.prog w "internal/strconv.uint64pow10" .u64 Lib.pow10Tab) :
    Calls Tryz.prog 8 #[.string s, .int .u8 x0, .int .u8 x1, .int .i64 f] w fun e w' => e = .returned (.bool true) ∧ Below w.heap.size w w' := by
  obtain ⟨a, rfl⟩ : ∃ a : Nat, x0 = a := ⟨x0.toNat, by omega⟩
  obtain ⟨b, rfl⟩ : ∃ b : Nat, x1 = b := ⟨x1.toNat, by omega⟩
  have HT := Lib.hid hT
  have HP := Lib.hid (Lib.tabBelow_of_tabIs hP)
  have hF := and44 f
  obtain ⟨F, hFe⟩ : ∃ F, F = bits .and .i64 f 44 := ⟨_, rfl⟩
  rw [← hFe] at hF
  have HF := Lib.hid hF
  have ha : a < 256 := by omega
  have hb : b < 256 := by omega
  clear hT hP hF h0 h1
  go_enter Tryz.func8, Tryz.ntmps8
  go_wp2_with fail
  refine (head08 w HT.out).mono ?_
  rintro e w1 ⟨rfl, hB⟩
  have B1 := Lib.hid hB
  clear hB
  go_wp2_with fail
  rw [← hFe]
  have HFE := Lib.hid hFe
  clear hFe
  go_loopw [10] (fun iv wr => ∃ i : Nat, i ≤ s.size ∧ iv = .int .i64 i ∧ (∀ k (hk : k < s.size), k < i → alnum s[k] = true) ∧ wr = w1) (fun iv _ => s.size - (intOf iv).toNat)
  case atStart => exact ⟨0, Nat.zero_le _, rfl, fun k _ h => absurd h (Nat.not_lt_zero _), rfl⟩
  case round =>
    obtain ⟨i, hi, rfl, hal, rfl⟩ := hrel
    have HAL := Lib.hid hal
    clear hal
    by_cases hlt : i < s.size
    · obtain ⟨C, hC⟩ : ∃ C : Int, C = ((s[i]'hlt).toNat : Int) := ⟨_, rfl⟩
      have hC2 := (s[i]'hlt).toNat_lt
      have HC := Lib.hid hC
      have hcl : C < 48 ∨ (48 ≤ C ∧ C ≤ 57) ∨ (58 ≤ C ∧ C ≤ 64) ∨ (65 ≤ C ∧ C ≤ 90) ∨ (91 ≤ C ∧ C ≤ 96) ∨ (97 ≤ C ∧ C ≤ 122) ∨ 122 < C := by omega
      have hyes : (48 ≤ C ∧ C ≤ 57) ∨ (65 ≤ C ∧ C ≤ 90) ∨ (97 ≤ C ∧ C ≤ 122) → alnum (s[i]'hlt) = true := fun h => by
        rw [HC.out] at h
        unfold alnum
        exact decide_eq_true (by omega)
      have HY := Lib.hid hyes
      clear hyes
      rcases hcl with h | ⟨h, h'⟩ | ⟨h, h'⟩ | ⟨h, h'⟩ | ⟨h, h'⟩ | ⟨h, h'⟩ | h
      · have a0 : decide ((48 : Int) ≤ ((s[i]'hlt).toNat : Int)) = false := by simp only [decide_eq_false_iff_not]; omega
        have a1 : decide ((65 : Int) ≤ ((s[i]'hlt).toNat : Int)) = false := by simp only [decide_eq_false_iff_not]; omega
        have a2 : decide ((97 : Int) ≤ ((s[i]'hlt).toNat : Int)) = false := by simp only [decide_eq_false_iff_not]; omega
        clear hC
        go_wp2_with fail
        go_ret
        exact ⟨rfl, B1.out⟩
      · have HA3 := Lib.hid (show ∀ k (hk : k < s.size), k < i + 1 → alnum s[k] = true from fun k hk h2 => by
          rcases Nat.lt_or_ge k i with h3 | h3
          · exact HAL.out k hk h3
          · have e : k = i := by omega
            subst e
            exact HY.out (by omega))
        have a0 : (48 : Int) ≤ ((s[i]'hlt).toNat : Int) := by omega
        have a1 : ((s[i]'hlt).toNat : Int) ≤ (57 : Int) := by omega
        clear hC
        go_wp2_with fail
        go_roundw
        case rel => exact ⟨i + 1, hlt, by go_num, HA3.out, trivial⟩
        case measure => simp [intOf]; omega
      · have a0 : (48 : Int) ≤ ((s[i]'hlt).toNat : Int) := by omega
        have a1 : decide (((s[i]'hlt).toNat : Int) ≤ (57 : Int)) = false := by simp only [decide_eq_false_iff_not]; omega
        have a2 : decide ((65 : Int) ≤ ((s[i]'hlt).toNat : Int)) = false := by simp only [decide_eq_false_iff_not]; omega
        have a3 : decide ((97 : Int) ≤ ((s[i]'hlt).toNat : Int)) = false := by simp only [decide_eq_false_iff_not]; omega
        clear hC
        go_wp2_with fail
        go_ret
        exact ⟨rfl, B1.out⟩
      · have HA3 := Lib.hid (show ∀ k (hk : k < s.size), k < i + 1 → alnum s[k] = true from fun k hk h2 => by
          rcases Nat.lt_or_ge k i with h3 | h3
          · exact HAL.out k hk h3
          · have e : k = i := by omega
            subst e
            exact HY.out (by omega))
        have a0 : (48 : Int) ≤ ((s[i]'hlt).toNat : Int) := by omega
        have a1 : decide (((s[i]'hlt).toNat : Int) ≤ (57 : Int)) = false := by simp only [decide_eq_false_iff_not]; omega
        have a2 : (65 : Int) ≤ ((s[i]'hlt).toNat : Int) := by omega
        have a3 : ((s[i]'hlt).toNat : Int) ≤ (90 : Int) := by omega
        clear hC
        go_wp2_with fail
        go_roundw
        case rel => exact ⟨i + 1, hlt, by go_num, HA3.out, trivial⟩
        case measure => simp [intOf]; omega
      · have a0 : (48 : Int) ≤ ((s[i]'hlt).toNat : Int) := by omega
        have a1 : decide (((s[i]'hlt).toNat : Int) ≤ (57 : Int)) = false := by simp only [decide_eq_false_iff_not]; omega
        have a2 : (65 : Int) ≤ ((s[i]'hlt).toNat : Int) := by omega
        have a3 : decide (((s[i]'hlt).toNat : Int) ≤ (90 : Int)) = false := by simp only [decide_eq_false_iff_not]; omega
        have a4 : decide ((97 : Int) ≤ ((s[i]'hlt).toNat : Int)) = false := by simp only [decide_eq_false_iff_not]; omega
        clear hC
        go_wp2_with fail
        go_ret
        exact ⟨rfl, B1.out⟩
      · have HA3 := Lib.hid (show ∀ k (hk : k < s.size), k < i + 1 → alnum s[k] = true from fun k hk h2 => by
          rcases Nat.lt_or_ge k i with h3 | h3
          · exact HAL.out k hk h3
          · have e : k = i := by omega
            subst e
            exact HY.out (by omega))
        have a0 : (48 : Int) ≤ ((s[i]'hlt).toNat : Int) := by omega
        have a1 : decide (((s[i]'hlt).toNat : Int) ≤ (57 : Int)) = false := by simp only [decide_eq_false_iff_not]; omega
        have a2 : (65 : Int) ≤ ((s[i]'hlt).toNat : Int) := by omega
        have a3 : decide (((s[i]'hlt).toNat : Int) ≤ (90 : Int)) = false := by simp only [decide_eq_false_iff_not]; omega
        have a4 : (97 : Int) ≤ ((s[i]'hlt).toNat : Int) := by omega
        have a5 : ((s[i]'hlt).toNat : Int) ≤ (122 : Int) := by omega
        clear hC
        go_wp2_with fail
        go_roundw
        case rel => exact ⟨i + 1, hlt, by go_num, HA3.out, trivial⟩
        case measure => simp [intOf]; omega
      · have a0 : (48 : Int) ≤ ((s[i]'hlt).toNat : Int) := by omega
        have a1 : decide (((s[i]'hlt).toNat : Int) ≤ (57 : Int)) = false := by simp only [decide_eq_false_iff_not]; omega
        have a2 : (65 : Int) ≤ ((s[i]'hlt).toNat : Int) := by omega
        have a3 : decide (((s[i]'hlt).toNat : Int) ≤ (90 : Int)) = false := by simp only [decide_eq_false_iff_not]; omega
        have a4 : (97 : Int) ≤ ((s[i]'hlt).toNat : Int) := by omega
        have a5 : decide (((s[i]'hlt).toNat : Int) ≤ (122 : Int)) = false := by simp only [decide_eq_false_iff_not]; omega
        clear hC
        go_wp2_with fail
        go_ret
        exact ⟨rfl, B1.out⟩
    · have hal2 : ∀ k (hk : k < s.size), alnum s[k] = true := fun k hk => HAL.out k hk (by omega)
      have HA2 := Lib.hid hal2
      clear hal2
      by_cases q2 : s.size < 2
      · have q2' : (s.size : Int) < 2 := by omega
        go_wp2_with fail
        go_ret
        exact ⟨rfl, B1.out⟩
      by_cases q3 : 300 < s.size
      · have q2' : decide ((s.size : Int) < 2) = false := by simp only [decide_eq_false_iff_not]; omega
        have q3' : (300 : Int) < (s.size : Int) := by omega
        go_wp2_with fail
        go_ret
        exact ⟨rfl, B1.out⟩
      have q2' : decide ((s.size : Int) < 2) = false := by simp only [decide_eq_false_iff_not]; omega
      have q3' : decide ((300 : Int) < (s.size : Int)) = false := by simp only [decide_eq_false_iff_not]; omega
      obtain ⟨L, c, hLc⟩ : ∃ L c, s.data.toList = L ++ [c] := by
        have hne : s.data.toList ≠ [] := fun e => by have := toList_len s; rw [e] at this; simp at this; omega
        exact ⟨_, _, (List.dropLast_concat_getLast hne).symm⟩
      have HL := Lib.hid hLc
      clear hLc
      go_wp2_with fail
      refine (Tryz.strconv_Itoa (a : Int) (by omega) (by omega) _ (HP.out _ B1.out)).mono ?_
      rintro e w2 ⟨rfl, k2, os2, rfl⟩
      have B2 := Lib.hid (below_then B1.out (below_growR wr k2 os2))
      obtain ⟨w2, hw2⟩ : ∃ w2, Sort.grow (wr.drewN k2) os2 = w2 := ⟨_, rfl⟩
      rw [hw2] at B2 ⊢
      clear hw2
      rw [itoaR]
      obtain ⟨A, hA⟩ : ∃ A, A = (⟨(Lib.decDigits a).toArray⟩ : ByteArray) := ⟨_, rfl⟩
      have hAl : A.data.toList = Lib.decDigits a := by rw [hA]
      have hAs : A.size ≤ 4 := by rw [size_listR hAl]; exact decDigits_len (by omega)
      rw [← hA]
      have HAl := Lib.hid hAl; clear hA hAl
      go_wp2_with fail
      refine (Tryz.strconv_Itoa ((a : Int) + (b : Int)) (by omega) (by omega) _ (HP.out _ B2.out)).mono ?_
      rintro e w3 ⟨rfl, k3, os3, rfl⟩
      have B3 := Lib.hid (below_then B2.out (below_growR w2 k3 os3))
      obtain ⟨w3, hw3⟩ : ∃ w3, Sort.grow (w2.drewN k3) os3 = w3 := ⟨_, rfl⟩
      rw [hw3] at B3 ⊢
      clear hw3
      rw [show Lib.itoa ((a : Int) + (b : Int)) = Lib.decDigits (a + b) by rw [← Int.natCast_add]; exact itoaR _]
      obtain ⟨D, hD⟩ : ∃ D, D = (⟨(Lib.decDigits (a + b)).toArray⟩ : ByteArray) := ⟨_, rfl⟩
      have hDl : D.data.toList = Lib.decDigits (a + b) := by rw [hD]
      have hDs : D.size ≤ 4 := by rw [size_listR hDl]; exact decDigits_len (by omega)
      rw [← hD]
      have HDl := Lib.hid hDl; clear hD hDl
      have HT3 := Lib.hid (HT.out.below B3.out)
      go_wp2_with fail
      obtain ⟨U, hU⟩ : ∃ U, U = (s ++ ⟨#[123]⟩ ++ A ++ ⟨#[44]⟩ ++ D ++ ⟨#[125]⟩ : ByteArray) := ⟨_, rfl⟩
      have hUl : U.data.toList = s.data.toList ++ ([123] ++ Lib.decDigits a ++ [44] ++ Lib.decDigits (a + b) ++ [125]) := by
        rw [hU, app_list (app_list (app_list (app_list (app_list rfl rfl) HAl.out) rfl) HDl.out) rfl]
        simp only [List.append_assoc]
      have hUz : U.size ≤ 1000000000000000 := by
        rw [hU]
        simp only [ByteArray.size_append]
        have e1 : (⟨#[123]⟩ : ByteArray).size = 1 := rfl
        have e2 : (⟨#[44]⟩ : ByteArray).size = 1 := rfl
        have e3 : (⟨#[125]⟩ : ByteArray).size = 1 := rfl
        omega
      have hpr := parse_runs s U F a (a + b) hUl (by omega) (by omega) HA2.out (by omega) (by omega) ⟨HF.out.1, HF.out.2.1⟩ HF.out.2.2.1 HF.out.2.2.2.1 HF.out.2.2.2.2 L c HL.out
      have hpp := parse_plain U F w3 HT3.out hUz (fun _ => runs_plain hUl HA2.out)
      rw [hpr] at hpp
      have HPP := Lib.hid hpp
      rw [← hU]
      clear hU hUl hUz hpr hpp
      refine HPP.out.mono ?_
      rintro e w4 ⟨hB, cs, rfl, hT⟩
      obtain ⟨ka, kn, kc, sa, sn, sc, rfl, ⟨hkn, hkc, hKK⟩, hS⟩ := (show TreeF w4 _ (.mk 11 (L.map leafB ++ [repT 10 (leafB c) a (a + b : Nat) false]) 0 [] 0 0 ⟨#[]⟩ 0 0 false) cs from hT).open
      have hls : s.data.toList.length = s.size := toList_len s
      have hkl : (L.map leafB ++ [repT 10 (leafB c) (a : Int) ((a + b : Nat) : Int) false]).length = s.size := by
        rw [← hls, HL.out]; simp
      have hsn : sn = 0 := hS.1
      subst hsn
      obtain rfl : kn = s.size := hkn.trans hkl
      obtain ⟨kb, ko, rfl, hkb, hKF⟩ := hKK.resolve_left (by omega)
      have HKV := Lib.hid (KidsF.kidsAt (B := w4.heap.size) (fun k hk => hk.2) hKF)
      have hkb4 := hkb.2
      have hz4 := hB.size
      have B4 := Lib.hid (below_then (below_then B3.out hB) (below_two w4 (.cells #[.int .i64 11, .slice (some ⟨kb, ko, none⟩) s.size kc, .int .i32 0, .slice sa 0 sc, .int .i64 0, .int .i64 0, .string ⟨#[]⟩, .int .i64 0, .int .i64 0, .bool false] 29) (.cells #[.int .i64 0, .int .i64 0, .int .i64 0] 32)))
      have K4 := Lib.hid (KeptP.new w4 [.int .i64 11, .slice (some ⟨kb, ko, none⟩) s.size kc, .int .i32 0, .slice sa 0 sc, .int .i64 0, .int .i64 0, .string ⟨#[]⟩, .int .i64 0, .int .i64 0, .bool false] [.int .i64 0, .int .i64 0, .int .i64 0])
      have W4 := Lib.hid (below_two w4 (.cells #[.int .i64 11, .slice (some ⟨kb, ko, none⟩) s.size kc, .int .i32 0, .slice sa 0 sc, .int .i64 0, .int .i64 0, .string ⟨#[]⟩, .int .i64 0, .int .i64 0, .bool false] 29) (.cells #[.int .i64 0, .int .i64 0, .int .i64 0] 32))
      have HLK := Lib.hid hkl
      clear hB hT hKF hKK hkn hkl hkb hls hS
      have c4 := Blk.cell K4.out.e (j := 0) rfl
      have c40 := Blk.cell K4.out.t (j := 0) rfl
      have c41 := Blk.cell K4.out.t (j := 1) rfl
      have BK := B4.out
      have KK := K4.out
      have WW := W4.out
      clear B4 K4 W4
      go_wp2_with fail
      generalize hX : (w4.alloc (.cells #[.int .i64 11, .slice (some ⟨kb, ko, none⟩) s.size kc, .int .i32 0, .slice sa 0 sc, .int .i64 0, .int .i64 0, .string ⟨#[]⟩, .int .i64 0, .int .i64 0, .bool false] 29)).alloc (.cells #[.int .i64 0, .int .i64 0, .int .i64 0] 32) = W5 at c4 c40 c41 BK KK WW ⊢
      clear hX c4 c40 c41
      have HBK := Lib.hid BK; have HKK := Lib.hid KK; have HWW := Lib.hid WW
      clear BK KK WW
      go_loopw [16] (fun iv wr' => ∃ j : Nat, j ≤ s.size ∧ iv = .int .i64 j ∧ Below W5.heap.size W5 wr') (fun iv _ => s.size - (intOf iv).toNat)
      case atStart => exact ⟨0, Nat.zero_le _, rfl, Below.refl _ _⟩
      case round =>
        obtain ⟨j, hj, rfl, hb5⟩ := hrel
        have HB5 := Lib.hid hb5
        clear hb5
        by_cases hlt : j < s.size
        · have c41 := Blk.cell (HKK.out.below HB5.out).t (j := 1) rfl
          obtain ⟨hk1, hleaf, hlast⟩ := runs_kid s L c HL.out (repT 10 (leafB c) (a : Int) ((a + b : Nat) : Int) false) j hlt
          obtain ⟨cs, hc, hr⟩ := HKV.out.get j hk1
          have hb4 := below_then HWW.out HB5.out
          have hz5 := hb4.size
          have hc' := hc.below hb4
          have hr' := hr.below hb4 hkb4
          by_cases hl : j + 1 = s.size
          · obtain ⟨e1, e2⟩ := hlast hl
            rw [e1] at hc'
            obtain ⟨ka2, kn2, kc2, sa2, sn2, sc2, rfl, ⟨hkn, hkc2, hKK⟩, hS⟩ := (show TreeV wr w4.heap.size (.mk 10 [leafB c] 0 [] 0 0 ⟨#[]⟩ (a : Int) ((a + b : Nat) : Int) false) cs from hc').open
            obtain rfl : sn2 = 0 := hS.1
            obtain rfl : kn2 = 1 := hkn
            obtain ⟨b2, o2, rfl, hb2, hK2⟩ := hKK.resolve_left (by omega)
            obtain ⟨ds, hd, hr2⟩ := hK2.get 0 (by simp)
            rw [Nat.zero_mul, Nat.add_zero] at hr2
            obtain ⟨ka3, kn3, kc3, sa3, sn3, sc3, rfl, ⟨hkn3, _, _⟩, hS3⟩ := (show TreeV wr w4.heap.size (.mk 3 [] (c.toNat : Int) [] 0 0 ⟨#[]⟩ 0 0 false) ds from hd).open
            obtain rfl : sn3 = 0 := hS3.1
            obtain rfl : kn3 = 0 := hkn3
            obtain ⟨g0, g1, g2, g3, g4, g5, g6, g7, g8, g9⟩ := hr'.ten
            obtain ⟨r0, r1, r2, r3, r4, r5, r6, r7, r8, r9⟩ := hr2.ten
            have hbr : b2 < wr.heap.size := by omega
            have hkr : kb < wr.heap.size := by omega
            have hjl : ((j : Int) == (s.size : Int) - 1) = true := by rw [beq_iff_eq]; omega
            clear hc hr hc' hr' hd hr2 hK2 hKK hS hS3 hleaf hlast hb4
            go_wp2_with fail
            rw [← e2]
            clear g0 g1 g2 g3 g4 g5 g6 g7 g8 g9 r0 r1 r2 r3 r4 r5 r6 r7 r8 r9 c41 e1 e2
            have KN := Blk.new wr [.int .i64 3, .slice ka3 0 kc3, .int .i32 ((s[j]'hlt).toNat : Int), .slice sa3 0 sc3, .int .i64 0, .int .i64 0, .string ⟨#[]⟩, .int .i64 0, .int .i64 0, .bool false] 29
            have BN := (Below.refl wr.heap.size wr).alloc (Nat.le_refl _) (.cells #[.int .i64 3, .slice ka3 0 kc3, .int .i32 ((s[j]'hlt).toNat : Int), .slice sa3 0 sc3, .int .i64 0, .int .i64 0, .string ⟨#[]⟩, .int .i64 0, .int .i64 0, .bool false] 29)
            generalize hX : wr.alloc (.cells #[.int .i64 3, .slice ka3 0 kc3, .int .i32 ((s[j]'hlt).toNat : Int), .slice sa3 0 sc3, .int .i64 0, .int .i64 0, .string ⟨#[]⟩, .int .i64 0, .int .i64 0, .bool false] 29) = W6 at KN BN ⊢
            clear hX
            have n0 := Blk.cell KN (j := 0) rfl
            have n2 := Blk.cell KN (j := 2) rfl
            have hBN := Lib.hid (below_then HB5.out BN)
            clear KN BN
            have hwr : IntKind.i32.wrap ((s[j]'hlt).toNat : Int) = ((s[j]'hlt).toNat : Int) := IntWalk.i32_in _ (by have := (s[j]'hlt).toNat_lt; omega)
            go_quiet (fail)
            go_wp2_with fail
            go_roundw
            case rel => exact ⟨j + 1, hlt, by go_num, below_drewN hBN.out _⟩
            case measure => simp [intOf]; omega
          · have e1 := hleaf (by omega)
            rw [e1] at hc'
            obtain ⟨ka3, kn3, kc3, sa3, sn3, sc3, rfl, ⟨hkn3, _, _⟩, hS3⟩ := (show TreeV wr w4.heap.size (.mk 3 [] ((s[j]'hlt).toNat : Int) [] 0 0 ⟨#[]⟩ 0 0 false) cs from hc').open
            obtain rfl : sn3 = 0 := hS3.1
            obtain rfl : kn3 = 0 := hkn3
            obtain ⟨g0, g1, g2, g3, g4, g5, g6, g7, g8, g9⟩ := hr'.ten
            have hkr : kb < wr.heap.size := by omega
            have hjl : ((j : Int) == (s.size : Int) - 1) = false := by rw [beq_eq_false_iff_ne]; omega
            clear hc hr hc' hr' hS3 hleaf hlast hb4
            go_wp2_with fail
            clear g0 g1 g2 g3 g4 g5 g6 g7 g8 g9 c41 e1
            have KN := Blk.new wr [.int .i64 3, .slice ka3 0 kc3, .int .i32 ((s[j]'hlt).toNat : Int), .slice sa3 0 sc3, .int .i64 0, .int .i64 0, .string ⟨#[]⟩, .int .i64 0, .int .i64 0, .bool false] 29
            have BN := (Below.refl wr.heap.size wr).alloc (Nat.le_refl _) (.cells #[.int .i64 3, .slice ka3 0 kc3, .int .i32 ((s[j]'hlt).toNat : Int), .slice sa3 0 sc3, .int .i64 0, .int .i64 0, .string ⟨#[]⟩, .int .i64 0, .int .i64 0, .bool false] 29)
            generalize hX : wr.alloc (.cells #[.int .i64 3, .slice ka3 0 kc3, .int .i32 ((s[j]'hlt).toNat : Int), .slice sa3 0 sc3, .int .i64 0, .int .i64 0, .string ⟨#[]⟩, .int .i64 0, .int .i64 0, .bool false] 29) = W6 at KN BN ⊢
            clear hX
            have n0 := Blk.cell KN (j := 0) rfl
            have n2 := Blk.cell KN (j := 2) rfl
            have hBN := Lib.hid (below_then HB5.out BN)
            clear KN BN
            have hwr : IntKind.i32.wrap ((s[j]'hlt).toNat : Int) = ((s[j]'hlt).toNat : Int) := IntWalk.i32_in _ (by have := (s[j]'hlt).toNat_lt; omega)
            go_quiet (fail)
            go_wp2_with fail
            go_roundw
            case rel => exact ⟨j + 1, hlt, by go_num, below_drewN hBN.out _⟩
            case measure => simp [intOf]; omega
        · go_wp2_with fail
          go_ret
          exact ⟨rfl, below_then HBK.out HB5.out⟩
end Go.Proofs.YtnhnldmldnhaoaaGreatDoor

namespace Go.Proofs.YtnhnldmldnhaoaaGreatDoor
open Go Go.RowKit Go.Proofs

theorem tabIs_of_reads {P : Program} {W : World} {name : String} {k : IntKind} {zs : List Int} {g : Nat} {t e : TypeId} {n : Nat}
    (hg : P.globalNamed name = some g) (hty : (P.globals[g]?).map (·.type) = some t) (ht : P.underlying t = some (.array n e)) (he : P.underlying e = some (.int k)) (hce : P.cellsOf e = 1) (hct : P.cellsOf t = n)
    (h : Lib.VarReads P W name (Lib.tabData k zs)) : Lib.TabIs P W name k zs := by
  obtain ⟨g', t', cs, fuel, p, hg', ht', hvar, hd⟩ := h
  obtain rfl := Option.some.inj (hg.symm.trans hg')
  obtain rfl := Option.some.inj (hty.symm.trans ht')
  unfold Lib.TabIs
  rw [hvar, ← Lib.cells_of_tab ht he hce hct hd]

theorem pow_of_laid {w : World} {d : DataW Unit} (hd : d = Lib.tabData .u64 Lib.pow10Tab) (h : Lib.VarReads Tryz.prog w "internal/strconv.uint64pow10" d) : Lib.TabIs Tryz.prog w "internal/strconv.uint64pow10" .u64 Lib.pow10Tab := by
  subst hd
  exact tabIs_of_reads (g := 3) (t := 109) (e := 85) (n := 20) (by kernel_rfl) (by kernel_rfl) (by kernel_rfl) (by kernel_rfl) (by kernel_rfl) (by kernel_rfl) h
end Go.Proofs.YtnhnldmldnhaoaaGreatDoor
