/- The small readers of layer 6, on: numbers. -/
import Derived.Test.YtjmgboegipeijaaGreatDoorScan2
namespace Go.Proofs.YtjmgboegipeijaaGreatDoor
open Go Go.RowKit Go.Proofs

def isDig (c : UInt8) : Prop := (48 ≤ c.toNat ∧ c.toNat ≤ 57) ∨ (97 ≤ c.toNat ∧ c.toNat ≤ 102)
theorem numP_bd (base most : Int) (hm : 0 ≤ most) (hb : 0 ≤ base) : ∀ (l : List UInt8) (n : Int), (∀ c ∈ l, isDig c) → 0 ≤ n → n ≤ most + 1 → 0 ≤ numP base most n l ∧ numP base most n l ≤ most + 1
  | [], n, _, h0, h1 => ⟨h0, h1⟩
  | c :: l, n, hc, h0, h1 => by
    have h48 := hc c (by simp)
    unfold isDig at h48
    have hq : 0 ≤ n * base := Int.mul_nonneg h0 hb
    refine numP_bd base most hm hb l _ (fun d hd => hc d (by simp [hd])) ?_ ?_ <;> (split <;> omega)
theorem numP_snoc (base most : Int) : ∀ (l : List UInt8) (n : Int) (c : UInt8), numP base most n (l ++ [c]) = min (numP base most n l * base + (if c.toNat > 57 then (c.toNat : Int) - 87 else (c.toNat : Int) - 48)) (most + 1)
  | [], _, _ => rfl
  | _ :: l, _, c => numP_snoc base most l _ c

set_option maxHeartbeats 400000 in
theorem scan_number (s : ByteArray) (base most : Int) (w : World) (hl : s.size ≤ 140737488355328) (hb : 2 ≤ base ∧ base ≤ 16) (hm : 0 ≤ most ∧ most ≤ 10000000)
    (hd : ∀ c ∈ Lib.toLowerA s.data.toList, isDig c) (ha : ∀ (j : Nat) (b : UInt8), s.data.toList[j]? = some b → b.toNat < 128) :
    Calls Tryz.prog 38 #[.string s, .int .i64 base, .int .i64 most] w fun e w' => e = .returned (.int .i64 (numP base most 0 (Lib.toLowerA s.data.toList))) ∧ Below w.heap.size w w' := by
  obtain ⟨hb1, hb2⟩ := hb
  obtain ⟨hm1, hm2⟩ := hm
  have HD := Lib.hid hd; clear hd
  have HA := Lib.hid ha; clear ha
  go_enter Tryz.func38, Tryz.ntmps38
  go_wp2_with fail
  refine (Tryz.strings_ToLower_ascii _ _ (by omega) HA.out).mono ?_
  rintro e w1 ⟨rfl, hB⟩
  have HB := Lib.hid hB; clear hB
  obtain ⟨L, hL⟩ : ∃ L, L = Lib.toLowerA s.data.toList := ⟨_, rfl⟩
  have hlen : L.length = s.size := by rw [hL]; simp [Lib.toLowerA]
  have hlen' : L.length ≤ 140737488355328 := by omega
  have HLn := Lib.hid hlen; clear hlen
  rw [← hL] at HD ⊢
  have HL := Lib.hid hL; clear hL
  obtain ⟨cap, w2, hrun, hc, hbl2, hs2⟩ := conv_bytes (P := Tryz.prog) w1 9 104 5 ⟨L.toArray⟩ Tryz.underlying9 Tryz.underlying104 Tryz.underlying5
  have HC := Lib.hid hc; clear hc
  have HB2 := Lib.hid hbl2; clear hbl2
  have HS2 := Lib.hid hs2; clear hs2
  go_wp2_with fail
  clear hrun
  go_loop [7, 15] (fun n i => ∃ k : Nat, k ≤ L.length ∧ i = .int .i64 k ∧ n = .int .i64 (numP base most 0 (L.take k))) (fun _ i => L.length - (intOf i).toNat)
  case atStart => exact ⟨0, Nat.zero_le _, rfl, by simp [numP]⟩
  case round =>
    obtain ⟨k, hk, rfl, rfl⟩ := hrel
    by_cases hlt : k < L.length
    · have hcell := HC.out k (by show k < L.toArray.size; simpa using hlt)
      have hD := HD.out L[k] (List.getElem_mem hlt)
      have hn := numP_bd base most hm1 (by omega) (L.take k) 0 (fun c hc => HD.out c (List.mem_of_mem_take hc)) (Int.le_refl _) (by omega)
      have hst : numP base most 0 (L.take (k + 1)) = min (numP base most 0 (L.take k) * base + (if L[k].toNat > 57 then (L[k].toNat : Int) - 87 else (L[k].toNat : Int) - 48)) (most + 1) := by
        rw [List.take_succ_eq_append_getElem hlt, numP_snoc]
      have HST := Lib.hid hst; clear hst
      simp only [List.getD_eq_getElem?_getD, List.getElem?_eq_getElem hlt, Option.getD_some] at hcell
      generalize numP base most 0 (L.take k) = N at *
      generalize L[k] = c at *
      have hN : N * base ≤ 160000016 := by
        have := Int.mul_le_mul hn.2 hb2 (by omega) (by omega)
        omega
      have hN0 : 0 ≤ N * base := Int.mul_nonneg hn.1 (by omega)
      unfold isDig at hD
      have hD1 : 48 ≤ c.toNat := by omega
      have hD2 : c.toNat ≤ 102 := by omega
      obtain ⟨hn1, hn2⟩ := hn
      by_cases h57 : 57 < c.toNat
      · have hD3 : 97 ≤ c.toNat := by omega
        clear hD
        go_wp2_with fail
        go_round
        case rel =>
          refine ⟨k + 1, by omega, by go_num, ?_⟩
          rw [HST.out, if_pos h57]
          exact congrArg (Value.int .i64) (by omega)
        case measure => simp [intOf]; omega
      · clear hD
        go_wp2_with fail
        go_round
        case rel =>
          refine ⟨k + 1, by omega, by go_num, ?_⟩
          rw [HST.out, if_neg h57]
        case measure => simp [intOf]; omega
    · have hk' : k = L.length := by omega
      have hq : numP base most 0 (L.take k) = numP base most 0 (Lib.toLowerA s.data.toList) := by rw [hk', List.take_length, HL.out]
      have HQ := Lib.hid hq; clear hq
      clear hk'
      go_wp2_with fail
      go_ret
      exact ⟨by rw [← HQ.out]; rfl, below_then HB.out HB2.out⟩
end Go.Proofs.YtjmgboegipeijaaGreatDoor
