/- The small readers of layer 6, on: numbers. The document's small readers: digits. -/
import Derived.Test.YtnafemcholkmlaaGreatDoorQScan1
namespace Go.Proofs.YtnafemcholkmlaaGreatDoor
open Go Go.RowKit Go.Proofs

def isDig (c : UInt8) : Prop := (48 ≤ c.toNat ∧ c.toNat ≤ 57) ∨ (97 ≤ c.toNat ∧ c.toNat ≤ 102)
theorem numP_bd (base most : Int) (hm : 0 ≤ most) (hb : 0 ≤ base) : ∀ (l : List UInt8) (n : Int), (∀ c ∈ l, isDig c) → 0 ≤ n → n ≤ most + 1 → 0 ≤ numP base most n l ∧ numP base most n l ≤ most + 1
  | [], n, _, h0, h1 => ⟨h0, h1⟩
  | c :: l, n, hc, h0, h1 => by
    have h48 := hc c (by simp)
    unfold isDig at h48
    have hq : 0 ≤ n * base := Int.mul_nonneg h0 hb
    refine numP_bd base most hm hb l _ (fun d hd => hc d (by simp [hd])) ?_ ?_ <;> (split <;> omega)
theorem numP_snoc (base most : Int) : ∀ (l : List UInt8) (n : Int) (c : UInt8), numP base most n (l ++ [c]) = min (numP base most n l * base + (if c.toNat > 57 then (c.toNat : Int) - 87 else (c.toNat : Int) - 48)) (most + 1)
  | [], _, _ => rfl
  | _ :: l, _, c => numP_snoc base most l _ c

set_option maxHeartbeats 400000 in
theorem scan_number (s : ByteArray) (base most : Int) (w : World) (hl : s.size ≤ 140737488355328) (hb : 2 ≤ base ∧ base ≤ 16) (hm : 0 ≤ most ∧ most ≤ 10000000)
    (hd : ∀ c ∈ Lib.toLowerA s.data.toList, isDig c) (ha : ∀ (j : Nat) (b : UInt8), s.data.toList[j]? = some b → b.toNat < 128) :
    Calls Tryz.prog 109 #[.string s, .int .i64 base, .int .i64 most] w fun e w' => e = .returned (.int .i64 (numP base most 0 (Lib.toLowerA s.data.toList))) ∧ Below w.heap.size w w' := by
  obtain ⟨hb1, hb2⟩ := hb
  obtain ⟨hm1, hm2⟩ := hm
  have HD := Lib.hid hd; clear hd
  have HA := Lib.hid ha; clear ha
  go_enter Tryz.func109, Tryz.ntmps109
  go_wp2_with fail
  refine (Tryz.strings_ToLower_ascii _ _ (by omega) HA.out).mono ?_
  rintro e w1 ⟨rfl, hB⟩
  have HB := Lib.hid hB; clear hB
  obtain ⟨L, hL⟩ : ∃ L, L = Lib.toLowerA s.data.toList := ⟨_, rfl⟩
  have hlen : L.length = s.size := by rw [hL]; simp [Lib.toLowerA]
  have hlen' : L.length ≤ 140737488355328 := by omega
  have HLn := Lib.hid hlen; clear hlen
  rw [← hL] at HD ⊢
  have HL := Lib.hid hL; clear hL
  obtain ⟨cap, w2, hrun, hc, hbl2, hs2⟩ := conv_bytes (P := Tryz.prog) w1 9 106 5 ⟨L.toArray⟩ Tryz.underlying9 Tryz.underlying106 Tryz.underlying5
  have HC := Lib.hid hc; clear hc
  have HB2 := Lib.hid hbl2; clear hbl2
  have HS2 := Lib.hid hs2; clear hs2
  go_wp2_with fail
  clear hrun
  go_loop [7, 15] (fun n i => ∃ k : Nat, k ≤ L.length ∧ i = .int .i64 k ∧ n = .int .i64 (numP base most 0 (L.take k))) (fun _ i => L.length - (intOf i).toNat)
  case atStart => exact ⟨0, Nat.zero_le _, rfl, by simp [numP]⟩
  case round =>
    obtain ⟨k, hk, rfl, rfl⟩ := hrel
    by_cases hlt : k < L.length
    · have hcell := HC.out k (by show k < L.toArray.size; simpa using hlt)
      have hD := HD.out L[k] (List.getElem_mem hlt)
      have hn := numP_bd base most hm1 (by omega) (L.take k) 0 (fun c hc => HD.out c (List.mem_of_mem_take hc)) (Int.le_refl _) (by omega)
      have hst : numP base most 0 (L.take (k + 1)) = min (numP base most 0 (L.take k) * base + (if L[k].toNat > 57 then (L[k].toNat : Int) - 87 else (L[k].toNat : Int) - 48)) (most + 1) := by
        rw [List.take_succ_eq_append_getElem hlt, numP_snoc]
      have HST := Lib.hid hst; clear hst
      simp only [List.getD_eq_getElem?_getD, List.getElem?_eq_getElem hlt, Option.getD_some] at hcell
      generalize numP base most 0 (L.take k) = N at *
      generalize L[k] = c at *
      have hN : N * base ≤ 160000016 := by
        have := Int.mul_le_mul hn.2 hb2 (by omega) (by omega)
        omega
      have hN0 : 0 ≤ N * base := Int.mul_nonneg hn.1 (by omega)
      unfold isDig at hD
      have hD1 : 48 ≤ c.toNat := by omega
      have hD2 : c.toNat ≤ 102 := by omega
      obtain ⟨hn1, hn2⟩ := hn
      by_cases h57 : 57 < c.toNat
      · have hD3 : 97 ≤ c.toNat := by omega
        clear hD
        go_wp2_with fail
        go_round
        case rel =>
          refine ⟨k + 1, by omega, by go_num, ?_⟩
          rw [HST.out, if_pos h57]
          exact congrArg (Value.int .i64) (by omega)
        case measure => simp [intOf]; omega
      · clear hD
        go_wp2_with fail
        go_round
        case rel =>
          refine ⟨k + 1, by omega, by go_num, ?_⟩
          rw [HST.out, if_neg h57]
        case measure => simp [intOf]; omega
    · have hk' : k = L.length := by omega
      have hq : numP base most 0 (L.take k) = numP base most 0 (Lib.toLowerA s.data.toList) := by rw [hk', List.take_length, HL.out]
      have HQ := Lib.hid hq; clear hq
      clear hk'
      go_wp2_with fail
      go_ret
      exact ⟨by rw [← HQ.out]; rfl, below_then HB.out HB2.out⟩
end Go.Proofs.YtnafemcholkmlaaGreatDoor

namespace Go.Proofs.YtnafemcholkmlaaGreatDoor
open Go Go.RowKit Go.Proofs

def digs : List UInt8 := [48, 49, 50, 51, 52, 53, 54, 55, 56, 57]
theorem digs_iff (c : UInt8) : digs.contains c = true ↔ 48 ≤ c.toNat ∧ c.toNat ≤ 57 := by
  constructor
  · intro h
    have : c ∈ digs := by simpa using h
    simp only [digs, List.mem_cons, List.mem_nil_iff, or_false] at this
    rcases this with rfl | rfl | rfl | rfl | rfl | rfl | rfl | rfl | rfl | rfl <;> decide
  · rintro ⟨h1, h2⟩
    have hc : c = UInt8.ofNat c.toNat := by simp
    rw [hc]
    obtain ⟨n, hn⟩ : ∃ n, c.toNat = n := ⟨_, rfl⟩
    rw [hn] at h1 h2 ⊢
    have : n = 48 ∨ n = 49 ∨ n = 50 ∨ n = 51 ∨ n = 52 ∨ n = 53 ∨ n = 54 ∨ n = 55 ∨ n = 56 ∨ n = 57 := by omega
    rcases this with rfl | rfl | rfl | rfl | rfl | rfl | rfl | rfl | rfl | rfl <;> decide

theorem takeWhile_yes {α : Type} (p : α → Bool) : ∀ (l : List α), ∀ c ∈ l.takeWhile p, p c = true
  | [], _, h => by simp at h
  | a :: l, c, h => by
    by_cases ha : p a = true
    · rw [List.takeWhile_cons_of_pos ha] at h
      rcases List.mem_cons.1 h with rfl | h
      · exact ha
      · exact takeWhile_yes p l c h
    · rw [List.takeWhile_cons_of_neg ha] at h
      simp at h
theorem takeWhile_no {α : Type} (p : α → Bool) : ∀ (l : List α) (h : (l.takeWhile p).length < l.length), p (l[(l.takeWhile p).length]) = false
  | [], h => by simp at h
  | a :: l, h => by
    by_cases ha : p a = true
    · have e := List.takeWhile_cons_of_pos (l := l) ha
      have hl : (l.takeWhile p).length < l.length := by rw [e] at h; simpa using h
      have := takeWhile_no p l hl
      simp only [e, List.length_cons, List.getElem_cons_succ]
      exact this
    · have e := List.takeWhile_cons_of_neg (l := l) ha
      simp only [e, List.length_nil, List.getElem_cons_zero]
      simpa using ha

theorem getElem_toList (s : ByteArray) (i : Nat) (h : i < s.size) : s.data.toList[i]? = some s[i] := by
  rw [List.getElem?_eq_getElem (by simpa using h)]
  rfl
theorem runP_getElem (s : ByteArray) (p : Nat) (cs : List UInt8) (k : Nat) (h : k < (runP s p cs).length) : ∃ h' : p + k < s.size, s[p + k] = (runP s p cs)[k] ∧ cs.contains (runP s p cs)[k] = true := by
  have hl := runP_le s p cs
  refine ⟨by omega, ?_, takeWhile_yes _ _ _ (List.getElem_mem h)⟩
  have hp : (runP s p cs) <+: s.data.toList.drop p := List.takeWhile_prefix _
  have h1 := hp.getElem h
  have h2 := getElem_toList s (p + k) (by omega)
  rw [h1, List.getElem_drop]
  exact Option.some.inj (h2.symm.trans (List.getElem?_eq_getElem _))
theorem runP_end (s : ByteArray) (p : Nat) (cs : List UInt8) (h : p + (runP s p cs).length < s.size) : cs.contains (s[p + (runP s p cs).length]) = false := by
  have e1 : s.data.toList.length = s.size := by simp
  have hl : ((s.data.toList.drop p).takeWhile (fun x => cs.contains x)).length < (s.data.toList.drop p).length := by
    unfold runP at h
    rw [List.length_drop, e1]; omega
  have := takeWhile_no (fun x => cs.contains x) _ hl
  simp only [List.getElem_drop] at this
  have h2 := getElem_toList s (p + (runP s p cs).length) h
  have h3 := h2.symm.trans (List.getElem?_eq_getElem (by rw [e1]; exact h))
  rw [Option.some.inj h3]
  exact this
theorem runP_le_size (s : ByteArray) (p : Nat) (cs : List UInt8) (hp : p ≤ s.size) : p + (runP s p cs).length ≤ s.size := by
  have := runP_le s p cs
  omega
theorem lower_digs {l : List UInt8} (h : ∀ c ∈ l, digs.contains c = true) : Lib.toLowerA l = l := by
  unfold Lib.toLowerA
  apply (List.map_congr_left (g := id) ?_).trans (List.map_id l)
  intro c hc
  have : c ∈ digs := by simpa using h c hc
  simp only [digs, List.mem_cons, List.mem_nil_iff, or_false] at this
  rcases this with rfl | rfl | rfl | rfl | rfl | rfl | rfl | rfl | rfl | rfl <;> decide

theorem ret3 {a a' b b' : Int} {c c' : Bool} (h1 : a = a') (h2 : b = b') (h3 : c = c') : Ending.returned (.tuple #[.int .i64 a, .int .i64 b, .bool c]) = .returned (.tuple #[.int .i64 a', .int .i64 b', .bool c']) := by
  subst h1; subst h2; subst h3; rfl

end Go.Proofs.YtnafemcholkmlaaGreatDoor
