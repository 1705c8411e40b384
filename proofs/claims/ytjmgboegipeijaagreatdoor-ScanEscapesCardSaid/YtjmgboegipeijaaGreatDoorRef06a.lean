/- The document's small readers: digits. -/
import Derived.Test.YtjmgboegipeijaaGreatDoorScan3
namespace Go.Proofs.YtjmgboegipeijaaGreatDoor
open Go Go.RowKit Go.Proofs

def digs : List UInt8 := [48, 49, 50, 51, 52, 53, 54, 55, 56, 57]
theorem digs_iff (c : UInt8) : digs.contains c = true ↔ 48 ≤ c.toNat ∧ c.toNat ≤ 57 := by
  constructor
  · intro h
    have : c ∈ digs := by simpa using h
    simp only [digs, List.mem_cons, List.mem_nil_iff, or_false] at this
    rcases this with rfl | rfl | rfl | rfl | rfl | rfl | rfl | rfl | rfl | rfl <;> decide
  · rintro ⟨h1, h2⟩
    have hc : c = UInt8.ofNat c.toNat := by simp
    rw [hc]
    obtain ⟨n, hn⟩ : ∃ n, c.toNat = n := ⟨_, rfl⟩
    rw [hn] at h1 h2 ⊢
    have : n = 48 ∨ n = 49 ∨ n = 50 ∨ n = 51 ∨ n = 52 ∨ n = 53 ∨ n = 54 ∨ n = 55 ∨ n = 56 ∨ n = 57 := by omega
    rcases this with rfl | rfl | rfl | rfl | rfl | rfl | rfl | rfl | rfl | rfl <;> decide

theorem takeWhile_yes {α : Type} (p : α → Bool) : ∀ (l : List α), ∀ c ∈ l.takeWhile p, p c = true
  | [], _, h => by simp at h
  | a :: l, c, h => by
    by_cases ha : p a = true
    · rw [List.takeWhile_cons_of_pos ha] at h
      rcases List.mem_cons.1 h with rfl | h
      · exact ha
      · exact takeWhile_yes p l c h
    · rw [List.takeWhile_cons_of_neg ha] at h
      simp at h
theorem takeWhile_no {α : Type} (p : α → Bool) : ∀ (l : List α) (h : (l.takeWhile p).length < l.length), p (l[(l.takeWhile p).length]) = false
  | [], h => by simp at h
  | a :: l, h => by
    by_cases ha : p a = true
    · have e := List.takeWhile_cons_of_pos (l := l) ha
      have hl : (l.takeWhile p).length < l.length := by rw [e] at h; simpa using h
      have := takeWhile_no p l hl
      simp only [e, List.length_cons, List.getElem_cons_succ]
      exact this
    · have e := List.takeWhile_cons_of_neg (l := l) ha
      simp only [e, List.length_nil, List.getElem_cons_zero]
      simpa using ha

theorem getElem_toList (s : ByteArray) (i : Nat) (h : i < s.size) : s.data.toList[i]? = some s[i] := by
  rw [List.getElem?_eq_getElem (by simpa using h)]
  rfl
theorem runP_getElem (s : ByteArray) (p : Nat) (cs : List UInt8) (k : Nat) (h : k < (runP s p cs).length) : ∃ h' : p + k < s.size, s[p + k] = (runP s p cs)[k] ∧ cs.contains (runP s p cs)[k] = true := by
  have hl := runP_le s p cs
  refine ⟨by omega, ?_, takeWhile_yes _ _ _ (List.getElem_mem h)⟩
  have hp : (runP s p cs) <+: s.data.toList.drop p := List.takeWhile_prefix _
  have h1 := hp.getElem h
  have h2 := getElem_toList s (p + k) (by omega)
  rw [h1, List.getElem_drop]
  exact Option.some.inj (h2.symm.trans (List.getElem?_eq_getElem _))
theorem runP_end (s : ByteArray) (p : Nat) (cs : List UInt8) (h : p + (runP s p cs).length < s.size) : cs.contains (s[p + (runP s p cs).length]) = false := by
  have e1 : s.data.toList.length = s.size := by simp
  have hl : ((s.data.toList.drop p).takeWhile (fun x => cs.contains x)).length < (s.data.toList.drop p).length := by
    unfold runP at h
    rw [List.length_drop, e1]; omega
  have := takeWhile_no (fun x => cs.contains x) _ hl
  simp only [List.getElem_drop] at this
  have h2 := getElem_toList s (p + (runP s p cs).length) h
  have h3 := h2.symm.trans (List.getElem?_eq_getElem (by rw [e1]; exact h))
  rw [Option.some.inj h3]
  exact this
theorem runP_le_size (s : ByteArray) (p : Nat) (cs : List UInt8) (hp : p ≤ s.size) : p + (runP s p cs).length ≤ s.size := by
  have := runP_le s p cs
  omega
theorem lower_digs {l : List UInt8} (h : ∀ c ∈ l, digs.contains c = true) : Lib.toLowerA l = l := by
  unfold Lib.toLowerA
  apply (List.map_congr_left (g := id) ?_).trans (List.map_id l)
  intro c hc
  have : c ∈ digs := by simpa using h c hc
  simp only [digs, List.mem_cons, List.mem_nil_iff, or_false] at this
  rcases this with rfl | rfl | rfl | rfl | rfl | rfl | rfl | rfl | rfl | rfl <;> decide

theorem ret3 {a a' b b' : Int} {c c' : Bool} (h1 : a = a') (h2 : b = b') (h3 : c = c') : Ending.returned (.tuple #[.int .i64 a, .int .i64 b, .bool c]) = .returned (.tuple #[.int .i64 a', .int .i64 b', .bool c']) := by
  subst h1; subst h2; subst h3; rfl

set_option maxHeartbeats 400000 in
theorem ref06_digits (s : ByteArray) (p : Nat) (w : World) (hp : p ≤ s.size) (hs : s.size ≤ 140737488355328) :
    Calls Tryz.prog 39 #[.string s, .int .i64 p] w fun e w' => e = .returned (.tuple #[.int .i64 (numP 10 1000 0 (runP s p digs)), .int .i64 ((p + (runP s p digs).length : Nat) : Int), .bool (decide (0 < (runP s p digs).length))]) ∧ w = w' := by
  have hle := runP_le_size s p digs hp
  go_enter Tryz.func39, Tryz.ntmps39
  go_wp2_with fail
  go_loop [7, 8] (fun n i => ∃ k : Nat, k ≤ (runP s p digs).length ∧ i = .int .i64 ((p + k : Nat) : Int) ∧ n = .int .i64 (numP 10 1000 0 ((runP s p digs).take k))) (fun _ i => s.size - (intOf i).toNat)
  case atStart => exact ⟨0, Nat.zero_le _, rfl, by simp [numP]⟩
  case round =>
    obtain ⟨k, hk, rfl, rfl⟩ := hrel
    by_cases hlt : k < (runP s p digs).length
    · obtain ⟨h', hg, hc⟩ := runP_getElem s p digs k hlt
      have hd := (digs_iff _).1 hc
      rw [← hg] at hd
      have hn := numP_bd 10 1000 (by omega) (by omega) ((runP s p digs).take k) 0 (fun c hc => .inl ((digs_iff c).1 (takeWhile_yes _ _ c (List.mem_of_mem_take hc)))) (Int.le_refl _) (by omega)
      have hst : numP 10 1000 0 ((runP s p digs).take (k + 1)) = min (numP 10 1000 0 ((runP s p digs).take k) * 10 + ((s[p + k].toNat : Int) - 48)) (1000 + 1) := by
        rw [List.take_succ_eq_append_getElem hlt, numP_snoc, ← hg, if_neg (by omega)]
      have HST := Lib.hid hst; clear hst hg hc
      obtain ⟨hd1, hd2⟩ := hd
      obtain ⟨hn1, hn2⟩ := hn
      go_wp2_with fail
      go_round
      case rel =>
        refine ⟨k + 1, by omega, by go_num, ?_⟩
        rw [HST.out]
        exact congrArg (Value.int .i64) (by omega)
      case measure => simp [intOf]; omega
    · have hk' : k = (runP s p digs).length := by omega
      have hend := runP_end s p digs
      rw [← hk'] at hend
      have HQ := Lib.hid (show (runP s p digs).take k = runP s p digs by rw [hk', List.take_length])
      by_cases hlt2 : p + k < s.size
      · have hc := hend hlt2
        have hc' : ¬ (48 ≤ s[p + k].toNat ∧ s[p + k].toNat ≤ 57) := fun h => by rw [(digs_iff _).2 h] at hc; cases hc
        have HK := Lib.hid hk'; clear hk' hend hc
        by_cases hc1 : s[p + k].toNat < 48
        · clear hc'
          go_wp2_with fail
          go_ret3
          exact ⟨ret3 (by rw [HQ.out]) (by have := HK.out; omega) (decide_eq_decide.2 (by have := HK.out; omega)), rfl⟩
        · have hc2 : 57 < s[p + k].toNat := by omega
          clear hc'
          go_wp2_with fail
          go_ret3
          exact ⟨ret3 (by rw [HQ.out]) (by have := HK.out; omega) (decide_eq_decide.2 (by have := HK.out; omega)), rfl⟩
      · have HK := Lib.hid hk'; clear hk' hend
        go_wp2_with fail
        go_ret3
        exact ⟨ret3 (by rw [HQ.out]) (by have := HK.out; omega) (decide_eq_decide.2 (by have := HK.out; omega)), rfl⟩
end Go.Proofs.YtjmgboegipeijaaGreatDoor
