/- A class of two runes with a - between: what it is. -/
import Derived.Test.YtnafemcholkmlaaGreatDoorQBrClass
import Derived.Test.YtnafemcholkmlaaGreatDoorQBrCatch
namespace Go.Proofs.YtnafemcholkmlaaGreatDoor
open Go Go.RowKit Go.Proofs Go.Shelf

theorem stands_notR {s : ByteArray} {p : Nat} {c d : UInt8} {t r : List UInt8} (hs : s.data.toList.drop p = c :: r) (h : c ≠ d) : stands s p (d :: t) = false := by
  unfold stands Lib.hasPrefix; rw [hs]; simp [List.isPrefixOf]; intro e; exact absurd e.symm h
theorem stands_of_dropR {s : ByteArray} {p : Nat} {l rest : List UInt8} (h : s.data.toList.drop p = l ++ rest) : stands s p l = true := by
  unfold stands Lib.hasPrefix
  rw [h]; simp
theorem drop_app {α : Type} (a b : List α) (n : Nat) (h : n = a.length) : (a ++ b).drop n = b := by
  rw [h]; exact List.drop_left
/-- The first byte of a rune's text. -/
theorem enc_head (r : Nat) (hv : Utf8.valid (r : Int) = true) : ∃ x t, (Utf8.encode (r : Int)).data.toList = x :: t ∧ ((r < 128 ∧ x.toNat = r ∧ t = []) ∨ (128 ≤ r ∧ 128 ≤ x.toNat)) := by
  have hv' : r < 55296 ∨ (57344 ≤ r ∧ r ≤ 1114111) := by
    unfold Utf8.valid at hv
    simp only [Bool.or_eq_true, Bool.and_eq_true, decide_eq_true_eq] at hv
    omega
  unfold Utf8.encode
  simp only [hv, if_true, Int.toNat_natCast]
  by_cases h1 : r < 128
  · simp only [h1, if_true]
    exact ⟨_, _, rfl, .inl ⟨trivial, by simp only [UInt8.toNat_ofNat']; omega, rfl⟩⟩
  · simp only [h1, if_false]
    by_cases h2 : r < 2048
    · simp only [h2, if_true]
      exact ⟨_, _, rfl, .inr ⟨by omega, by simp only [UInt8.toNat_ofNat']; omega⟩⟩
    · simp only [h2, if_false]
      by_cases h3 : r < 65536
      · simp only [h3, if_true]
        exact ⟨_, _, rfl, .inr ⟨by omega, by simp only [UInt8.toNat_ofNat']; omega⟩⟩
      · simp only [h3, if_false]
        exact ⟨_, _, rfl, .inr ⟨by omega, by simp only [UInt8.toNat_ofNat']; omega⟩⟩
theorem len_size (b : ByteArray) : b.data.toList.length = b.size := by simp
theorem enc_len (r : Nat) : (Utf8.encode (r : Int)).data.toList.length = (Utf8.encode (r : Int)).size := len_size _
theorem enc_pos (r : Nat) (hv : Utf8.valid (r : Int) = true) : 0 < (Utf8.encode (r : Int)).size := by
  obtain ⟨x, t, he, _⟩ := enc_head r hv
  rw [← enc_len, he]
  exact Nat.succ_pos _
/-- No other sign stands where a rune's text stands. -/
theorem enc_not {s : ByteArray} {p r : Nat} {rest : List UInt8} (hv : Utf8.valid (r : Int) = true) (h : s.data.toList.drop p = (Utf8.encode (r : Int)).data.toList ++ rest) (d : UInt8) (t : List UInt8) (hd : r ≠ d.toNat) (h128 : d.toNat < 128) : stands s p (d :: t) = false := by
  obtain ⟨x, u, he, hx⟩ := enc_head r hv
  rw [he] at h
  refine stands_notR h ?_
  rintro rfl
  omega
/-- A rune that is itself in a class. -/
def plainC (c : Int) : Prop := 32 < c ∧ c ≠ 92 ∧ c ≠ 93 ∧ c ≠ 91 ∧ c ≠ 65533 ∧ (c < 55296 ∨ 57343 < c) ∧ c ≤ 1114111
theorem plainC.valid {r : Nat} (h : plainC r) : Utf8.valid (r : Int) = true := by
  unfold plainC at h
  unfold Utf8.valid
  simp only [Bool.or_eq_true, Bool.and_eq_true, decide_eq_true_eq]
  omega
theorem runs_cls (a b : Nat) (ha : plainC a) (hb : plainC b) (h94 : a ≠ 94) (S : ByteArray) (hS : S.data.toList = [91] ++ ((Utf8.encode (a : Int)).data.toList ++ ([45] ++ ((Utf8.encode (b : Int)).data.toList ++ [93])))) :
    clsP S 0 false = if b < a then .wrong 72 1 (2 + (Utf8.encode (a : Int)).size + (Utf8.encode (b : Int)).size : Nat) else .ok (fun c => decide ((a : Int) ≤ c) && decide (c ≤ (b : Int))) (3 + (Utf8.encode (a : Int)).size + (Utf8.encode (b : Int)).size) := by
  have va := ha.valid; have vb := hb.valid
  obtain ⟨na, hna⟩ : ∃ n, n = (Utf8.encode (a : Int)).size := ⟨_, rfl⟩
  obtain ⟨nb, hnb⟩ : ∃ n, n = (Utf8.encode (b : Int)).size := ⟨_, rfl⟩
  have la := enc_len a; have lb := enc_len b
  have hsz : S.size = 3 + na + nb := by
    have h0 := congrArg List.length hS
    simp only [List.length_append, List.length_cons, List.length_nil, la, lb] at h0
    have : S.data.toList.length = S.size := by simp
    omega
  have d0 : S.data.toList.drop 0 = [91] ++ ((Utf8.encode (a : Int)).data.toList ++ ([45] ++ ((Utf8.encode (b : Int)).data.toList ++ [93]))) := by rw [List.drop_zero]; exact hS
  have d1 : S.data.toList.drop 1 = (Utf8.encode (a : Int)).data.toList ++ ([45] ++ ((Utf8.encode (b : Int)).data.toList ++ [93])) := by rw [hS]; exact drop_app _ _ _ rfl
  have d2 : S.data.toList.drop (1 + na) = [45] ++ ((Utf8.encode (b : Int)).data.toList ++ [93]) := by rw [← List.drop_drop, d1]; exact drop_app _ _ _ (by rw [la, hna])
  have d3 : S.data.toList.drop (1 + na + 1) = (Utf8.encode (b : Int)).data.toList ++ [93] := by rw [← List.drop_drop, d2]; exact drop_app _ _ _ rfl
  have d4 : S.data.toList.drop (1 + na + 1 + nb) = [93] := by rw [← List.drop_drop, d3]; exact drop_app _ _ _ (by rw [lb, hnb])
  have pa : 0 < na := by rw [hna]; exact enc_pos a va
  have pb : 0 < nb := by rw [hnb]; exact enc_pos b vb
  have s0 : stands S 0 [91] = true := stands_of_dropR d0
  have s1 : stands S (0 + 1) [94] = false := enc_not va d1 94 [] (by simpa using h94) (by decide)
  have c0 : clsAt S 0 = 1 := by unfold clsAt; rw [s1]; rfl
  have nm : namedP S 1 = none := by
    unfold namedP
    rw [enc_not va d1 91 [58] (by show a ≠ 91; unfold plainC at ha; omega) (by decide)]
    rfl
  have ca := nextC_enc S 1 a va (stands_of_dropR d1) (by omega)
  have cb := nextC_enc S (1 + na + 1) b vb (stands_of_dropR d3) (by omega)
  rw [← hna] at ca
  rw [← hnb] at cb
  have o1 : oneP S 1 false = .lit 1 a 0 (1 + na : Nat) := by
    unfold oneP
    rw [enc_not va d1 92 [] (by show a ≠ 92; unfold plainC at ha; omega) (by decide), ca.1, ca.2]
    rfl
  have o2 : oneP S (1 + na + 1) false = .lit 1 b 0 (1 + na + 1 + nb : Nat) := by
    unfold oneP
    rw [enc_not vb d3 92 [] (by show b ≠ 92; unfold plainC at hb; omega) (by decide), cb.1, cb.2]
    rfl
  have rg : rangedP S (1 + na) = true := by
    unfold rangedP
    rw [stands_of_dropR d2, enc_not vb d3 93 [] (by show b ≠ 93; unfold plainC at hb; omega) (by decide), decide_eq_true (show 1 + na + 1 < S.size by omega)]
    rfl
  unfold clsP
  rw [s0, c0, ← hna, ← hnb]
  simp only [not_true, if_false]
  have it : itemP S 1 false (0 : Nat) = if b < a then .wrong 72 1 (2 + na + nb : Nat) else .ok (fun c => decide ((a : Int) ≤ c) && decide (c ≤ (b : Int))) (2 + na + nb) := by
    unfold itemP
    rw [nm]
    simp only
    rw [if_neg (by omega), o1]
    simp only [Int.toNat_natCast]
    rw [if_neg (by simp), rg]
    simp only [if_true]
    rw [o2]
    simp only [Int.toNat_natCast]
    by_cases hlt : b < a
    · rw [if_pos (.inr (by omega)), if_pos hlt, show 1 + na + 1 + nb = 2 + na + nb by omega]
      rfl
    · rw [if_neg (by simp; omega), if_neg hlt, show 1 + na + 1 + nb = 2 + na + nb by omega]
  rw [it]
  by_cases hlt : b < a
  · rw [if_pos hlt, if_pos hlt]
  · rw [if_neg hlt, if_neg hlt]
    simp only
    unfold restP
    have e4 : 1 + na + 1 + nb = 2 + na + nb := by omega
    rw [e4] at d4
    rw [stands_of_dropR (l := [93]) (rest := []) (by rw [d4]; rfl)]
    simp only [if_true]
    rw [show 2 + na + nb + 1 = 3 + na + nb by omega]
theorem runs_clsQ (a b : Nat) (ha : plainC a) (hb : plainC b) (h94 : a ≠ 94) (S : ByteArray) (hS : S.data.toList = [91] ++ ((Utf8.encode (a : Int)).data.toList ++ ([45] ++ ((Utf8.encode (b : Int)).data.toList ++ [93])))) :
    (b < a → ∃ t : Int, clsQ S 0 false none = .wrong 72 1 t) ∧ (¬ b < a → ∃ q : Nat, clsQ S 0 false none = .ok (fun c => (decide ((a : Int) ≤ c) && decide (c ≤ (b : Int))) != false) q) := by
  have hc := runs_cls a b ha hb h94 S hS
  have d1 : S.data.toList.drop 1 = (Utf8.encode (a : Int)).data.toList ++ ([45] ++ ((Utf8.encode (b : Int)).data.toList ++ [93])) := by rw [hS]; exact drop_app _ _ _ rfl
  have s1 : stands S (0 + 1) [94] = false := enc_not ha.valid d1 94 [] (by simpa using h94) (by decide)
  unfold clsQ
  rw [hc, s1]
  constructor
  · intro h
    rw [if_pos h]
    exact ⟨_, rfl⟩
  · intro h
    rw [if_neg h]
    exact ⟨_, rfl⟩
theorem enc_size (r : Int) : (Utf8.encode r).size ≤ 4 := by
  unfold Utf8.encode
  dsimp only
  repeat' split
  all_goals (show Array.size _ ≤ 4; simp)
end Go.Proofs.YtnafemcholkmlaaGreatDoor
