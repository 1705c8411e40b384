/- A counted repeat written out is read as it is: the plain law. -/
import Derived.Test.YtjmgboegipeijaaGreatDoorCount
import Derived.Test.YtjmgboegipeijaaGreatDoorLettersAid
import Derived.Test.YtjmgboegipeijaaGreatDoorRefCount
import Derived.Lib.ItoaNum
namespace Go.Proofs.YtjmgboegipeijaaGreatDoor
open Go Go.RowKit Go.Proofs

theorem decDigits_step {u : Nat} (h : ¬ u < 10) : Lib.decDigits u = Lib.decDigits (u / 10) ++ [UInt8.ofNat (48 + u % 10)] := by
  rw [Lib.decDigits, dif_neg h]
theorem digit_dig {d : Nat} (h : d < 10) : digs.contains (UInt8.ofNat (48 + d)) = true := by
  rw [digs_iff]; simp; omega
theorem decDigits_digs (u : Nat) : ∀ c ∈ Lib.decDigits u, digs.contains c = true := by
  induction u using Nat.strongRecOn with
  | _ u ih =>
    by_cases h : u < 10
    · rw [Lib.decDigits_one h]
      intro c hc
      simp only [List.mem_cons, List.not_mem_nil, or_false] at hc
      subst hc; exact digit_dig h
    · rw [decDigits_step h]
      intro c hc
      rcases List.mem_append.1 hc with hc | hc
      · exact ih _ (by omega) c hc
      · simp only [List.mem_cons, List.not_mem_nil, or_false] at hc
        subst hc; exact digit_dig (by omega)
theorem decDigits_ne (u : Nat) : Lib.decDigits u ≠ [] := by
  by_cases h : u < 10
  · rw [Lib.decDigits_one h]; simp
  · rw [decDigits_step h]; simp
theorem numP_decDigits (u : Nat) : numP 10 1000 0 (Lib.decDigits u) = min (u : Int) 1001 := by
  induction u using Nat.strongRecOn with
  | _ u ih =>
    by_cases h : u < 10
    · rw [Lib.decDigits_one h]
      have hn : ¬ (UInt8.ofNat (48 + u)).toNat > 57 := by simp; omega
      have hv : ((UInt8.ofNat (48 + u)).toNat : Int) = 48 + u := by simp; omega
      simp only [numP, if_neg hn, hv]; omega
    · have hn : ¬ (UInt8.ofNat (48 + u % 10)).toNat > 57 := by simp; omega
      have hv : ((UInt8.ofNat (48 + u % 10)).toNat : Int) = 48 + ((u % 10 : Nat) : Int) := by simp; omega
      rw [decDigits_step h, numP_snoc, ih _ (by omega), if_neg hn, hv]
      omega
theorem decDigits_len {u : Nat} (h : u ≤ 9999) : (Lib.decDigits u).length ≤ 4 := by
  by_cases h1 : u < 10
  · rw [Lib.decDigits_one h1]; simp
  · rw [decDigits_step h1]
    by_cases h2 : u / 10 < 10
    · rw [Lib.decDigits_one h2]; simp
    · rw [decDigits_step h2]
      by_cases h3 : u / 10 / 10 < 10
      · rw [Lib.decDigits_one h3]; simp
      · rw [decDigits_step h3, Lib.decDigits_one (by omega)]; simp

theorem takeWhile_exact {α : Type} {p : α → Bool} : ∀ {l r : List α}, (∀ c ∈ l, p c = true) → (∀ c r', r = c :: r' → p c = false) → (l ++ r).takeWhile p = l
  | [], [], _, _ => rfl
  | [], c :: r, _, h => by simp [h c r rfl]
  | a :: l, r, h, k => by
    rw [List.cons_append, List.takeWhile_cons, if_pos (h a (by simp)), takeWhile_exact (fun c hc => h c (by simp [hc])) k]
theorem runP_of {s : ByteArray} {p : Nat} {l r : List UInt8} (hs : s.data.toList.drop p = l ++ r) (h : ∀ c ∈ l, digs.contains c = true) (hr : ∀ c r', r = c :: r' → digs.contains c = false) : runP s p digs = l := by
  unfold runP; rw [hs]; exact takeWhile_exact h hr
theorem stands_of {s : ByteArray} {p : Nat} {t r : List UInt8} (hs : s.data.toList.drop p = t ++ r) : stands s p t = true := by
  unfold stands Lib.hasPrefix; rw [hs, List.isPrefixOf_iff_prefix]; exact List.prefix_append _ _
theorem stands_not {s : ByteArray} {p : Nat} {c d : UInt8} {t r : List UInt8} (hs : s.data.toList.drop p = c :: r) (h : c ≠ d) : stands s p (d :: t) = false := by
  unfold stands Lib.hasPrefix; rw [hs]; simp [List.isPrefixOf]; intro e; exact absurd e.symm h
theorem drop_add {s : ByteArray} {p : Nat} {l r : List UInt8} (hs : s.data.toList.drop p = l ++ r) : s.data.toList.drop (p + l.length) = r := by
  rw [← List.drop_drop, hs, List.drop_left]

/-- '{a,}'. -/
theorem tell_open (s : ByteArray) (a : Nat) (ha : a ≤ 1000) (r : List UInt8) (hs : s.data.toList = [123] ++ Lib.decDigits a ++ [44, 125] ++ r) :
    countP s 0 = some ((a : Int), -1, (Lib.decDigits a).length + 3) := by
  have h0 : s.data.toList.drop 0 = [123] ++ (Lib.decDigits a ++ ([44, 125] ++ r)) := by rw [hs]; simp
  have h1 : s.data.toList.drop (0 + 1) = Lib.decDigits a ++ ([44, 125] ++ r) := drop_add h0
  have hr : runP s (0 + 1) digs = Lib.decDigits a := runP_of h1 (decDigits_digs a) (fun c r' e => by cases e; decide)
  have h2 := drop_add h1
  unfold countP
  rw [if_pos (stands_of h0), hr, if_neg (decDigits_ne a), if_neg (by rw [stands_not (c := 44) h2 (by decide)]; simp), if_pos (stands_of h2), numP_decDigits]
  simp only [Option.some.injEq, Prod.mk.injEq]
  exact ⟨by omega, trivial, by omega⟩
/-- '{a,b}'. -/
theorem tell_both (s : ByteArray) (a b : Nat) (ha : a ≤ 1000) (hb : b ≤ 1000) (r : List UInt8) (hs : s.data.toList = [123] ++ Lib.decDigits a ++ [44] ++ Lib.decDigits b ++ [125] ++ r) :
    countP s 0 = some ((a : Int), (b : Int), (Lib.decDigits a).length + (Lib.decDigits b).length + 3) := by
  have h0 : s.data.toList.drop 0 = [123] ++ (Lib.decDigits a ++ ([44] ++ (Lib.decDigits b ++ ([125] ++ r)))) := by rw [hs]; simp
  have h1 : s.data.toList.drop (0 + 1) = Lib.decDigits a ++ ([44] ++ (Lib.decDigits b ++ ([125] ++ r))) := drop_add h0
  have hr : runP s (0 + 1) digs = Lib.decDigits a := runP_of h1 (decDigits_digs a) (fun c r' e => by cases e; decide)
  have h2 := drop_add h1
  have h3 : s.data.toList.drop (0 + 1 + (Lib.decDigits a).length + 1) = Lib.decDigits b ++ ([125] ++ r) := drop_add h2
  have hr2 : runP s (0 + 1 + (Lib.decDigits a).length + 1) digs = Lib.decDigits b := runP_of h3 (decDigits_digs b) (fun c r' e => by cases e; decide)
  have h4 := drop_add h3
  have hne := decDigits_ne b
  have hx : stands s (0 + 1 + (Lib.decDigits a).length) [44, 125] = false := by
    unfold stands Lib.hasPrefix
    rw [h2]
    cases hbd : Lib.decDigits b with
    | nil => exact absurd hbd hne
    | cons c l =>
      have hc : digs.contains c = true := decDigits_digs b c (by rw [hbd]; simp)
      have : c ≠ 125 := by rintro rfl; revert hc; decide
      simp only [List.cons_append, List.nil_append, List.isPrefixOf]
      simp; intro e; exact absurd e.symm this
  unfold countP
  rw [if_pos (stands_of h0), hr, if_neg (decDigits_ne a), if_neg (by rw [stands_not (c := 44) h2 (by decide)]; simp), if_neg (by rw [hx]; simp), if_pos (stands_of h2), hr2, if_neg hne, if_pos (stands_of h4), numP_decDigits, numP_decDigits]
  simp only [Option.some.injEq, Prod.mk.injEq]
  exact ⟨by omega, by omega, by omega⟩
end Go.Proofs.YtjmgboegipeijaaGreatDoor
