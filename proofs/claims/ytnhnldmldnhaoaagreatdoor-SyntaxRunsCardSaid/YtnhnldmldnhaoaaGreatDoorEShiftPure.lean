/- What stands in a text stands at another place of another text alike. A counted repeat written out is read as it is: the plain law. A count at a place; a pattern of letters and digits with a count behind. -/
import Derived.Test.YtnhnldmldnhaoaaGreatDoorDRight
import Derived.Test.YtnhnldmldnhaoaaGreatDoorDCount
import Derived.Lib.ItoaNum
import Derived.Test.YtnhnldmldnhaoaaGreatDoorESynMono
import Derived.Test.YtnhnldmldnhaoaaGreatDoorDSyParse
namespace Go.Proofs.YtnhnldmldnhaoaaGreatDoor
open Go Go.RowKit Go.Proofs Go.Shelf

/-- From p0 on, the text t holds what s holds, d places on. -/
structure Sh (s t : ByteArray) (d p0 : Nat) : Prop where
  size : t.size = s.size + d
  drop : ∀ p, p0 ≤ p → t.data.toList.drop (p + d) = s.data.toList.drop p
section
variable {s t : ByteArray} {d p0 : Nat} (h : Sh s t d p0)
include h
theorem Sh.stands {p : Nat} (hp : p0 ≤ p) (x : List UInt8) : stands t (p + d) x = stands s p x := by
  unfold Go.Proofs.YtnhnldmldnhaoaaGreatDoor.stands
  rw [h.drop p hp]
theorem Sh.runP {p : Nat} (hp : p0 ≤ p) (cs : List UInt8) : runP t (p + d) cs = runP s p cs := by
  unfold Go.Proofs.YtnhnldmldnhaoaaGreatDoor.runP
  rw [h.drop p hp]
theorem Sh.tail {p : Nat} (hp : p0 ≤ p) : tail t (p + d) = tail s p := by
  apply ByteArray.ext
  apply Array.toList_inj.1
  rw [tail_toList, tail_toList, h.drop p hp]
theorem Sh.decode {p : Nat} (hp : p0 ≤ p) (hl : p < s.size) : Utf8.decode t (p + d) = Utf8.decode s p := by
  rw [← decodeGo_tail s p hl, ← decodeGo_tail t (p + d) (by rw [h.size]; omega), h.tail hp]
theorem Sh.nextC {p : Nat} (hp : p0 ≤ p) : nextC t (p + d) = nextC s p := by
  unfold Go.Proofs.YtnhnldmldnhaoaaGreatDoor.nextC
  by_cases hl : p < s.size
  · rw [if_pos hl, if_pos (by rw [h.size]; omega), h.decode hp hl]
  · rw [if_neg hl, if_neg (by rw [h.size]; omega)]
theorem Sh.nextW {p : Nat} (hp : p0 ≤ p) : nextW t (p + d) = nextW s p + d := by
  unfold Go.Proofs.YtnhnldmldnhaoaaGreatDoor.nextW
  by_cases hl : p < s.size
  · rw [if_pos hl, if_pos (by rw [h.size]; omega), h.decode hp hl]; omega
  · rw [if_neg hl, if_neg (by rw [h.size]; omega)]
theorem Sh.extract {p q : Nat} (hp : p0 ≤ p) : t.extract (p + d) (q + d) = s.extract p q := by
  apply ByteArray.ext
  apply Array.toList_inj.1
  simp only [ByteArray.data_extract, Array.toList_extract, List.extract_eq_take_drop]
  rw [h.drop p hp]
  congr 1
  omega
theorem Sh.bracedN {q : Nat} (hq : p0 ≤ q) : bracedN t (q + d) = ((bracedN s q).1, (bracedN s q).2.1, (bracedN s q).2.2 + d) := by
  unfold Go.Proofs.YtnhnldmldnhaoaaGreatDoor.bracedN
  have e1 : q + d + 1 = q + 1 + d := by omega
  rw [e1, h.runP (by omega)]
  have e2 : q + 1 + d + (Go.Proofs.YtnhnldmldnhaoaaGreatDoor.runP s (q + 1) hexs).length = q + 1 + (Go.Proofs.YtnhnldmldnhaoaaGreatDoor.runP s (q + 1) hexs).length + d := by omega
  rw [e2, h.stands (by omega)]
  simp only
  congr 2
  split <;> omega
theorem Sh.codeP {q : Nat} (hq : p0 ≤ q) : codeP t (q + d) = (codeP s q).map fun x => (x.1, x.2 + d) := by
  unfold Go.Proofs.YtnhnldmldnhaoaaGreatDoor.codeP
  rw [h.stands hq, h.bracedN hq, h.drop q hq]
  split
  · split <;> rfl
  · split
    · split
      · simp only [Option.map_some]; congr 2; omega
      · rfl
    · rfl
theorem Sh.propP {q : Nat} (hq : p0 ≤ q) : propP t (q + d) = (propP s q).map fun x => (x.1, x.2 + d) := by
  unfold Go.Proofs.YtnhnldmldnhaoaaGreatDoor.propP
  have e1 : q + d + 1 = q + 1 + d := by omega
  rw [h.stands hq, e1, h.drop (q + 1) (by omega)]
  split
  · split
    · have e2 : q + 1 + d + (Lib.indexByte (List.drop (q + 1) s.data.toList) 125).toNat = q + 1 + (Lib.indexByte (List.drop (q + 1) s.data.toList) 125).toNat + d := by omega
      rw [e2, h.extract (by omega)]
      simp only [Option.map_some]
      congr 2
      omega
    · rfl
  · by_cases hl : q < s.size
    · rw [if_pos hl, if_pos (by rw [h.size]; omega), h.nextW hq, h.extract hq]; rfl
    · rw [if_neg hl, if_neg (by rw [h.size]; omega)]; rfl
end
end Go.Proofs.YtnhnldmldnhaoaaGreatDoor

namespace Go.Proofs.YtnhnldmldnhaoaaGreatDoor
open Go Go.RowKit Go.Proofs

theorem decDigits_step {u : Nat} (h : ¬ u < 10) : Lib.decDigits u = Lib.decDigits (u / 10) ++ [UInt8.ofNat (48 + u % 10)] := by
  rw [Lib.decDigits, dif_neg h]
theorem digit_dig {d : Nat} (h : d < 10) : digs.contains (UInt8.ofNat (48 + d)) = true := by
  rw [digs_iff]; simp; omega
theorem decDigits_digs (u : Nat) : ∀ c ∈ Lib.decDigits u, digs.contains c = true := by
  induction u using Nat.strongRecOn with
  | _ u ih =>
    by_cases h : u < 10
    · rw [Lib.decDigits_one h]
      intro c hc
      simp only [List.mem_cons, List.not_mem_nil, or_false] at hc
      subst hc; exact digit_dig h
    · rw [decDigits_step h]
      intro c hc
      rcases List.mem_append.1 hc with hc | hc
      · exact ih _ (by omega) c hc
      · simp only [List.mem_cons, List.not_mem_nil, or_false] at hc
        subst hc; exact digit_dig (by omega)
theorem decDigits_ne (u : Nat) : Lib.decDigits u ≠ [] := by
  by_cases h : u < 10
  · rw [Lib.decDigits_one h]; simp
  · rw [decDigits_step h]; simp
theorem numP_decDigits (u : Nat) : numP 10 1000 0 (Lib.decDigits u) = min (u : Int) 1001 := by
  induction u using Nat.strongRecOn with
  | _ u ih =>
    by_cases h : u < 10
    · rw [Lib.decDigits_one h]
      have hn : ¬ (UInt8.ofNat (48 + u)).toNat > 57 := by simp; omega
      have hv : ((UInt8.ofNat (48 + u)).toNat : Int) = 48 + u := by simp; omega
      simp only [numP, if_neg hn, hv]; omega
    · have hn : ¬ (UInt8.ofNat (48 + u % 10)).toNat > 57 := by simp; omega
      have hv : ((UInt8.ofNat (48 + u % 10)).toNat : Int) = 48 + ((u % 10 : Nat) : Int) := by simp; omega
      rw [decDigits_step h, numP_snoc, ih _ (by omega), if_neg hn, hv]
      omega
theorem decDigits_len {u : Nat} (h : u ≤ 9999) : (Lib.decDigits u).length ≤ 4 := by
  by_cases h1 : u < 10
  · rw [Lib.decDigits_one h1]; simp
  · rw [decDigits_step h1]
    by_cases h2 : u / 10 < 10
    · rw [Lib.decDigits_one h2]; simp
    · rw [decDigits_step h2]
      by_cases h3 : u / 10 / 10 < 10
      · rw [Lib.decDigits_one h3]; simp
      · rw [decDigits_step h3, Lib.decDigits_one (by omega)]; simp

theorem takeWhile_exact {α : Type} {p : α → Bool} : ∀ {l r : List α}, (∀ c ∈ l, p c = true) → (∀ c r', r = c :: r' → p c = false) → (l ++ r).takeWhile p = l
  | [], [], _, _ => rfl
  | [], c :: r, _, h => by simp [h c r rfl]
  | a :: l, r, h, k => by
    rw [List.cons_append, List.takeWhile_cons, if_pos (h a (by simp)), takeWhile_exact (fun c hc => h c (by simp [hc])) k]
theorem runP_of {s : ByteArray} {p : Nat} {l r : List UInt8} (hs : s.data.toList.drop p = l ++ r) (h : ∀ c ∈ l, digs.contains c = true) (hr : ∀ c r', r = c :: r' → digs.contains c = false) : runP s p digs = l := by
  unfold runP; rw [hs]; exact takeWhile_exact h hr
theorem stands_of {s : ByteArray} {p : Nat} {t r : List UInt8} (hs : s.data.toList.drop p = t ++ r) : stands s p t = true := by
  unfold stands Lib.hasPrefix; rw [hs, List.isPrefixOf_iff_prefix]; exact List.prefix_append _ _
theorem stands_not {s : ByteArray} {p : Nat} {c d : UInt8} {t r : List UInt8} (hs : s.data.toList.drop p = c :: r) (h : c ≠ d) : stands s p (d :: t) = false := by
  unfold stands Lib.hasPrefix; rw [hs]; simp [List.isPrefixOf]; intro e; exact absurd e.symm h
theorem drop_add {s : ByteArray} {p : Nat} {l r : List UInt8} (hs : s.data.toList.drop p = l ++ r) : s.data.toList.drop (p + l.length) = r := by
  rw [← List.drop_drop, hs, List.drop_left]

/-- '{a,b}'. -/
theorem tell_both (s : ByteArray) (a b : Nat) (ha : a ≤ 1000) (hb : b ≤ 1000) (r : List UInt8) (hs : s.data.toList = [123] ++ Lib.decDigits a ++ [44] ++ Lib.decDigits b ++ [125] ++ r) :
    countP s 0 = some ((a : Int), (b : Int), (Lib.decDigits a).length + (Lib.decDigits b).length + 3) := by
  have h0 : s.data.toList.drop 0 = [123] ++ (Lib.decDigits a ++ ([44] ++ (Lib.decDigits b ++ ([125] ++ r)))) := by rw [hs]; simp
  have h1 : s.data.toList.drop (0 + 1) = Lib.decDigits a ++ ([44] ++ (Lib.decDigits b ++ ([125] ++ r))) := drop_add h0
  have hr : runP s (0 + 1) digs = Lib.decDigits a := runP_of h1 (decDigits_digs a) (fun c r' e => by cases e; decide)
  have h2 := drop_add h1
  have h3 : s.data.toList.drop (0 + 1 + (Lib.decDigits a).length + 1) = Lib.decDigits b ++ ([125] ++ r) := drop_add h2
  have hr2 : runP s (0 + 1 + (Lib.decDigits a).length + 1) digs = Lib.decDigits b := runP_of h3 (decDigits_digs b) (fun c r' e => by cases e; decide)
  have h4 := drop_add h3
  have hne := decDigits_ne b
  have hx : stands s (0 + 1 + (Lib.decDigits a).length) [44, 125] = false := by
    unfold stands Lib.hasPrefix
    rw [h2]
    cases hbd : Lib.decDigits b with
    | nil => exact absurd hbd hne
    | cons c l =>
      have hc : digs.contains c = true := decDigits_digs b c (by rw [hbd]; simp)
      have : c ≠ 125 := by rintro rfl; revert hc; decide
      simp only [List.cons_append, List.nil_append, List.isPrefixOf]
      simp; intro e; exact absurd e.symm this
  unfold countP
  rw [if_pos (stands_of h0), hr, if_neg (decDigits_ne a), if_neg (by rw [stands_not (c := 44) h2 (by decide)]; simp), if_neg (by rw [hx]; simp), if_pos (stands_of h2), hr2, if_neg hne, if_pos (stands_of h4), numP_decDigits, numP_decDigits]
  simp only [Option.some.injEq, Prod.mk.injEq]
  exact ⟨by omega, by omega, by omega⟩
end Go.Proofs.YtnhnldmldnhaoaaGreatDoor

namespace Go.Proofs.YtnhnldmldnhaoaaGreatDoor
open Go Go.RowKit Go.Proofs Go.Shelf

theorem Sh.countP {s t : ByteArray} {d p0 p : Nat} (h : Sh s t d p0) (hp : p0 ≤ p) : countP t (p + d) = (countP s p).map fun x => (x.1, x.2.1, x.2.2 + d) := by
  obtain ⟨A, hA⟩ : ∃ A, A = (Go.Proofs.YtnhnldmldnhaoaaGreatDoor.runP s (p + 1) digs) := ⟨_, rfl⟩
  have a1 : ∀ q x, p0 ≤ q → Go.Proofs.YtnhnldmldnhaoaaGreatDoor.stands t (q + d) x = Go.Proofs.YtnhnldmldnhaoaaGreatDoor.stands s q x := fun q x hq => h.stands hq x
  have a2 : Go.Proofs.YtnhnldmldnhaoaaGreatDoor.runP t (p + d + 1) digs = A := by rw [hA, show p + d + 1 = (p + 1) + d by omega]; exact h.runP (by omega) digs
  have a3 : Go.Proofs.YtnhnldmldnhaoaaGreatDoor.runP t (p + d + 1 + A.length + 1) digs = Go.Proofs.YtnhnldmldnhaoaaGreatDoor.runP s (p + 1 + A.length + 1) digs := by rw [show p + d + 1 + A.length + 1 = (p + 1 + A.length + 1) + d by omega]; exact h.runP (by omega) digs
  obtain ⟨B, hB⟩ : ∃ B, B = Go.Proofs.YtnhnldmldnhaoaaGreatDoor.runP s (p + 1 + A.length + 1) digs := ⟨_, rfl⟩
  have a4 : ∀ x, Go.Proofs.YtnhnldmldnhaoaaGreatDoor.stands t (p + d + 1 + A.length) x = Go.Proofs.YtnhnldmldnhaoaaGreatDoor.stands s (p + 1 + A.length) x := fun x => by rw [show p + d + 1 + A.length = (p + 1 + A.length) + d by omega]; exact a1 _ x (by omega)
  have a5 : ∀ x, Go.Proofs.YtnhnldmldnhaoaaGreatDoor.stands t (p + d + 1 + A.length + 1 + B.length) x = Go.Proofs.YtnhnldmldnhaoaaGreatDoor.stands s (p + 1 + A.length + 1 + B.length) x := fun x => by rw [show p + d + 1 + A.length + 1 + B.length = (p + 1 + A.length + 1 + B.length) + d by omega]; exact a1 _ x (by omega)
  unfold Go.Proofs.YtnhnldmldnhaoaaGreatDoor.countP
  rw [a1 p _ hp, a2, ← hA, a3, ← hB, a4, a4, a4, a5]
  by_cases c1 : Go.Proofs.YtnhnldmldnhaoaaGreatDoor.stands s p [123] = true
  · rw [if_pos c1, if_pos c1]
    by_cases c2 : A = []
    · rw [if_pos c2, if_pos c2]; rfl
    rw [if_neg c2, if_neg c2]
    by_cases c3 : Go.Proofs.YtnhnldmldnhaoaaGreatDoor.stands s (p + 1 + A.length) [125] = true
    · rw [if_pos c3, if_pos c3]
      simp only [Option.map_some, Option.some.injEq, Prod.mk.injEq, true_and]; omega
    rw [if_neg c3, if_neg c3]
    by_cases c4 : Go.Proofs.YtnhnldmldnhaoaaGreatDoor.stands s (p + 1 + A.length) [44, 125] = true
    · rw [if_pos c4, if_pos c4]
      simp only [Option.map_some, Option.some.injEq, Prod.mk.injEq, true_and]; omega
    rw [if_neg c4, if_neg c4]
    by_cases c5 : Go.Proofs.YtnhnldmldnhaoaaGreatDoor.stands s (p + 1 + A.length) [44] = true
    · rw [if_pos c5, if_pos c5]
      by_cases c6 : B = []
      · rw [if_pos c6, if_pos c6]; rfl
      rw [if_neg c6, if_neg c6]
      by_cases c7 : Go.Proofs.YtnhnldmldnhaoaaGreatDoor.stands s (p + 1 + A.length + 1 + B.length) [125] = true
      · rw [if_pos c7, if_pos c7]
        simp only [Option.map_some, Option.some.injEq, Prod.mk.injEq, true_and]; omega
      · rw [if_neg c7, if_neg c7]; rfl
    · rw [if_neg c5, if_neg c5]; rfl
  · rw [if_neg c1, if_neg c1]; rfl
theorem tail_sh (s : ByteArray) (p : Nat) (hp : p ≤ s.size) : Sh (tail s p) s p 0 :=
  ⟨by rw [tail_size]; omega, fun q _ => by rw [tail_toList, List.drop_drop]; congr 1; omega⟩
theorem countP_tail (s : ByteArray) (p : Nat) (hp : p ≤ s.size) : countP s p = (countP (tail s p) 0).map fun x => (x.1, x.2.1, x.2.2 + p) := by
  have := (tail_sh s p hp).countP (Nat.zero_le 0)
  rwa [Nat.zero_add] at this
theorem valid_ascii : ∀ l : List UInt8, (∀ c ∈ l, c.toNat < 128) → Lib.validD l = true
  | [], _ => by decide
  | b :: t, h => by
    have hb := h b (List.mem_cons_self ..)
    rw [Lib.validD_step _ (by simp), Lib.decodeL_ascii b t hb]
    rw [if_neg (by simp; omega)]
    exact valid_ascii t fun c hc => h c (List.mem_cons_of_mem _ hc)
theorem digs_low : ∀ c : UInt8, digs.contains c = true → c.toNat < 128 := by
  have key : ∀ k : Fin 256, digs.contains (UInt8.ofNat k.val) = true → (UInt8.ofNat k.val).toNat < 128 := by decide +kernel
  intro c hc
  have := key ⟨c.toNat, c.toNat_lt⟩
  simp only [UInt8.ofNat_toNat] at this
  exact this hc
theorem dec_low (u : Nat) : ∀ c ∈ Lib.decDigits u, c.toNat < 128 := fun c hc => digs_low c (decDigits_digs u c hc)
theorem weightF_leaves (L : List UInt8) : ∀ n : Int, 0 ≤ n → 0 ≤ weightF n (L.map leafB) ∧ weightF n (L.map leafB) ≤ n + L.length := by
  induction L with
  | nil => intro n hn; simp [weightF]; omega
  | cons c L ih =>
    intro n hn
    have h1 : weight (leafB c) = 1 := rfl
    simp only [List.map_cons, weightF, List.length_cons]
    rw [h1]
    have := ih (min (n + 1) 4001) (by omega)
    omega
theorem depthL_leaves (L : List UInt8) : depthL (L.map leafB) ≤ 1 := by
  induction L with
  | nil => simp [depthL]
  | cons c L ih =>
    have h1 : depth (leafB c) = 1 := depth_leaf _ _ _ _
    simp only [List.map_cons, depthL]
    rw [h1]; omega
/-- Letters, digits, a count behind. -/
theorem parse_runs (s U : ByteArray) (f : Int) (n m : Nat) (hU : U.data.toList = s.data.toList ++ ([123] ++ Lib.decDigits n ++ [44] ++ Lib.decDigits m ++ [125])) (h2 : 2 ≤ s.size) (h3 : s.size ≤ 300) (ha : ∀ k (hk : k < s.size), alnum s[k] = true) (hnm : n ≤ m) (hm : m ≤ 1000) (hf : 0 ≤ f ∧ f ≤ 63) (f1 : onB f 1 = false) (f2 : onB f 2 = false) (f16 : onB f 16 = false) (L : List UInt8) (c : UInt8) (hL : s.data.toList = L ++ [c]) :
    parseP U f = .ok (kidsT 11 (L.map leafB ++ [repT 10 (leafB c) n m false])) := by
  have hls : s.data.toList.length = s.size := toList_len s
  have hLl : L.length + 1 = s.size := by rw [← hls, hL]; simp
  have l1 := decDigits_len (show n ≤ 9999 by omega)
  have l2 := decDigits_len (show m ≤ 9999 by omega)
  have hz : U.size = s.size + (Lib.decDigits n).length + (Lib.decDigits m).length + 3 := by
    rw [← toList_len U, hU]
    simp only [List.length_append, List.length_cons, List.length_nil]
    omega
  have hat : ∀ k (hk : k < s.size) (hk2 : k < U.size), U[k] = s[k] := by
    intro k hk hk2
    have e1 := byte_at hk2
    have e2 := byte_at hk
    rw [hU, List.getElem?_append_left (by omega), e2] at e1
    exact (Option.some.inj e1).symm
  have hau : ∀ k (hk : k < U.size), 0 ≤ k → k < 0 + s.size → alnum U[k] = true := by
    intro k hk _ h
    rw [hat k (by omega) hk]
    exact ha k (by omega)
  have hvl : Lib.validD U.data.toList = true := by
    refine valid_ascii _ fun x hx => ?_
    rw [hU] at hx
    simp only [List.mem_append] at hx
    rcases hx with hx | (((hx | hx) | hx) | hx) | hx
    · obtain ⟨k, hk, rfl⟩ := List.getElem_of_mem hx
      have h5 := ha k (by omega)
      have h6 := byte_at (show k < s.size by omega)
      rw [List.getElem?_eq_getElem hk] at h6
      rw [Option.some.inj h6]
      unfold alnum at h5
      have := of_decide_eq_true h5
      omega
    · simp at hx; subst hx; decide
    · exact dec_low n x hx
    · simp at hx; subst hx; decide
    · exact dec_low m x hx
    · simp at hx; subst hx; decide
  have hdk : U.data.toList.drop s.size = [123] ++ Lib.decDigits n ++ [44] ++ Lib.decDigits m ++ [125] := by rw [hU, ← hls, List.drop_left]
  have hcount : countP U s.size = some ((n : Int), (m : Int), U.size) := by
    rw [countP_tail U s.size (by omega), tell_both (tail U s.size) n m (by omega) hm [] (by rw [tail_toList, hdk]; simp)]
    simp only [Option.map_some, Option.some.injEq, Prod.mk.injEq, true_and]
    omega
  have hd1 : U.data.toList.drop s.size = 123 :: (Lib.decDigits n ++ [44] ++ Lib.decDigits m ++ [125]) := by rw [hdk]; simp
  have hn1 : nextC U s.size = 123 := by
    have e := byte_at (show s.size < U.size by omega)
    have e2 : (U.data.toList.drop s.size)[0]? = some 123 := by rw [hd1]; rfl
    rw [List.getElem?_drop, Nat.add_zero, e] at e2
    have e3 := Option.some.inj e2
    have := nextC_ascii U s.size (by omega) (by rw [e3]; decide)
    rw [this.1, e3]; rfl
  have hns : ∀ d : UInt8, d ≠ 123 → stands U s.size [d] = false := fun d hd => stands_no (fun hp => by
    have e := byte_at hp
    have e2 : (U.data.toList.drop s.size)[0]? = some 123 := by rw [hd1]; rfl
    rw [List.getElem?_drop, Nat.add_zero, e] at e2
    rw [Option.some.inj e2]; exact fun h => hd h.symm) []
  have hpart : partP U (1 + s.size + 1) ⟨0, f, []⟩ [] = .ok (catT (L.map leafB ++ [repT 10 (leafB c) n m false])) ⟨U.size, f, []⟩ := by
    rw [part_alnum U f [] f1 s.size 0 1 [] (by omega) hau]
    rw [List.nil_append, Nat.zero_add, List.drop_zero, hU, List.take_append_of_le_length (by omega), List.take_of_length_le (by omega), hL, List.map_append]
    exact part_count (n := 0) hn1 (hns 42 (by decide)) (hns 43 (by decide)) (hns 63 (by decide)) hcount rfl (by unfold badCount; omega) f16
  have hcat : catT (L.map leafB ++ [repT 10 (leafB c) n m false]) = kidsT 11 (L.map leafB ++ [repT 10 (leafB c) n m false]) := by
    cases L with
    | nil => simp at hLl; omega
    | cons a L => cases L <;> rfl
  rw [hcat] at hpart
  have hE : PartsE U ⟨0, f, []⟩ (.ok (kidsT 11 (L.map leafB ++ [repT 10 (leafB c) n m false])) ⟨U.size, f, []⟩) :=
    PartsE.mk ⟨ok_out, _, hpart⟩ (AltE.done (by rw [show stands U U.size [124] = false from stands_no (fun hp => absurd hp (by omega)) []]; simp))
  have hfit := (syn_fit U (8 * U.size + 8)).parts ⟨0, f, []⟩ (Nat.zero_le _) (by unfold Bd; rw [List.drop_zero]; exact hvl) (by show 8 * (U.size - 0) + 4 ≤ _; omega)
  have hw : partsP U (8 * U.size + 8) ⟨0, f, []⟩ = .ok (kidsT 11 (L.map leafB ++ [repT 10 (leafB c) n m false])) ⟨U.size, f, []⟩ := by
    obtain ⟨k, hk⟩ := hE.up
    have h5 := hk k (Nat.le_refl _)
    have h6 : partsP U (8 * U.size + 8) ⟨0, f, []⟩ = partsP U k ⟨0, f, []⟩ := same_told (f := fun k => partsP U k ⟨0, f, []⟩) (fun k hk => (syn_mono U k).parts _ hk) (n := k) (m := 8 * U.size + 8) (show partsP U k ⟨0, f, []⟩ ≠ .out by rw [h5]; exact ok_out) (show partsP U (8 * U.size + 8) ⟨0, f, []⟩ ≠ .out from fun e => by rw [e] at hfit; exact hfit)
    rw [h6, h5]
  unfold parseP
  rw [if_neg (by simp [hf]), if_neg (by omega), if_neg (by simp [hvl])]
  unfold wholeP
  rw [if_neg (by simp [f2]), hw]
  simp only
  rw [if_neg (by omega)]
  simp only
  have hd : depth (kidsT 11 (L.map leafB ++ [repT 10 (leafB c) n m false])) ≤ 50 := by
    rw [depth_kids, depthL_append, depthL_one, depth_rep]
    have h7 := depthL_leaves L
    have h8 : depth (leafB c) = 1 := depth_leaf _ _ _ _
    omega
  have hwt : weight (kidsT 11 (L.map leafB ++ [repT 10 (leafB c) n m false])) ≤ 4000 := by
    have h9 := weightF_leaves L 0 (by omega)
    have h10 : weight (repT 10 (leafB c) n m false) = min (1 * min (max (max (n : Int) m) 1) 4001 + min (max (max (n : Int) m) 1) 4001 + 1) 4001 := rfl
    have h11 : weight (kidsT 11 (L.map leafB ++ [repT 10 (leafB c) n m false])) = min (weightF 0 (L.map leafB ++ [repT 10 (leafB c) n m false]) + 1) 4001 := rfl
    rw [h11, weightF_snoc, h10]
    omega
  rw [if_neg (by omega), if_neg (by omega)]
end Go.Proofs.YtnhnldmldnhaoaaGreatDoor
