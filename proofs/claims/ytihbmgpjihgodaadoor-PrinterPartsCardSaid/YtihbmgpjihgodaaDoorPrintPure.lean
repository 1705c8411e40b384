/- A right tree's text, in plain words: of what lies through it; how long it is; how many parts a tree has. -/
import Derived.Test.YtihbmgpjihgodaaDoorPrintSign
import Derived.Test.YtihbmgpjihgodaaDoorPrintSetA
import Derived.Test.YtihbmgpjihgodaaDoorPrintThrough
import Derived.Test.YtihbmgpjihgodaaDoorRight
namespace Go.Proofs.YtihbmgpjihgodaaDoor
open Go Go.Proofs

theorem textT_through (t : T) : textT (throughT t) = textT t := by
  induction t using T.ind with
  | h op kids rune set pl cap name mn mx lz ih =>
    by_cases h : kids.length = 1 ∧ (op = 11 ∨ op = 12)
    · obtain ⟨h1, h2⟩ := h
      match kids, h1, ih with
      | [k], _, ih =>
        rw [throughT_one, if_pos h2, ih k (by simp)]
        rcases h2 with rfl | rfl
        · simp [textT, textsT]
        · simp [textT, textsT, joinTx]
    · rw [throughT_other (by simp only [T.kids, T.op]; exact not_one h)]
theorem textsT_map (l : List T) : textsT l = l.map textT := by
  induction l with
  | nil => rfl
  | cons k l ih => simp [textsT, ih]
theorem brTs_map (l : List T) : brTs l = l.map (fun k => bracedTx (textT k) (decide ((throughT k).op = 12))) := by
  induction l with
  | nil => rfl
  | cons k l ih => simp [brTs, ih]

mutual
/-- How many parts: each part, each range. -/
def pcT : T → Nat
  | .mk _ kids _ set _ _ _ _ _ _ => 1 + set.length + pcL kids
def pcL : List T → Nat
  | [] => 0
  | t :: ts => pcT t + pcL ts
end
theorem pcL_append (a b : List T) : pcL (a ++ b) = pcL a + pcL b := by
  induction a with
  | nil => simp [pcL]
  | cons t a ih => simp [pcL, ih]; omega
theorem pcL_take (l : List T) (k : Nat) (h : k < l.length) : pcL (l.take (k + 1)) = pcL (l.take k) + pcT l[k] := by
  rw [List.take_succ_eq_append_getElem h, pcL_append]; simp [pcL]
theorem pcL_take_le (l : List T) (k : Nat) : pcL (l.take k) ≤ pcL l := by
  have h := pcL_append (l.take k) (l.drop k)
  rw [List.take_append_drop] at h
  omega
theorem pcT_mem {l : List T} {t : T} (h : t ∈ l) : pcT t ≤ pcL l := by
  induction l with
  | nil => simp at h
  | cons a l ih =>
    simp only [pcL]
    rcases List.mem_cons.1 h with rfl | h
    · omega
    · have := ih h; omega
theorem pcL_len (l : List T) : l.length ≤ pcL l := by
  induction l with
  | nil => simp
  | cons t l ih => cases t; simp [pcL, pcT]; omega
theorem parts_le_pc (t : T) : (parts t).length ≤ pcT t := by
  induction t using T.ind with
  | h op kids rune set pl cap name mn mx lz ih =>
    have hl : ∀ l : List T, (∀ k ∈ l, (parts k).length ≤ pcT k) → (partsL l).length ≤ pcL l := by
      intro l
      induction l with
      | nil => intro _; simp [partsL]
      | cons a l ihl =>
        intro h
        have h1 := h a (List.mem_cons_self ..)
        have h2 := ihl (fun k hk => h k (List.mem_cons_of_mem _ hk))
        simp only [partsL, List.length_append, pcL]; omega
    have := hl kids ih
    simp only [parts, List.length_cons, pcT]; omega
theorem set_le_pc (t : T) : ∀ p ∈ parts t, p.set.length ≤ pcT t := by
  induction t using T.ind with
  | h op kids rune set pl cap name mn mx lz ih =>
    have hl : ∀ l : List T, (∀ k ∈ l, ∀ p ∈ parts k, p.set.length ≤ pcT k) → ∀ p ∈ partsL l, p.set.length ≤ pcL l := by
      intro l
      induction l with
      | nil => intro _ p hp; simp [partsL] at hp
      | cons a l ihl =>
        intro h p hp
        simp only [partsL, List.mem_append] at hp
        simp only [pcL]
        rcases hp with hp | hp
        · have := h a (List.mem_cons_self ..) p hp; omega
        · have := ihl (fun k hk => h k (List.mem_cons_of_mem _ hk)) p hp; omega
    intro p hp
    simp only [parts, List.mem_cons] at hp
    simp only [pcT]
    rcases hp with rfl | hp
    · simp only [T.set]; omega
    · have := hl kids ih p hp; omega
theorem throughT_parts (t : T) : ∀ p ∈ parts (throughT t), p ∈ parts t := by
  induction t using T.ind with
  | h op kids rune set pl cap name mn mx lz ih =>
    by_cases h : kids.length = 1 ∧ (op = 11 ∨ op = 12)
    · obtain ⟨h1, h2⟩ := h
      match kids, h1, ih with
      | [k], _, ih =>
        rw [throughT_one, if_pos h2]
        intro p hp
        simp only [parts, partsL, List.append_nil, List.mem_cons]
        exact .inr (ih k (by simp) p hp)
    · rw [throughT_other (by simp only [T.kids, T.op]; exact not_one h)]
      exact fun p hp => hp
theorem throughT_pc (t : T) : pcT (throughT t) ≤ pcT t := by
  induction t using T.ind with
  | h op kids rune set pl cap name mn mx lz ih =>
    by_cases h : kids.length = 1 ∧ (op = 11 ∨ op = 12)
    · obtain ⟨h1, h2⟩ := h
      match kids, h1, ih with
      | [k], _, ih =>
        rw [throughT_one, if_pos h2]
        have := ih k (by simp)
        simp only [pcT, pcL]; omega
    · rw [throughT_other (by simp only [T.kids, T.op]; exact not_one h)]
      exact Nat.le_refl _

theorem setFrom_fine : ∀ {rs : List (Int × Int)} {l0 : Int}, -2 ≤ l0 → setFrom l0 rs = true → SetFine rs
  | [], _, _, _ => fun r hr => by simp at hr
  | (l, h) :: rs, l0, h0, hs => by
    simp only [setFrom, Bool.and_eq_true, decide_eq_true_eq] at hs
    obtain ⟨⟨⟨h1, h2⟩, h3⟩, h4⟩ := hs
    intro r hr
    rcases List.mem_cons.1 hr with rfl | hr
    · exact ⟨by simp only; omega, h2, h3⟩
    · exact setFrom_fine (by omega) h4 r hr
theorem setRight_fine {rs : List (Int × Int)} (h : setRight rs = true) : SetFine rs := setFrom_fine (Int.le_refl _) h

/-- What a right part is. -/
structure PlainIs (op : Int) (kn : Nat) (rune : Int) (set : List (Int × Int)) (pl : Int) (name : ByteArray) (mn mx : Int) : Prop where
  op1 : 1 ≤ op ∧ op ≤ 12
  leaf : op ≤ 5 → kn = 0
  one : 6 ≤ op → op ≤ 10 → kn = 1
  alt : op = 12 → 0 < kn
  rune : op = 3 → 0 ≤ rune ∧ rune ≤ 1114111
  set : op = 4 → SetFine set
  pl : op = 5 → pl = 1 ∨ pl = 2 ∨ pl = 4 ∨ pl = 8 ∨ pl = 16 ∨ pl = 32
  name : name.size ≤ 32
  mn : 0 ≤ mn ∧ mn ≤ 1000
  mx : -1 ≤ mx ∧ mx ≤ 1000
theorem plainT_is {op : Int} {kids : List T} {rune : Int} {set : List (Int × Int)} {pl cap : Int} {name : ByteArray} {mn mx : Int} {lz : Bool} (h : plainT (.mk op kids rune set pl cap name mn mx lz) = true) :
    PlainIs op kids.length rune set pl name mn mx := by
  unfold plainT at h
  simp only [T.op, T.rune, T.set, T.pl, T.cap, T.name, T.mn, T.mx, T.lz, T.kids, Bool.and_eq_true] at h
  obtain ⟨h1, h2⟩ := h
  unfold bareOk at h1
  simp only [Bool.and_eq_true, decide_eq_true_eq] at h1
  obtain ⟨⟨⟨⟨⟨⟨⟨k1, k2⟩, k3⟩, k4⟩, k5⟩, k6⟩, k7⟩, k8⟩ := h1
  have n1 : op ≠ 6 → name.size = 0 := by intro h; rw [if_neg h] at k5; rw [← k5]; rfl
  have n2 : op ≠ 10 → mn = 0 := by intro h; rw [if_neg h] at k6; exact k6.symm
  have n3 : op ≠ 10 → mx = 0 := by intro h; rw [if_neg h] at k7; exact k7.symm
  clear k1 k2 k3 k4 k5 k6 k7 k8
  unfold kindOk at h2
  split at h2
  · rename_i ho
    have h2 := of_decide_eq_true h2
    have a1 := n1 (by omega); have a2 := n2 (by omega); have a3 := n3 (by omega)
    exact ⟨by omega, fun _ => h2, by omega, by omega, by omega, by omega, by omega, by omega, by omega, by omega⟩
  split at h2
  · rename_i _ ho
    simp only [Bool.and_eq_true, decide_eq_true_eq] at h2
    have a1 := n1 (by omega); have a2 := n2 (by omega); have a3 := n3 (by omega)
    exact ⟨by omega, by omega, by omega, by omega, by omega, by omega, by omega, by omega, by omega, by omega⟩
  split at h2
  · rename_i _ _ ho
    simp only [Bool.and_eq_true, decide_eq_true_eq] at h2
    have a1 := n1 (by omega); have a2 := n2 (by omega); have a3 := n3 (by omega)
    exact ⟨by omega, by omega, by omega, by omega, by omega, fun _ => setRight_fine h2.2, by omega, by omega, by omega, by omega⟩
  split at h2
  · rename_i _ _ _ ho
    simp only [Bool.and_eq_true, decide_eq_true_eq] at h2
    have a1 := n1 (by omega); have a2 := n2 (by omega); have a3 := n3 (by omega)
    exact ⟨by omega, by omega, by omega, by omega, by omega, by omega, fun _ => h2.2, by omega, by omega, by omega⟩
  split at h2
  · rename_i _ _ _ _ ho
    simp only [Bool.and_eq_true, Bool.or_eq_true, decide_eq_true_eq] at h2
    have a2 := n2 (by omega); have a3 := n3 (by omega)
    have a1 : name.size ≤ 32 := by
      rcases h2.2 with h3 | h3
      · omega
      · unfold nameB at h3
        simp only [Bool.and_eq_true, decide_eq_true_eq] at h3
        exact h3.1.1.2
    exact ⟨by omega, by omega, by omega, by omega, by omega, by omega, by omega, a1, by omega, by omega⟩
  split at h2
  · rename_i _ _ _ _ _ ho
    simp only [decide_eq_true_eq] at h2
    have a1 := n1 (by omega); have a2 := n2 (by omega); have a3 := n3 (by omega)
    exact ⟨by omega, by omega, by omega, by omega, by omega, by omega, by omega, by omega, by omega, by omega⟩
  split at h2
  · rename_i _ _ _ _ _ _ ho
    simp only [Bool.and_eq_true, Bool.or_eq_true, decide_eq_true_eq] at h2
    have a1 := n1 (by omega)
    exact ⟨by omega, by omega, by omega, by omega, by omega, by omega, by omega, by omega, by omega, by omega⟩
  split at h2
  · rename_i _ _ _ _ _ _ _ ho
    have a1 := n1 (by omega); have a2 := n2 (by omega); have a3 := n3 (by omega)
    exact ⟨by omega, by omega, by omega, by omega, by omega, by omega, by omega, by omega, by omega, by omega⟩
  split at h2
  · rename_i _ _ _ _ _ _ _ _ ho
    have h2 := of_decide_eq_true h2
    have a1 := n1 (by omega); have a2 := n2 (by omega); have a3 := n3 (by omega)
    exact ⟨by omega, by omega, by omega, fun _ => h2, by omega, by omega, by omega, by omega, by omega, by omega⟩
  · cases h2

/-- All parts are right in themselves. -/
def PlainAll (t : T) : Prop := ∀ p ∈ parts t, plainT p = true
theorem PlainAll.self {t : T} (h : PlainAll t) : plainT t = true := h t (mem_parts_self t)
theorem PlainAll.kid {op : Int} {kids : List T} {rune : Int} {set : List (Int × Int)} {pl cap : Int} {name : ByteArray} {mn mx : Int} {lz : Bool} (h : PlainAll (.mk op kids rune set pl cap name mn mx lz)) : ∀ k ∈ kids, PlainAll k := by
  intro k hk p hp
  obtain ⟨i, hi, rfl⟩ := List.mem_iff_getElem.1 hk
  exact h p (mem_parts_kid hi hp)
theorem PlainAll.through {t : T} (h : PlainAll t) : PlainAll (throughT t) := fun p hp => h p (throughT_parts t p hp)

theorem litTx_len (c : Int) (h : c ≤ 1114111) : (litTx c).length ≤ 12 := by
  have := codeTx_len c (by omega)
  unfold litTx
  split
  · simp
  · split
    · simp
    · exact this
theorem setTx_len {rs : List (Int × Int)} (h : SetFine rs) : (setTx rs).length ≤ 2 + 25 * rs.length := by
  rw [setTx_eq]
  have : ∀ l : List (Int × Int), SetFine l → (l.flatMap rangeTx).length ≤ 25 * l.length := by
    intro l
    induction l with
    | nil => intro _; simp
    | cons x l ih =>
      intro hl
      have h1 := rangeTx_len (hl x (List.mem_cons_self ..))
      have h2 := ih (fun r hr => hl r (List.mem_cons_of_mem _ hr))
      simp only [List.flatMap_cons, List.length_append, List.length_cons]; omega
  have := this rs h
  simp only [List.length_append, List.length_cons, List.length_nil]; omega
theorem placeTx_len (a : Int) : (placeTx a).length ≤ 6 := by
  unfold placeTx
  repeat' split
  all_goals simp
theorem signTx_len (op mn mx : Int) (lz : Bool) (h1 : mn ≤ 1000) (h2 : mx ≤ 1000) : (signTx op mn mx lz).length ≤ 45 := by
  have k1 := decTx_len mn.toNat (by omega)
  have k2 := decTx_len mx.toNat (by omega)
  rw [signTx_eq, List.length_append]
  have : (signBare op mn mx).length ≤ 44 := by
    unfold signBare
    repeat' split
    all_goals simp
    all_goals omega
  split <;> simp <;> omega
theorem bracedTx_len (s : List UInt8) (m : Bool) : (bracedTx s m).length ≤ s.length + 4 := by
  unfold bracedTx
  split <;> simp
theorem joinTx_len (l : List (List UInt8)) : (joinTx l).length ≤ l.flatten.length + l.length := by
  induction l with
  | nil => simp [joinTx]
  | cons x l ih =>
    cases l with
    | nil => simp [joinTx]
    | cons y l =>
      simp only [joinTx, List.length_append, List.flatten_cons, List.length_cons, List.length_nil] at ih ⊢
      omega
theorem textT_len (t : T) : PlainAll t → (textT t).length + 5 ≤ 100 * pcT t := by
  induction t using T.ind with
  | h op kids rune set pl cap name mn mx lz ih =>
    intro h
    have hp := plainT_is h.self
    have hk := h.kid
    have s1 : ∀ l : List T, (∀ k ∈ l, (textT k).length + 5 ≤ 100 * pcT k) → (textsT l).flatten.length + 5 * l.length ≤ 100 * pcL l := by
      intro l
      induction l with
      | nil => intro _; simp [textsT, pcL]
      | cons a l ihl =>
        intro h
        have h1 := h a (List.mem_cons_self ..)
        have h2 := ihl (fun k hk => h k (List.mem_cons_of_mem _ hk))
        simp only [textsT, List.flatten_cons, List.length_append, List.length_cons, pcL]; omega
    have s2 : ∀ l : List T, (∀ k ∈ l, (textT k).length + 5 ≤ 100 * pcT k) → (brTs l).flatten.length + l.length ≤ 100 * pcL l := by
      intro l
      induction l with
      | nil => intro _; simp [brTs, pcL]
      | cons a l ihl =>
        intro h
        have h1 := h a (List.mem_cons_self ..)
        have h2 := ihl (fun k hk => h k (List.mem_cons_of_mem _ hk))
        have h3 := bracedTx_len (textT a) (decide ((throughT a).op = 12))
        simp only [brTs, List.flatten_cons, List.length_append, List.length_cons, pcL]; omega
    have k1 := s1 kids (fun k hm => ih k hm (hk k hm))
    have k2 := s2 kids (fun k hm => ih k hm (hk k hm))
    have k3 := joinTx_len (textsT kids)
    rw [textsT_map kids, List.length_map, ← textsT_map kids] at k3
    have hnm : name.data.toList.length ≤ 32 := by have := hp.name; simpa using this
    simp only [pcT]
    unfold textT
    split
    · simp; omega
    split
    · have := litTx_len rune (hp.rune (by assumption)).2; omega
    split
    · have := setTx_len (hp.set (by assumption)); omega
    split
    · have := placeTx_len pl; omega
    split
    · simp only [List.length_append]
      split
      · simp only [List.length_cons, List.length_nil]; omega
      · simp only [List.length_append, List.length_cons, List.length_nil]; omega
    split
    · omega
    split
    · have := signTx_len op mn mx lz hp.mn.2 hp.mx.2
      have h3 := bracedTx_len (textsT kids).flatten (kids.any mustT)
      simp only [List.length_append]; omega
    split
    · simp; omega
    split
    · omega
    · omega

mutual
/-- The document's Parts: how many, up to a bound. -/
def partsN : T → Int → Int
  | .mk _ kids _ set _ _ _ _ _ _, most => partsF (1 + (set.length : Int)) most kids
def partsF (n most : Int) : List T → Int
  | [] => n
  | k :: ks => if n ≤ most then partsF (n + partsN k (most - n)) most ks else n
end
theorem partsF_stop {n most : Int} (h : ¬ n ≤ most) (l : List T) : partsF n most l = n := by
  cases l with
  | nil => rfl
  | cons k ks => rw [partsF, if_neg h]
theorem partsN_pos (t : T) : ∀ most, 1 ≤ partsN t most := by
  induction t using T.ind with
  | h op kids rune set pl cap name mn mx lz ih =>
    intro most
    have : ∀ (l : List T), (∀ k ∈ l, ∀ most, 1 ≤ partsN k most) → ∀ n, 1 ≤ n → 1 ≤ partsF n most l := by
      intro l
      induction l with
      | nil => intro _ n h; simpa [partsF] using h
      | cons a l ihl =>
        intro h n hn
        rw [partsF]
        split
        · have := h a (List.mem_cons_self ..) (most - n)
          exact ihl (fun k hk => h k (List.mem_cons_of_mem _ hk)) _ (by omega)
        · exact hn
    simp only [partsN]
    exact this kids ih _ (by omega)
/-- Where the document counts no more than its bound, it has counted all. -/
theorem partsN_all (t : T) : ∀ most, partsN t most ≤ most → (pcT t : Int) = partsN t most := by
  induction t using T.ind with
  | h op kids rune set pl cap name mn mx lz ih =>
    intro most
    have : ∀ (l : List T), (∀ k ∈ l, ∀ most, partsN k most ≤ most → (pcT k : Int) = partsN k most) → ∀ n, 1 ≤ n → partsF n most l ≤ most → n + (pcL l : Int) = partsF n most l := by
      intro l
      induction l with
      | nil => intro _ n _ _; simp [partsF, pcL]
      | cons a l ihl =>
        intro h n hn hle
        rw [partsF] at hle ⊢
        by_cases hm : n ≤ most
        · rw [if_pos hm] at hle ⊢
          have hpos := partsN_pos a (most - n)
          by_cases hst : n + partsN a (most - n) ≤ most
          · have h1 := ihl (fun k hk => h k (List.mem_cons_of_mem _ hk)) _ (by omega) hle
            have h2 := h a (List.mem_cons_self ..) (most - n) (by omega)
            rw [← h1, ← h2]; simp only [pcL]; omega
          · rw [partsF_stop hst] at hle; omega
        · rw [if_neg hm] at hle; omega
    simp only [partsN, pcT]
    intro hle
    have := this kids ih _ (by omega) hle
    rw [← this]; omega
/-- .. and whatever it counts is no more than its bound and one part's ranges. -/
theorem partsN_le {M : Nat} (t : T) : (∀ p ∈ parts t, p.set.length ≤ M) → ∀ most, 0 ≤ most → partsN t most ≤ most + 1 + M := by
  induction t using T.ind with
  | h op kids rune set pl cap name mn mx lz ih =>
    intro hM most h0
    have hs : set.length ≤ M := hM _ (mem_parts_self _)
    have : ∀ (l : List T), (∀ k ∈ l, ∀ most, 0 ≤ most → partsN k most ≤ most + 1 + M) → ∀ n, n ≤ most + 1 + M → partsF n most l ≤ most + 1 + M := by
      intro l
      induction l with
      | nil => intro _ n h; simpa [partsF] using h
      | cons a l ihl =>
        intro h n hn
        rw [partsF]
        split
        · have := h a (List.mem_cons_self ..) (most - n) (by omega)
          exact ihl (fun k hk => h k (List.mem_cons_of_mem _ hk)) _ (by omega)
        · exact hn
    simp only [partsN]
    refine this kids (fun k hk most hm => ?_) _ (by omega)
    obtain ⟨i, hi, rfl⟩ := List.mem_iff_getElem.1 hk
    exact ih _ hk (fun p hp => hM p (mem_parts_kid hi hp)) most hm
end Go.Proofs.YtihbmgpjihgodaaDoor
