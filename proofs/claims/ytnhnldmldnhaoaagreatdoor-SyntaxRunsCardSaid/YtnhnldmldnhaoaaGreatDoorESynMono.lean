/- The reader of patterns: with more fuel it tells what it told. The reader of patterns, without fuel: what it reads, by rules. A pattern of letters and digits, with a count behind: what it is read as. -/
import Derived.Test.YtnhnldmldnhaoaaGreatDoorDRight
import Derived.Test.YtnhnldmldnhaoaaGreatDoorDSynFit
namespace Go.Proofs.YtnhnldmldnhaoaaGreatDoor
open Go Go.RowKit Go.Proofs Go.Shelf

/-- Those with a bar between, as one tree. -/
def altsT : List T → T
  | [t] => t
  | l => kidsT 12 l
theorem altP_eq (s : ByteArray) (n : Nat) (st : St) (l : List T) : altP s (n + 1) st l = if stands s st.p [124] = true then (match partP s n { st with p := st.p + 1 } [] with
      | .out => .out
      | .wrong e f t => .wrong e f t
      | .ok t st' => altP s n st' (l ++ [t]))
    else .ok (altsT l) st := by
  conv => lhs; unfold altP
  split
  · rfl
  · cases l with
    | nil => rfl
    | cons a l => cases l <;> rfl
/-- What a call with some fuel tells, one with one more tells, too. -/
structure MonoS (s : ByteArray) (n : Nat) : Prop where
  parts : ∀ st : St, partsP s n st ≠ .out → partsP s (n + 1) st = partsP s n st
  alt : ∀ (st : St) (l : List T), altP s n st l ≠ .out → altP s (n + 1) st l = altP s n st l
  part : ∀ (st : St) (l : List T), partP s n st l ≠ .out → partP s (n + 1) st l = partP s n st l
  atoms : ∀ st : St, atomsP s n st ≠ .out → atomsP s (n + 1) st = atomsP s n st
  op : ∀ st : St, openP s n st ≠ .out → openP s (n + 1) st = openP s n st
  group : ∀ (st : St) (nm : ByteArray), groupP s n st nm ≠ .out → groupP s (n + 1) st nm = groupP s n st nm
  close : ∀ st : St, closeP s n st ≠ .out → closeP s (n + 1) st = closeP s n st
theorem syn_mono (s : ByteArray) : ∀ n, MonoS s n
  | 0 => ⟨fun st h => absurd (by unfold partsP; rfl) h, fun st l h => absurd (by unfold altP; rfl) h, fun st l h => absurd (by unfold partP; rfl) h, fun st h => absurd (by unfold atomsP; rfl) h, fun st h => absurd (by unfold openP; rfl) h, fun st nm h => absurd (by unfold groupP; rfl) h, fun st h => absurd (by unfold closeP; rfl) h⟩
  | n + 1 => by
    have I := syn_mono s n
    constructor
    · intro st h
      rw [partsP] at h
      rw [partsP, partsP]
      have h1 : partP s n st [] ≠ .out := fun e => h (by rw [e])
      rw [I.part st [] h1]
      cases hx : partP s n st [] with
      | out => exact absurd hx h1
      | wrong a b c => rfl
      | ok t st' => rw [hx] at h; exact I.alt st' [t] h
    · intro st l h
      rw [altP_eq] at h
      rw [altP_eq, altP_eq]
      by_cases c : stands s st.p [124] = true
      · rw [if_pos c] at h
        rw [if_pos c, if_pos c]
        have h1 : partP s n { st with p := st.p + 1 } [] ≠ .out := fun e => h (by rw [e])
        rw [I.part _ [] h1]
        cases hx : partP s n { st with p := st.p + 1 } [] with
        | out => exact absurd hx h1
        | wrong a b c => rfl
        | ok t st' => rw [hx] at h; exact I.alt st' _ h
      · rw [if_neg c, if_neg c]
    · intro st l h
      rw [partP] at h
      rw [partP, partP]
      by_cases c : nextC s st.p = -1 ∨ nextC s st.p = 124 ∨ nextC s st.p = 41
      · rw [if_pos c, if_pos c]
      · rw [if_neg c] at h
        rw [if_neg c, if_neg c]
        cases hs : signP s st.p with
        | mk x q =>
          rw [hs] at h
          cases x with
          | none =>
            simp only at h ⊢
            have h1 : atomsP s n st ≠ .out := fun e => h (by rw [e])
            rw [I.atoms st h1]
            cases hx : atomsP s n st with
            | out => exact absurd hx h1
            | wrong a b c => rfl
            | ok ts st' => rw [hx] at h; exact I.part st' _ h
          | some y =>
            obtain ⟨op, mn, mx⟩ := y
            simp only at h ⊢
            cases hl : l.getLast? with
            | none => rfl
            | some k =>
              rw [hl] at h
              simp only at h ⊢
              cases hr : repeatP s st.p q st.f op mn mx with
              | error e => rfl
              | ok r => rw [hr] at h; exact I.part _ _ h
    · intro st h
      rw [atomsP] at h
      rw [atomsP, atomsP]
      by_cases c : nextC s st.p = 40
      · rw [if_pos c] at h
        rw [if_pos c, if_pos c]
        exact I.op st h
      · rw [if_neg c, if_neg c]
    · intro st h
      rw [openP] at h
      rw [openP, openP]
      by_cases c : onB st.f 32 = true ∧ stands s st.p [40, 63] = true
      · rw [if_pos c] at h
        rw [if_pos c, if_pos c]
        by_cases c2 : stands s st.p [40, 63, 80, 60] = true ∨ stands s st.p [40, 63, 60] = true
        · rw [if_pos c2] at h
          rw [if_pos c2, if_pos c2]
          cases hx : nameP s st.p with
          | error q => rfl
          | ok y =>
            obtain ⟨nm, q⟩ := y
            rw [hx] at h
            simp only at h ⊢
            by_cases c3 : st.ns.contains nm = true
            · rw [if_pos c3, if_pos c3]
            · rw [if_neg c3] at h
              rw [if_neg c3, if_neg c3]
              have h1 : groupP s n { st with p := q } nm ≠ .out := fun e => h (by rw [e])
              rw [I.group _ nm h1]
        · rw [if_neg c2] at h
          rw [if_neg c2, if_neg c2]
          cases hx : flagsP s st.p st.f with
          | error q => rfl
          | ok y =>
            obtain ⟨g, grp, q⟩ := y
            rw [hx] at h
            simp only at h ⊢
            by_cases c3 : grp = true
            · rw [if_pos c3] at h
              rw [if_pos c3, if_pos c3]
              have h1 : closeP s n { st with p := q, f := g } ≠ .out := fun e => h (by rw [e])
              rw [I.close _ h1]
            · rw [if_neg c3, if_neg c3]
      · rw [if_neg c] at h
        rw [if_neg c, if_neg c]
        have h1 : groupP s n { st with p := st.p + 1 } ⟨#[]⟩ ≠ .out := fun e => h (by rw [e])
        rw [I.group _ _ h1]
    · intro st nm h
      rw [groupP] at h
      rw [groupP, groupP]
      have h1 : closeP s n { st with ns := st.ns ++ [nm] } ≠ .out := fun e => h (by rw [e])
      rw [I.close _ h1]
    · intro st h
      rw [closeP] at h
      rw [closeP, closeP]
      have h1 : partsP s n st ≠ .out := fun e => h (by rw [e])
      rw [I.parts _ h1]
theorem mono_le {α : Type} {f : Nat → PR α} (h : ∀ n, f n ≠ .out → f (n + 1) = f n) {n m : Nat} (hn : f n ≠ .out) (hm : n ≤ m) : f m = f n := by
  induction hm with
  | refl => rfl
  | step _ ih => rw [h _ (by rw [ih]; exact hn), ih]
/-- Whatever the fuel, what is told is the same. -/
theorem same_told {α : Type} {f : Nat → PR α} (h : ∀ n, f n ≠ .out → f (n + 1) = f n) {n m : Nat} (hn : f n ≠ .out) (hm : f m ≠ .out) : f m = f n := by
  rcases Nat.le_total n m with h1 | h1
  · exact mono_le h hn h1
  · exact (mono_le h hm h1).symm
end Go.Proofs.YtnhnldmldnhaoaaGreatDoor

namespace Go.Proofs.YtnhnldmldnhaoaaGreatDoor
open Go Go.RowKit Go.Proofs Go.Shelf

/-- With some fuel a part is read so. -/
def PartE (s : ByteArray) (st : St) (l : List T) (r : PR T) : Prop := r ≠ .out ∧ ∃ n, partP s n st l = r
def PartsE (s : ByteArray) (st : St) (r : PR T) : Prop := r ≠ .out ∧ ∃ n, partsP s n st = r
def AltE (s : ByteArray) (st : St) (l : List T) (r : PR T) : Prop := r ≠ .out ∧ ∃ n, altP s n st l = r
def AtomsE (s : ByteArray) (st : St) (r : PR (List T)) : Prop := r ≠ .out ∧ ∃ n, atomsP s n st = r
def OpenE (s : ByteArray) (st : St) (r : PR (List T)) : Prop := r ≠ .out ∧ ∃ n, openP s n st = r
def GroupE (s : ByteArray) (st : St) (nm : ByteArray) (r : PR T) : Prop := r ≠ .out ∧ ∃ n, groupP s n st nm = r
def CloseE (s : ByteArray) (st : St) (r : PR T) : Prop := r ≠ .out ∧ ∃ n, closeP s n st = r
theorem ok_out {α : Type} {a : α} {st : St} : (PR.ok a st) ≠ .out := fun h => by cases h
theorem PartE.up {s : ByteArray} {st : St} {l : List T} {r : PR T} (h : PartE s st l r) : ∃ n, ∀ m, n ≤ m → partP s m st l = r := by
  obtain ⟨h0, n, h1⟩ := h
  exact ⟨n, fun m hm => (mono_le (f := fun k => partP s k st l) (fun k hk => (syn_mono s k).part st l hk) (by rw [h1]; exact h0) hm).trans h1⟩
theorem PartsE.up {s : ByteArray} {st : St} {r : PR T} (h : PartsE s st r) : ∃ n, ∀ m, n ≤ m → partsP s m st = r := by
  obtain ⟨h0, n, h1⟩ := h
  exact ⟨n, fun m hm => (mono_le (f := fun k => partsP s k st) (fun k hk => (syn_mono s k).parts st hk) (by rw [h1]; exact h0) hm).trans h1⟩
theorem AltE.up {s : ByteArray} {st : St} {l : List T} {r : PR T} (h : AltE s st l r) : ∃ n, ∀ m, n ≤ m → altP s m st l = r := by
  obtain ⟨h0, n, h1⟩ := h
  exact ⟨n, fun m hm => (mono_le (f := fun k => altP s k st l) (fun k hk => (syn_mono s k).alt st l hk) (by rw [h1]; exact h0) hm).trans h1⟩
theorem AtomsE.up {s : ByteArray} {st : St} {r : PR (List T)} (h : AtomsE s st r) : ∃ n, ∀ m, n ≤ m → atomsP s m st = r := by
  obtain ⟨h0, n, h1⟩ := h
  exact ⟨n, fun m hm => (mono_le (f := fun k => atomsP s k st) (fun k hk => (syn_mono s k).atoms st hk) (by rw [h1]; exact h0) hm).trans h1⟩
/-- A part that ends. -/
theorem PartE.stop {s : ByteArray} {st : St} {l : List T} (h : nextC s st.p = -1 ∨ nextC s st.p = 124 ∨ nextC s st.p = 41) : PartE s st l (.ok (catT l) st) :=
  ⟨ok_out, 1, by rw [partP, if_pos h]⟩
/-- A part that goes on with what stands next. -/
theorem PartE.atom {s : ByteArray} {st st' : St} {l ts : List T} {r : PR T} (h1 : ¬ (nextC s st.p = -1 ∨ nextC s st.p = 124 ∨ nextC s st.p = 41)) (h2 : (signP s st.p).1 = none) (h3 : AtomsE s st (.ok ts st')) (h4 : PartE s st' (l ++ ts) r) : PartE s st l r := by
  obtain ⟨n, hn⟩ := h3.up
  obtain ⟨m, hm⟩ := h4.up
  refine ⟨h4.1, max n m + 1, ?_⟩
  rw [partP, if_neg h1]
  cases hs : signP s st.p with
  | mk x q =>
    rw [hs] at h2
    simp only at h2
    subst h2
    simp only [hn _ (Nat.le_max_left n m), hm _ (Nat.le_max_right n m)]
/-- A part that goes on with a repeat. -/
theorem PartE.sign {s : ByteArray} {st : St} {l : List T} {k : T} {r : PR T} {op mn mx : Int} {q q' : Nat} {lz : Bool} (h1 : ¬ (nextC s st.p = -1 ∨ nextC s st.p = 124 ∨ nextC s st.p = 41)) (h2 : signP s st.p = (some (op, mn, mx), q)) (h3 : repeatP s st.p q st.f op mn mx = .ok (lz, q'))
    (h4 : PartE s { st with p := q' } (l ++ [repT op k mn mx lz]) r) : PartE s st (l ++ [k]) r := by
  obtain ⟨m, hm⟩ := h4.up
  refine ⟨h4.1, m + 1, ?_⟩
  rw [partP, if_neg h1]
  simp only [h2, h3, List.getLast?_append, List.getLast?_singleton, List.dropLast_concat, Option.some_or]
  exact hm m (Nat.le_refl _)
theorem AltE.more {s : ByteArray} {st st' : St} {l : List T} {t : T} {r : PR T} (h1 : stands s st.p [124] = true) (h2 : PartE s { st with p := st.p + 1 } [] (.ok t st')) (h3 : AltE s st' (l ++ [t]) r) : AltE s st l r := by
  obtain ⟨n, hn⟩ := h2.up
  obtain ⟨m, hm⟩ := h3.up
  refine ⟨h3.1, max n m + 1, ?_⟩
  rw [altP_eq, if_pos h1]
  simp only [hn _ (Nat.le_max_left n m), hm _ (Nat.le_max_right n m)]
theorem AltE.done {s : ByteArray} {st : St} {l : List T} (h1 : ¬ stands s st.p [124] = true) : AltE s st l (.ok (altsT l) st) := by
  refine ⟨ok_out, 1, ?_⟩
  rw [altP_eq, if_neg h1]
theorem PartsE.mk {s : ByteArray} {st st' : St} {t : T} {r : PR T} (h1 : PartE s st [] (.ok t st')) (h2 : AltE s st' [t] r) : PartsE s st r := by
  obtain ⟨n, hn⟩ := h1.up
  obtain ⟨m, hm⟩ := h2.up
  refine ⟨h2.1, max n m + 1, ?_⟩
  rw [partsP]
  simp only [hn _ (Nat.le_max_left n m), hm _ (Nat.le_max_right n m)]
theorem CloseE.mk {s : ByteArray} {st st' : St} {t : T} (h1 : PartsE s st (.ok t st')) (h2 : stands s st'.p [41] = true) : CloseE s st (.ok t { st' with p := st'.p + 1 }) := by
  obtain ⟨_, n, hn⟩ := h1
  exact ⟨ok_out, n + 1, by rw [closeP, hn]; simp only [if_pos h2]⟩
theorem GroupE.mk {s : ByteArray} {st st' : St} {nm : ByteArray} {t : T} (h1 : CloseE s { st with ns := st.ns ++ [nm] } (.ok t st')) : GroupE s st nm (.ok (capT t (st.ns.length + 1) nm) { st' with f := st.f }) := by
  obtain ⟨_, n, hn⟩ := h1
  exact ⟨ok_out, n + 1, by rw [groupP, hn]⟩
theorem OpenE.plain {s : ByteArray} {st st' : St} {t : T} (h : ¬ (onB st.f 32 = true ∧ stands s st.p [40, 63] = true)) (h1 : GroupE s { st with p := st.p + 1 } ⟨#[]⟩ (.ok t st')) : OpenE s st (.ok [t] st') := by
  obtain ⟨_, n, hn⟩ := h1
  exact ⟨ok_out, n + 1, by rw [openP, if_neg h, hn]⟩
theorem OpenE.named {s : ByteArray} {st st' : St} {t : T} {nm : ByteArray} {q : Nat} (h : onB st.f 32 = true ∧ stands s st.p [40, 63] = true) (h2 : stands s st.p [40, 63, 80, 60] = true ∨ stands s st.p [40, 63, 60] = true) (h3 : nameP s st.p = .ok (nm, q)) (h4 : st.ns.contains nm = false) (h1 : GroupE s { st with p := q } nm (.ok t st')) : OpenE s st (.ok [t] st') := by
  obtain ⟨_, n, hn⟩ := h1
  exact ⟨ok_out, n + 1, by rw [openP, if_pos h, if_pos h2, h3]; simp only [h4, hn]; rfl⟩
theorem OpenE.flags {s : ByteArray} {st st' : St} {t : T} {g : Int} {q : Nat} (h : onB st.f 32 = true ∧ stands s st.p [40, 63] = true) (h2 : ¬ (stands s st.p [40, 63, 80, 60] = true ∨ stands s st.p [40, 63, 60] = true)) (h3 : flagsP s st.p st.f = .ok (g, true, q)) (h1 : CloseE s { st with p := q, f := g } (.ok t st')) : OpenE s st (.ok [t] { st' with f := st.f }) := by
  obtain ⟨_, n, hn⟩ := h1
  exact ⟨ok_out, n + 1, by rw [openP, if_pos h, if_neg h2, h3]; simp only [hn]; rfl⟩
theorem AtomsE.open_ {s : ByteArray} {st : St} {r : PR (List T)} (h : nextC s st.p = 40) (h1 : OpenE s st r) : AtomsE s st r := by
  obtain ⟨h0, n, hn⟩ := h1
  exact ⟨h0, n + 1, by rw [atomsP, if_pos h, hn]⟩
theorem AtomsE.esc {s : ByteArray} {st : St} {r : PR (List T)} (h : nextC s st.p = 92) (h1 : escapeP s st = r) (h0 : r ≠ .out) : AtomsE s st r :=
  ⟨h0, 1, by rw [atomsP, if_neg (by omega), if_pos h, h1]⟩
theorem AtomsE.end_ {s : ByteArray} {st : St} (h : nextC s st.p = 36) : AtomsE s st (.ok [leafT 5 0 [] (if onB st.f 4 = true then 8 else 2)] { st with p := nextW s st.p }) :=
  ⟨ok_out, 1, by rw [atomsP, if_neg (by omega), if_neg (by omega), if_neg (by omega), if_neg (by omega), if_neg (by omega), if_pos h]⟩
theorem AtomsE.rune {s : ByteArray} {st : St} (h1 : nextC s st.p ≠ 40) (h2 : nextC s st.p ≠ 92) (h3 : nextC s st.p ≠ 91) (h4 : nextC s st.p ≠ 46) (h5 : nextC s st.p ≠ 94) (h6 : nextC s st.p ≠ 36) : AtomsE s st (.ok [atomT st.f (nextC s st.p)] { st with p := nextW s st.p }) :=
  ⟨ok_out, 1, by rw [atomsP, if_neg h1, if_neg h2, if_neg h3, if_neg h4, if_neg h5, if_neg h6]⟩
end Go.Proofs.YtnhnldmldnhaoaaGreatDoor

namespace Go.Proofs.YtnhnldmldnhaoaaGreatDoor
open Go Go.RowKit Go.Proofs Go.Shelf

/-- A letter or a digit. -/
def alnum (c : UInt8) : Bool := decide (48 ≤ c.toNat ∧ c.toNat ≤ 57 ∨ 65 ≤ c.toNat ∧ c.toNat ≤ 90 ∨ 97 ≤ c.toNat ∧ c.toNat ≤ 122)
def leafB (c : UInt8) : T := leafT 3 (c.toNat : Int) [] 0
theorem atomT_plain {f c : Int} (hf : onB f 1 = false) : atomT f c = leafT 3 c [] 0 := by
  unfold atomT
  rw [if_neg (by rw [hf]; simp)]
theorem stands_no {s : ByteArray} {p : Nat} {c : UInt8} (h : ∀ hp : p < s.size, s[p] ≠ c) (t : List UInt8) : stands s p (c :: t) = false := by
  cases hs : stands s p (c :: t) with
  | false => rfl
  | true =>
    exfalso
    have h1 : stands s p [c] = true := by
      unfold stands Lib.hasPrefix at hs ⊢
      rw [List.isPrefixOf_iff_prefix] at hs ⊢
      exact (List.prefix_append [c] t).trans hs
    obtain ⟨hp, he⟩ := (stands_one s p c).1 h1
    exact h hp he
theorem signP_no {s : ByteArray} {p : Nat} (h : ∀ hp : p < s.size, s[p] ≠ 42 ∧ s[p] ≠ 43 ∧ s[p] ≠ 63 ∧ s[p] ≠ 123) : signP s p = (none, p) := by
  unfold signP countP
  rw [stands_no (fun hp => (h hp).1), stands_no (fun hp => (h hp).2.1), stands_no (fun hp => (h hp).2.2.1), stands_no (fun hp => (h hp).2.2.2)]
  rfl
theorem alnum_ne {c : UInt8} (h : alnum c = true) (d : UInt8) (hd : alnum d = false) : c ≠ d := fun e => by rw [e, hd] at h; cases h
theorem nextC_alnum {s : ByteArray} {p : Nat} (hp : p < s.size) (h : alnum s[p] = true) : nextC s p = (s[p].toNat : Int) ∧ nextW s p = p + 1 := by
  refine nextC_ascii s p hp ?_
  unfold alnum at h
  have := of_decide_eq_true h
  omega
theorem nextC_not {s : ByteArray} {p : Nat} (hp : p < s.size) (h : alnum s[p] = true) (d : UInt8) (hd : alnum d = false) : nextC s p ≠ (d.toNat : Int) := by
  rw [(nextC_alnum hp h).1]
  intro e
  exact alnum_ne h d hd (UInt8.toNat_inj.1 (by omega))
theorem atoms_alnum (s : ByteArray) (st : St) (hp : st.p < s.size) (h : alnum s[st.p] = true) (hf : onB st.f 1 = false) (n : Nat) : atomsP s (n + 1) st = .ok [leafB s[st.p]] { st with p := st.p + 1 } := by
  have c40 : nextC s st.p ≠ 40 := nextC_not hp h 40 (by decide)
  have c92 : nextC s st.p ≠ 92 := nextC_not hp h 92 (by decide)
  have c91 : nextC s st.p ≠ 91 := nextC_not hp h 91 (by decide)
  have c46 : nextC s st.p ≠ 46 := nextC_not hp h 46 (by decide)
  have c94 : nextC s st.p ≠ 94 := nextC_not hp h 94 (by decide)
  have c36 : nextC s st.p ≠ 36 := nextC_not hp h 36 (by decide)
  unfold atomsP
  rw [if_neg c40, if_neg c92, if_neg c91, if_neg c46, if_neg c94, if_neg c36, atomT_plain hf, (nextC_alnum hp h).1, (nextC_alnum hp h).2]
  rfl
theorem part_one {s : ByteArray} {n : Nat} {st st' : St} {l ts : List T} (h1 : nextC s st.p ≠ -1 ∧ nextC s st.p ≠ 124 ∧ nextC s st.p ≠ 41) (h2 : signP s st.p = (none, st.p)) (h3 : atomsP s n st = .ok ts st') : partP s (n + 1) st l = partP s n st' (l ++ ts) := by
  conv => lhs; unfold partP
  rw [if_neg (by rintro (h | h | h); exact h1.1 h; exact h1.2.1 h; exact h1.2.2 h), h2]
  simp only [h3]
theorem part_alnum (s : ByteArray) (f : Int) (ns : List ByteArray) (hf : onB f 1 = false) : ∀ (j i n : Nat) (l : List T), i + j ≤ s.size → (∀ k (hk : k < s.size), i ≤ k → k < i + j → alnum s[k] = true) →
    partP s (n + j + 1) ⟨i, f, ns⟩ l = partP s (n + 1) ⟨i + j, f, ns⟩ (l ++ ((s.data.toList.drop i).take j).map leafB)
  | 0, i, n, l, _, _ => by simp
  | j + 1, i, n, l, hz, h => by
    have hi : i < s.size := by omega
    have ha := h i hi (Nat.le_refl _) (by omega)
    have e1 : partP s (n + (j + 1) + 1) ⟨i, f, ns⟩ l = partP s (n + j + 1) ⟨i + 1, f, ns⟩ (l ++ [leafB s[i]]) :=
      part_one (st := ⟨i, f, ns⟩) ⟨by rw [(nextC_alnum hi ha).1]; omega, nextC_not hi ha 124 (by decide), nextC_not hi ha 41 (by decide)⟩
        (signP_no fun hp => ⟨alnum_ne ha 42 (by decide), alnum_ne ha 43 (by decide), alnum_ne ha 63 (by decide), alnum_ne ha 123 (by decide)⟩) (atoms_alnum s ⟨i, f, ns⟩ hi ha hf (n + j))
    rw [e1, part_alnum s f ns hf j (i + 1) n _ (by omega) (fun k hk h1 h2 => h k hk (by omega) (by omega))]
    have e2 : s.data.toList.drop i = s[i] :: s.data.toList.drop (i + 1) := by
      have hb := byte_at hi
      obtain ⟨hl, he⟩ := List.getElem?_eq_some_iff.1 hb
      rw [List.drop_eq_getElem_cons hl, he]
    rw [e2, List.take_succ_cons, List.map_cons, List.append_assoc, show i + (j + 1) = i + 1 + j by omega]
    rfl
theorem last_snoc (l : List T) (t : T) : (l ++ [t]).getLast? = some t ∧ (l ++ [t]).dropLast = l := by simp
/-- A count behind the last. -/
theorem part_count {s : ByteArray} {n : Nat} {f : Int} {ns : List ByteArray} {k q : Nat} {l : List T} {t : T} {a b : Int} (hk : nextC s k = 123) (h42 : stands s k [42] = false) (h43 : stands s k [43] = false) (h63 : stands s k [63] = false) (hc : countP s k = some (a, b, q)) (hq : q = s.size) (hg : ¬ badCount 10 a b) (hf : onB f 16 = false) :
    partP s (n + 1 + 1) ⟨k, f, ns⟩ (l ++ [t]) = .ok (catT (l ++ [repT 10 t a b false])) ⟨q, f, ns⟩ := by
  have hend : ∀ c t, stands s q (c :: t) = false := fun c t => stands_no (fun hp => absurd hp (by omega)) t
  have hs : signP s k = (some (10, a, b), q) := by unfold signP; rw [h42, h43, h63, hc]; rfl
  have hs2 : signP s q = (none, q) := signP_no fun hp => absurd hp (by omega)
  have hlz : lazyAt s q f = false := by unfold lazyAt; rw [hend]; simp
  have hbl : behindLazy s q f = q := by unfold behindLazy; rw [hlz]; rfl
  have hr : repeatP s k q f 10 a b = .ok (false, q) := by
    unfold repeatP
    rw [if_neg hg, hbl, hs2, hlz, hf]
    rfl
  conv => lhs; unfold partP
  rw [if_neg (by simp only [hk]; decide)]
  simp only [hs, (last_snoc l t).1, (last_snoc l t).2, hr]
  unfold partP
  rw [if_pos (.inl (nextC_end s q (by omega)).1)]
end Go.Proofs.YtnhnldmldnhaoaaGreatDoor
