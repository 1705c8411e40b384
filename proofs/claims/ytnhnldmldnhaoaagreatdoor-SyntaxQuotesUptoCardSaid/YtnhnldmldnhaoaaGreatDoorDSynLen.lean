/- No more atoms than bytes. -/
import Derived.Test.YtnhnldmldnhaoaaGreatDoorDSynFit
namespace Go.Proofs.YtnhnldmldnhaoaaGreatDoor
open Go Go.RowKit Go.Proofs Go.Shelf

theorem runesN_len (s : ByteArray) : ∀ n p, p ≤ s.size → (runesN s n p).length ≤ s.size - p
  | 0, p, _ => by simp [runesN]
  | n + 1, p, hp => by
    unfold runesN
    split
    · rename_i h
      have h1 := nextW_gt s p h
      have h2 := nextW_le s p hp
      have := runesN_len s n (nextW s p) h2
      rw [List.length_cons]; omega
    · simp
theorem runesT_len (f : Int) (s : ByteArray) : (runesT f s).length ≤ s.size := by
  unfold runesT runesL
  rw [List.length_map]
  have := runesN_len s s.size 0 (Nat.zero_le _)
  omega
theorem quoteP_len (s : ByteArray) (p : Nat) (hp : p ≤ s.size) : p + (quoteP s p).1.size ≤ (quoteP s p).2 := by
  unfold quoteP
  split
  · rename_i h
    have h1 := Lib.index_room (s.data.toList.drop p) [92, 69] h
    rw [List.length_drop, toList_len] at h1
    simp only [ByteArray.size_extract]
    omega
  · simp only [ByteArray.size_extract]
    omega
/-- At most one tree, or a place behind it all. -/
def Few (p : Nat) : PR (List T) → Prop
  | .ok us st => us.length ≤ 1 ∨ p + us.length ≤ st.p
  | _ => True
theorem Few.one {p : Nat} {us : List T} {st : St} (h : us.length ≤ 1) : Few p (.ok us st) := .inl h
theorem open_few (s : ByteArray) (n : Nat) (st : St) : Few st.p (openP s n st) := by
  cases n with
  | zero => unfold openP; trivial
  | succ n =>
    unfold openP
    split
    · split
      · cases nameP s st.p with
        | error q => trivial
        | ok x =>
          obtain ⟨nm, q⟩ := x
          simp only
          split
          · trivial
          · cases groupP s n { st with p := q } nm with
            | out => trivial
            | wrong e f t => trivial
            | ok t st' => exact .one (by simp)
      · cases flagsP s st.p st.f with
        | error q => trivial
        | ok x =>
          obtain ⟨g, grp, q⟩ := x
          simp only
          split
          · cases closeP s n { st with p := q, f := g } with
            | out => trivial
            | wrong e f t => trivial
            | ok t st' => exact .one (by simp)
          · exact .one (by simp)
    · cases groupP s n { st with p := st.p + 1 } ⟨#[]⟩ with
      | out => trivial
      | wrong e f t => trivial
      | ok t st' => exact .one (by simp)
theorem escape_few (s : ByteArray) (st : St) (hb : Bd s st.p) (hs : stands s st.p [92] = true) : Few st.p (escapeP s st) := by
  have h := escP_fit s st.p (onB st.f 32) hb hs
  unfold escapeP
  cases hx : escP s st.p (onB st.f 32) with
  | wrong e f t => trivial
  | set g q => exact .one (by simp)
  | lit k r a q =>
    rw [hx] at h
    obtain ⟨_, Q, rfl, h⟩ := h
    simp only [Int.toNat_natCast]
    split
    · exact .one (by simp)
    split
    · exact .one (by simp)
    · have h1 := quoteP_len s Q h.2.1
      have h2 := runesT_len st.f (quoteP s Q).1
      have h3 := h.1
      exact .inr (by show st.p + _ ≤ (quoteP s Q).2; omega)
theorem atoms_few (s : ByteArray) (n : Nat) (st : St) (hb : Bd s st.p) : Few st.p (atomsP s n st) := by
  cases n with
  | zero => unfold atomsP; trivial
  | succ n =>
    unfold atomsP
    split
    · exact open_few s n st
    split
    · rename_i hc
      exact escape_few s st hb (stands_of_nextC (c := 92) hc (by decide))
    split
    · cases clsQ s st.p (onB st.f 32) (if onB st.f 1 then some foldF else none) with
      | wrong e f t => trivial
      | ok g q => exact .one (by simp)
    split
    · exact .one (by simp)
    split
    · exact .one (by simp)
    split
    · exact .one (by simp)
    · exact .one (by simp)
theorem atoms_len {s : ByteArray} {n : Nat} {st st1 : St} {us : List T} (hb : Bd s st.p) (hf : FitS s st.p (atomsP s n st)) (h : atomsP s n st = .ok us st1) : st.p + us.length ≤ st1.p := by
  have h1 := atoms_few s n st hb
  rw [h] at h1 hf
  have h2 : st.p < st1.p := hf.1
  rcases h1 with h1 | h1
  · omega
  · exact h1
end Go.Proofs.YtnhnldmldnhaoaaGreatDoor
