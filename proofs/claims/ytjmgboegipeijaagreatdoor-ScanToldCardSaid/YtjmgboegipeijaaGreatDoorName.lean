/- A named group's beginning: scan.Name. -/
import Derived.Test.YtjmgboegipeijaaGreatDoorCaps
import Derived.Test.YtjmgboegipeijaaGreatDoorUntil
import Derived.BigRegion
namespace Go.Proofs.YtjmgboegipeijaaGreatDoor
open Go Go.RowKit Go.Proofs

def nameTree (name : ByteArray) : T := .mk 6 [.mk 2 [] 0 [] 0 0 ⟨#[]⟩ 0 0 false] 0 [] 0 1 name 0 0 false
theorem nameTree_parts (name : ByteArray) : parts (nameTree name) = [nameTree name, .mk 2 [] 0 [] 0 0 ⟨#[]⟩ 0 0 false] := by
  simp [nameTree, parts, partsL]
theorem plainT_empty : plainT (.mk 2 [] 0 [] 0 0 ⟨#[]⟩ 0 0 false) = true := by decide
theorem plainT_nameTree (name : ByteArray) : plainT (nameTree name) = (decide (name.size = 0) || nameB name) := by
  unfold plainT nameTree
  simp [T.op, T.rune, T.set, T.pl, T.cap, T.name, T.mn, T.mx, T.lz, T.kids, bareOk, kindOk]
theorem nameTree_right (name : ByteArray) : rightB (nameTree name) = (decide (name.size = 0) || nameB name) := by
  have hd : depth (nameTree name) = 2 := by simp [nameTree, depth, depthL]
  have hw : weight (nameTree name) = 3 := by simp [nameTree, weight, weightF, weightK]; decide
  unfold rightB
  rw [hd, hw, nameTree_parts]
  cases h : (decide (name.size = 0) || nameB name) with
  | false =>
    have h1 : stepR (some (0, [])) (nameTree name) = none := by
      simp only [stepR]; rw [if_pos (by rw [plainT_nameTree]; exact h)]
    simp [runR, h1, stepR_none]
  | true =>
    have h1 : stepR (some (0, [])) (nameTree name) = some (1, [name.data.toList]) := by
      simp only [stepR]
      rw [if_neg (by rw [plainT_nameTree, h]; simp), if_pos (by rfl), if_neg (by simp [nameTree, T.cap])]
      rfl
    have h2 : stepR (some (1, [name.data.toList])) (.mk 2 [] 0 [] 0 0 ⟨#[]⟩ 0 0 false) = some (1, [name.data.toList]) := by
      simp only [stepR]
      rw [if_neg (by rw [plainT_empty]; simp), if_neg (by simp [T.op])]
    simp [runR, h1, h2]
theorem nameTree_V (w : World) (b B : Nat) (name : ByteArray) (hb : b < B) (h : Blk w b [.int .i64 2, .slice none 0 0, .int .i32 0, .slice none 0 0, .int .i64 0, .int .i64 0, .string ⟨#[]⟩, .int .i64 0, .int .i64 0, .bool false] 92) :
    TreeV w B (nameTree name) [.int .i64 6, .slice (some ⟨b, 0, none⟩) 1 1, .int .i32 0, .slice none 0 0, .int .i64 0, .int .i64 1, .string name, .int .i64 0, .int .i64 0, .bool false] := by
  have hk : KidsV w B [] none 0 0 := ⟨rfl, ⟨Nat.le_refl _, Nat.zero_le _⟩, .inl rfl⟩
  have hr : RangesV w B [] none 0 0 := ⟨rfl, ⟨Nat.le_refl _, Nat.zero_le _⟩, .inl rfl⟩
  refine TreeV.mk ⟨rfl, ⟨Nat.le_refl _, (by decide)⟩, .inr ⟨b, 0, rfl, hb, KidsAt.cons.2 ⟨⟨_, TreeV.mk hk hr, ?_⟩, KidsAt.nil⟩⟩⟩ hr
  intro j hj
  simp only [Nat.zero_add]
  have : ∀ (l : List Value) (j : Nat) (hj : j < l.length), l[j]? = some l[j] := fun l j hj => List.getElem?_eq_getElem hj
  rw [this _ j hj]
  exact Blk.cell h (this _ j hj)

theorem setsRight_none : SetsRight (fun _ => False) := fun _ h => h.elim

def capsLen (name : ByteArray) : Nat := if (decide (name.size = 0) || nameB name) = true then 2 else 0
theorem caps_name (w : World) (b : Nat) (name : ByteArray) (hb : b < w.heap.size) (h : Blk w b [.int .i64 2, .slice none 0 0, .int .i32 0, .slice none 0 0, .int .i64 0, .int .i64 0, .string ⟨#[]⟩, .int .i64 0, .int .i64 0, .bool false] 92) :
    Calls Tryz.prog 43 #[.agg #[.int .i64 6, .slice (some ⟨b, 0, none⟩) 1 1, .int .i32 0, .slice none 0 0, .int .i64 0, .int .i64 1, .string name, .int .i64 0, .int .i64 0, .bool false]] w
      fun e w' => ∃ A c, e = .returned (.slice A (capsLen name) c) ∧ Below w.heap.size w w' := by
  have hV := nameTree_V w b w.heap.size name hb h
  have hP : ∀ p ∈ parts (nameTree name), p.op = 4 → False := by
    intro p hp
    rw [nameTree_parts] at hp
    simp only [List.mem_cons, List.not_mem_nil, or_false] at hp
    rcases hp with rfl | rfl
    · simp [nameTree, T.op]
    · simp [T.op]
  have hN : (parts (nameTree name)).length ≤ 1000000 := by rw [nameTree_parts]; simp
  have hR := nameTree_right name
  cases hr : (decide (name.size = 0) || nameB name) with
  | false =>
    have hl : capsLen name = 0 := by unfold capsLen; rw [hr]; rfl
    rw [hr] at hR
    rw [hl]
    exact (caps_no setsRight_none (nameTree name) _ w.heap.size w hV (Nat.le_refl _) hP hN hR).mono fun e w' h => ⟨none, 0, h.1, h.2⟩
  | true =>
    have hl : capsLen name = 2 := by unfold capsLen; rw [hr]; rfl
    rw [hr] at hR
    rw [hl]
    refine (caps_yes setsRight_none (nameTree name) _ w.heap.size w hV (Nat.le_refl _) hP hN hR).mono fun e w' h => ?_
    obtain ⟨v, he, hrow, hB⟩ := h
    have hlen : (capsN (parts (nameTree name))).length = 2 := by rw [nameTree_parts]; simp [capsN, nameTree, T.op]
    rw [hlen] at hrow
    rcases hrow.2 with ⟨_, h0⟩ | ⟨g, cap, cur, rfl, _⟩
    · cases h0
    · exact ⟨_, cap, he, hB⟩
end Go.Proofs.YtjmgboegipeijaaGreatDoor
