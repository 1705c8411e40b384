/- A named group's beginning written out is read as it is: the plain law. -/
import Derived.Test.YtjmgboegipeijaaGreatDoorLawScanNames
import Derived.Test.YtjmgboegipeijaaGreatDoorTellCount
namespace Go.Proofs.YtjmgboegipeijaaGreatDoor
open Go Go.RowKit Go.Proofs

theorem ext_list {a b : ByteArray} (h : a.data.toList = b.data.toList) : a = b := by
  cases a; cases b
  rw [ByteArray.mk.injEq]; exact Array.toList_inj.1 h
/-- A text, a beginning ahead of a name, a '>' behind it. -/
theorem tell_mid (u name : ByteArray) (pre r : List UInt8) (hu : u.data.toList = pre ++ name.data.toList ++ [62] ++ r) (hn : noGt name 0 name.size) :
    Lib.indexByte (u.data.toList.drop pre.length) 62 = (name.size : Int) ∧ u.extract pre.length (pre.length + name.size) = name := by
  have hlen : name.data.toList.length = name.size := by simp
  constructor
  · have := idx_at (l := u.data.toList) (c := 62) (p := pre.length) (k := pre.length + name.size) (by omega) (fun j h1 h2 => ?_) ?_
    · rw [this]; omega
    · rw [hu, List.append_assoc, List.append_assoc, List.getElem?_append_right h1, List.getElem?_append_left (by omega)]
      exact hn _ (Nat.zero_le _) (by omega)
    · rw [hu, List.append_assoc, List.append_assoc, List.getElem?_append_right (by omega), List.getElem?_append_right (by omega)]
      simp only [List.singleton_append]
      rw [show pre.length + name.size - pre.length - name.data.toList.length = 0 by omega]; rfl
  · apply ext_list
    rw [Lib.extract_data, hu, List.append_assoc, List.append_assoc, List.drop_left, show pre.length + name.size - pre.length = name.data.toList.length by omega, List.take_left]
theorem tell_four (u name : ByteArray) (r : List UInt8) (hu : u.data.toList = [40, 63, 80, 60] ++ name.data.toList ++ [62] ++ r) (hn : noGt name 0 name.size) :
    nameP u 0 = if nameB name = true then .ok (name, name.size + 5) else .error (endP u 0) := by
  have h4 : stands u 0 [40, 63, 80, 60] = true := stands_of (r := name.data.toList ++ ([62] ++ r)) (by rw [hu]; simp)
  obtain ⟨h1, h2⟩ := tell_mid u name [40, 63, 80, 60] r hu hn
  have h1' : Lib.indexByte (u.data.toList.drop (0 + 4)) 62 = (name.size : Int) := h1
  have h2' : u.extract (0 + 4) (0 + 4 + name.size) = name := h2
  rw [nameP_4 h4, h1', Int.toNat_natCast, h2', show 0 + 4 + name.size + 1 = name.size + 5 by omega]
  by_cases hb : nameB name = true
  · rw [if_pos hb, if_pos ⟨by omega, hb⟩]
  · rw [if_neg hb, if_neg (fun h => hb h.2)]
theorem tell_three (u name : ByteArray) (r : List UInt8) (hu : u.data.toList = [40, 63, 60] ++ name.data.toList ++ [62] ++ r) (hn : noGt name 0 name.size) :
    nameP u 0 = if nameB name = true then .ok (name, name.size + 4) else .error (endP u 0) := by
  have h3 : stands u 0 [40, 63, 60] = true := stands_of (r := name.data.toList ++ ([62] ++ r)) (by rw [hu]; simp)
  have h4 : stands u 0 [40, 63, 80, 60] = false := by
    unfold stands Lib.hasPrefix; rw [hu]; simp [List.isPrefixOf]
  obtain ⟨h1, h2⟩ := tell_mid u name [40, 63, 60] r hu hn
  have h1' : Lib.indexByte (u.data.toList.drop (0 + 3)) 62 = (name.size : Int) := h1
  have h2' : u.extract (0 + 3) (0 + 3 + name.size) = name := h2
  rw [nameP_3 h4 h3, h1', Int.toNat_natCast, h2', show 0 + 3 + name.size + 1 = name.size + 4 by omega]
  by_cases hb : nameB name = true
  · rw [if_pos hb, if_pos ⟨by omega, hb⟩]
  · rw [if_neg hb, if_neg (fun h => hb h.2)]
end Go.Proofs.YtjmgboegipeijaaGreatDoor
