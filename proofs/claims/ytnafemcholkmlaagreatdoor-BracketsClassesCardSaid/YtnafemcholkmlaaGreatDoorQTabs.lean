/- The sets with names: tables.Named and martelloref03.Named. (Printed by gen_tabs.py.) -/
import Derived.Test.YtnafemcholkmlaaGreatDoorQSetsNot
namespace Go.Proofs.YtnafemcholkmlaaGreatDoor
open Go Go.RowKit Go.Proofs Go.Shelf

def tabs : List (List UInt8 × List (Int × Int)) :=
  [([76, 117], [(65, 90), (192, 214), (216, 222), (913, 929), (931, 937), (1040, 1071)]),
   ([76, 108], [(97, 122), (223, 246), (248, 255), (945, 969), (1072, 1103)]),
   ([76], [(65, 90), (97, 122), (170, 170), (186, 186), (192, 214), (216, 246), (248, 255), (913, 929), (931, 937), (945, 969), (1040, 1103), (19968, 40959)]),
   ([78, 100], [(48, 57), (1632, 1641)]),
   ([78], [(48, 57), (178, 179), (185, 185), (188, 190), (1632, 1641), (8544, 8584)]),
   ([80], [(33, 35), (37, 42), (44, 47), (58, 59), (63, 64), (91, 93), (95, 95), (123, 123), (125, 125), (161, 161), (167, 167), (171, 171), (182, 183), (187, 187), (191, 191)]),
   ([83], [(36, 36), (43, 43), (60, 62), (94, 94), (96, 96), (124, 124), (126, 126), (162, 166), (168, 169), (172, 172), (174, 177), (180, 180), (184, 184), (215, 215), (247, 247)]),
   ([90], [(32, 32), (160, 160), (8192, 8202), (8232, 8233), (8239, 8239), (12288, 12288)]),
   ([67, 99], [(0, 31), (127, 159)]),
   ([76, 97, 116, 105, 110], [(65, 90), (97, 122), (170, 170), (186, 186), (192, 214), (216, 246), (248, 591), (8490, 8491)]),
   ([71, 114, 101, 101, 107], [(880, 883), (885, 887), (890, 893), (895, 895), (900, 900), (902, 902), (904, 906), (908, 908), (910, 929), (931, 993)]),
   ([67, 121, 114, 105, 108, 108, 105, 99], [(1024, 1156), (1159, 1327)]),
   ([72, 97, 110], [(19968, 40959)])]
/-- The set of a name. -/
def tabOf (s : List UInt8) : Option (List (Int × Int)) := (tabs.find? fun p => p.1 == s).map (·.2)
theorem tabOf_right {s : List UInt8} {l : List (Int × Int)} (h : tabOf s = some l) : setRight l = true ∧ l.length ≤ 15 := by
  have key : ∀ p ∈ tabs, setRight p.2 = true ∧ p.2.length ≤ 15 := by decide
  unfold tabOf at h
  cases hf : tabs.find? (fun p => p.1 == s) with
  | none => rw [hf] at h; cases h
  | some p => rw [hf] at h; cases h; exact key p (List.mem_of_find?_eq_some hf)
theorem tabOf_some {s : List UInt8} {l : List (Int × Int)} (h : tabOf s = some l) : (s, l) ∈ tabs := by
  unfold tabOf at h
  cases hf : tabs.find? (fun p => p.1 == s) with
  | none => rw [hf] at h; cases h
  | some p =>
    rw [hf] at h; cases h
    have h1 := List.mem_of_find?_eq_some hf
    have h2 := List.find?_some hf
    have : p.1 = s := by simpa using h2
    rw [← this]; exact h1
theorem tabOf_none {s : List UInt8} (h : tabOf s = none) : ∀ p ∈ tabs, (s == p.1) = false := by
  unfold tabOf at h
  intro p hp
  cases hf : tabs.find? (fun p => p.1 == s) with
  | some p => rw [hf] at h; cases h
  | none =>
    have := List.find?_eq_none.1 hf p hp
    simp only [beq_iff_eq] at this
    exact beq_eq_false_iff_ne.2 fun e => this e.symm

/-- A literal of ranges. -/
theorem Laid.lit (w : World) (rs : List (Int × Int)) (cs : Array Value) (hc : cs = (flatR rs).toArray) (hl : rs.length ≤ maxLen) : Laid w (w.alloc (.cells cs 43)) rs (.slice (some ⟨w.heap.size, 0, none⟩) rs.length rs.length) := by
  subst hc
  refine ⟨by rw [flatR_length], .inr ⟨w.heap.size, rs.length, _, rfl, Nat.le_refl _, World.alloc_heap_new w _, Nat.le_refl _, hl, by simp [flatR_length], ?_⟩⟩
  rw [← flatR_length]; simp

/-- What Named hands back. -/
def NamedR (w : World) (s : List UInt8) (e : Ending) (w' : World) : Prop :=
  ∃ v, e = .returned (.tuple #[v, .bool (tabOf s).isSome]) ∧ Laid w w' ((tabOf s).getD []) v ∧ Below w.heap.size w w'

theorem bytes_of {s : ByteArray} {l : List UInt8} (h : s.toList = l) : s = ⟨l.toArray⟩ := by
  have h : s.data.toList = l := by rw [← h]; exact (ByteArray.toList_eq s).symm
  cases s with | mk d => simp only at h; subst h; simp

set_option maxHeartbeats 1000000 in
set_option maxRecDepth 100000 in
theorem go_named_0 (w : World) : Calls Tryz.prog 113 #[.string ⟨#[76, 117]⟩] w (NamedR w [76, 117]) := by
  have ht : tabOf [76, 117] = some [(65, 90), (192, 214), (216, 222), (913, 929), (931, 937), (1040, 1071)] := by rfl
  have HT := Lib.hid ht; clear ht
  go_enter Tryz.func113, Tryz.ntmps113
  go_wp2_with fail
  go_ret2
  refine ⟨_, by rw [HT.out]; rfl, ?_, (Below.refl _ w).alloc (Nat.le_refl _) _⟩
  rw [HT.out]; exact Laid.lit w [(65, 90), (192, 214), (216, 222), (913, 929), (931, 937), (1040, 1071)] _ rfl (by decide)

set_option maxHeartbeats 1000000 in
set_option maxRecDepth 100000 in
theorem go_named_1 (w : World) : Calls Tryz.prog 113 #[.string ⟨#[76, 108]⟩] w (NamedR w [76, 108]) := by
  have ht : tabOf [76, 108] = some [(97, 122), (223, 246), (248, 255), (945, 969), (1072, 1103)] := by rfl
  have HT := Lib.hid ht; clear ht
  go_enter Tryz.func113, Tryz.ntmps113
  go_wp2_with fail
  go_ret2
  refine ⟨_, by rw [HT.out]; rfl, ?_, (Below.refl _ w).alloc (Nat.le_refl _) _⟩
  rw [HT.out]; exact Laid.lit w [(97, 122), (223, 246), (248, 255), (945, 969), (1072, 1103)] _ rfl (by decide)

set_option maxHeartbeats 1000000 in
set_option maxRecDepth 100000 in
theorem go_named_2 (w : World) : Calls Tryz.prog 113 #[.string ⟨#[76]⟩] w (NamedR w [76]) := by
  have ht : tabOf [76] = some [(65, 90), (97, 122), (170, 170), (186, 186), (192, 214), (216, 246), (248, 255), (913, 929), (931, 937), (945, 969), (1040, 1103), (19968, 40959)] := by rfl
  have HT := Lib.hid ht; clear ht
  go_enter Tryz.func113, Tryz.ntmps113
  go_wp2_with fail
  go_ret2
  refine ⟨_, by rw [HT.out]; rfl, ?_, (Below.refl _ w).alloc (Nat.le_refl _) _⟩
  rw [HT.out]; exact Laid.lit w [(65, 90), (97, 122), (170, 170), (186, 186), (192, 214), (216, 246), (248, 255), (913, 929), (931, 937), (945, 969), (1040, 1103), (19968, 40959)] _ rfl (by decide)

set_option maxHeartbeats 1000000 in
set_option maxRecDepth 100000 in
theorem go_named_3 (w : World) : Calls Tryz.prog 113 #[.string ⟨#[78, 100]⟩] w (NamedR w [78, 100]) := by
  have ht : tabOf [78, 100] = some [(48, 57), (1632, 1641)] := by rfl
  have HT := Lib.hid ht; clear ht
  go_enter Tryz.func113, Tryz.ntmps113
  go_wp2_with fail
  go_ret2
  refine ⟨_, by rw [HT.out]; rfl, ?_, (Below.refl _ w).alloc (Nat.le_refl _) _⟩
  rw [HT.out]; exact Laid.lit w [(48, 57), (1632, 1641)] _ rfl (by decide)

set_option maxHeartbeats 1000000 in
set_option maxRecDepth 100000 in
theorem go_named_4 (w : World) : Calls Tryz.prog 113 #[.string ⟨#[78]⟩] w (NamedR w [78]) := by
  have ht : tabOf [78] = some [(48, 57), (178, 179), (185, 185), (188, 190), (1632, 1641), (8544, 8584)] := by rfl
  have HT := Lib.hid ht; clear ht
  go_enter Tryz.func113, Tryz.ntmps113
  go_wp2_with fail
  go_ret2
  refine ⟨_, by rw [HT.out]; rfl, ?_, (Below.refl _ w).alloc (Nat.le_refl _) _⟩
  rw [HT.out]; exact Laid.lit w [(48, 57), (178, 179), (185, 185), (188, 190), (1632, 1641), (8544, 8584)] _ rfl (by decide)

set_option maxHeartbeats 1000000 in
set_option maxRecDepth 100000 in
theorem go_named_5 (w : World) : Calls Tryz.prog 113 #[.string ⟨#[80]⟩] w (NamedR w [80]) := by
  have ht : tabOf [80] = some [(33, 35), (37, 42), (44, 47), (58, 59), (63, 64), (91, 93), (95, 95), (123, 123), (125, 125), (161, 161), (167, 167), (171, 171), (182, 183), (187, 187), (191, 191)] := by rfl
  have HT := Lib.hid ht; clear ht
  go_enter Tryz.func113, Tryz.ntmps113
  go_wp2_with fail
  go_ret2
  refine ⟨_, by rw [HT.out]; rfl, ?_, (Below.refl _ w).alloc (Nat.le_refl _) _⟩
  rw [HT.out]; exact Laid.lit w [(33, 35), (37, 42), (44, 47), (58, 59), (63, 64), (91, 93), (95, 95), (123, 123), (125, 125), (161, 161), (167, 167), (171, 171), (182, 183), (187, 187), (191, 191)] _ rfl (by decide)

set_option maxHeartbeats 1000000 in
set_option maxRecDepth 100000 in
theorem go_named_6 (w : World) : Calls Tryz.prog 113 #[.string ⟨#[83]⟩] w (NamedR w [83]) := by
  have ht : tabOf [83] = some [(36, 36), (43, 43), (60, 62), (94, 94), (96, 96), (124, 124), (126, 126), (162, 166), (168, 169), (172, 172), (174, 177), (180, 180), (184, 184), (215, 215), (247, 247)] := by rfl
  have HT := Lib.hid ht; clear ht
  go_enter Tryz.func113, Tryz.ntmps113
  go_wp2_with fail
  go_ret2
  refine ⟨_, by rw [HT.out]; rfl, ?_, (Below.refl _ w).alloc (Nat.le_refl _) _⟩
  rw [HT.out]; exact Laid.lit w [(36, 36), (43, 43), (60, 62), (94, 94), (96, 96), (124, 124), (126, 126), (162, 166), (168, 169), (172, 172), (174, 177), (180, 180), (184, 184), (215, 215), (247, 247)] _ rfl (by decide)

set_option maxHeartbeats 1000000 in
set_option maxRecDepth 100000 in
theorem go_named_7 (w : World) : Calls Tryz.prog 113 #[.string ⟨#[90]⟩] w (NamedR w [90]) := by
  have ht : tabOf [90] = some [(32, 32), (160, 160), (8192, 8202), (8232, 8233), (8239, 8239), (12288, 12288)] := by rfl
  have HT := Lib.hid ht; clear ht
  go_enter Tryz.func113, Tryz.ntmps113
  go_wp2_with fail
  go_ret2
  refine ⟨_, by rw [HT.out]; rfl, ?_, (Below.refl _ w).alloc (Nat.le_refl _) _⟩
  rw [HT.out]; exact Laid.lit w [(32, 32), (160, 160), (8192, 8202), (8232, 8233), (8239, 8239), (12288, 12288)] _ rfl (by decide)

set_option maxHeartbeats 1000000 in
set_option maxRecDepth 100000 in
theorem go_named_8 (w : World) : Calls Tryz.prog 113 #[.string ⟨#[67, 99]⟩] w (NamedR w [67, 99]) := by
  have ht : tabOf [67, 99] = some [(0, 31), (127, 159)] := by rfl
  have HT := Lib.hid ht; clear ht
  go_enter Tryz.func113, Tryz.ntmps113
  go_wp2_with fail
  go_ret2
  refine ⟨_, by rw [HT.out]; rfl, ?_, (Below.refl _ w).alloc (Nat.le_refl _) _⟩
  rw [HT.out]; exact Laid.lit w [(0, 31), (127, 159)] _ rfl (by decide)

set_option maxHeartbeats 1000000 in
set_option maxRecDepth 100000 in
theorem go_named_9 (w : World) : Calls Tryz.prog 113 #[.string ⟨#[76, 97, 116, 105, 110]⟩] w (NamedR w [76, 97, 116, 105, 110]) := by
  have ht : tabOf [76, 97, 116, 105, 110] = some [(65, 90), (97, 122), (170, 170), (186, 186), (192, 214), (216, 246), (248, 591), (8490, 8491)] := by rfl
  have HT := Lib.hid ht; clear ht
  go_enter Tryz.func113, Tryz.ntmps113
  go_wp2_with fail
  go_ret2
  refine ⟨_, by rw [HT.out]; rfl, ?_, (Below.refl _ w).alloc (Nat.le_refl _) _⟩
  rw [HT.out]; exact Laid.lit w [(65, 90), (97, 122), (170, 170), (186, 186), (192, 214), (216, 246), (248, 591), (8490, 8491)] _ rfl (by decide)

set_option maxHeartbeats 1000000 in
set_option maxRecDepth 100000 in
theorem go_named_10 (w : World) : Calls Tryz.prog 113 #[.string ⟨#[71, 114, 101, 101, 107]⟩] w (NamedR w [71, 114, 101, 101, 107]) := by
  have ht : tabOf [71, 114, 101, 101, 107] = some [(880, 883), (885, 887), (890, 893), (895, 895), (900, 900), (902, 902), (904, 906), (908, 908), (910, 929), (931, 993)] := by rfl
  have HT := Lib.hid ht; clear ht
  go_enter Tryz.func113, Tryz.ntmps113
  go_wp2_with fail
  go_ret2
  refine ⟨_, by rw [HT.out]; rfl, ?_, (Below.refl _ w).alloc (Nat.le_refl _) _⟩
  rw [HT.out]; exact Laid.lit w [(880, 883), (885, 887), (890, 893), (895, 895), (900, 900), (902, 902), (904, 906), (908, 908), (910, 929), (931, 993)] _ rfl (by decide)

set_option maxHeartbeats 1000000 in
set_option maxRecDepth 100000 in
theorem go_named_11 (w : World) : Calls Tryz.prog 113 #[.string ⟨#[67, 121, 114, 105, 108, 108, 105, 99]⟩] w (NamedR w [67, 121, 114, 105, 108, 108, 105, 99]) := by
  have ht : tabOf [67, 121, 114, 105, 108, 108, 105, 99] = some [(1024, 1156), (1159, 1327)] := by rfl
  have HT := Lib.hid ht; clear ht
  go_enter Tryz.func113, Tryz.ntmps113
  go_wp2_with fail
  go_ret2
  refine ⟨_, by rw [HT.out]; rfl, ?_, (Below.refl _ w).alloc (Nat.le_refl _) _⟩
  rw [HT.out]; exact Laid.lit w [(1024, 1156), (1159, 1327)] _ rfl (by decide)

set_option maxHeartbeats 1000000 in
set_option maxRecDepth 100000 in
theorem go_named_12 (w : World) : Calls Tryz.prog 113 #[.string ⟨#[72, 97, 110]⟩] w (NamedR w [72, 97, 110]) := by
  have ht : tabOf [72, 97, 110] = some [(19968, 40959)] := by rfl
  have HT := Lib.hid ht; clear ht
  go_enter Tryz.func113, Tryz.ntmps113
  go_wp2_with fail
  go_ret2
  refine ⟨_, by rw [HT.out]; rfl, ?_, (Below.refl _ w).alloc (Nat.le_refl _) _⟩
  rw [HT.out]; exact Laid.lit w [(19968, 40959)] _ rfl (by decide)

set_option maxHeartbeats 1000000 in
set_option maxRecDepth 100000 in
theorem go_named_none (s : ByteArray) (w : World) (h : tabOf s.toList = none) : Calls Tryz.prog 113 #[.string s] w (NamedR w s.toList) := by
  have n0 : (s.toList == [76, 117]) = false := tabOf_none h ([76, 117], [(65, 90), (192, 214), (216, 222), (913, 929), (931, 937), (1040, 1071)]) (by decide)
  have n1 : (s.toList == [76, 108]) = false := tabOf_none h ([76, 108], [(97, 122), (223, 246), (248, 255), (945, 969), (1072, 1103)]) (by decide)
  have n2 : (s.toList == [76]) = false := tabOf_none h ([76], [(65, 90), (97, 122), (170, 170), (186, 186), (192, 214), (216, 246), (248, 255), (913, 929), (931, 937), (945, 969), (1040, 1103), (19968, 40959)]) (by decide)
  have n3 : (s.toList == [78, 100]) = false := tabOf_none h ([78, 100], [(48, 57), (1632, 1641)]) (by decide)
  have n4 : (s.toList == [78]) = false := tabOf_none h ([78], [(48, 57), (178, 179), (185, 185), (188, 190), (1632, 1641), (8544, 8584)]) (by decide)
  have n5 : (s.toList == [80]) = false := tabOf_none h ([80], [(33, 35), (37, 42), (44, 47), (58, 59), (63, 64), (91, 93), (95, 95), (123, 123), (125, 125), (161, 161), (167, 167), (171, 171), (182, 183), (187, 187), (191, 191)]) (by decide)
  have n6 : (s.toList == [83]) = false := tabOf_none h ([83], [(36, 36), (43, 43), (60, 62), (94, 94), (96, 96), (124, 124), (126, 126), (162, 166), (168, 169), (172, 172), (174, 177), (180, 180), (184, 184), (215, 215), (247, 247)]) (by decide)
  have n7 : (s.toList == [90]) = false := tabOf_none h ([90], [(32, 32), (160, 160), (8192, 8202), (8232, 8233), (8239, 8239), (12288, 12288)]) (by decide)
  have n8 : (s.toList == [67, 99]) = false := tabOf_none h ([67, 99], [(0, 31), (127, 159)]) (by decide)
  have n9 : (s.toList == [76, 97, 116, 105, 110]) = false := tabOf_none h ([76, 97, 116, 105, 110], [(65, 90), (97, 122), (170, 170), (186, 186), (192, 214), (216, 246), (248, 591), (8490, 8491)]) (by decide)
  have n10 : (s.toList == [71, 114, 101, 101, 107]) = false := tabOf_none h ([71, 114, 101, 101, 107], [(880, 883), (885, 887), (890, 893), (895, 895), (900, 900), (902, 902), (904, 906), (908, 908), (910, 929), (931, 993)]) (by decide)
  have n11 : (s.toList == [67, 121, 114, 105, 108, 108, 105, 99]) = false := tabOf_none h ([67, 121, 114, 105, 108, 108, 105, 99], [(1024, 1156), (1159, 1327)]) (by decide)
  have n12 : (s.toList == [72, 97, 110]) = false := tabOf_none h ([72, 97, 110], [(19968, 40959)]) (by decide)
  have HT := Lib.hid h; clear h
  go_enter Tryz.func113, Tryz.ntmps113
  go_wp2_with fail
  go_ret2
  exact ⟨_, by rw [HT.out]; rfl, by rw [HT.out]; exact World.ownsRow_nil _ _ _ _, Below.refl _ _⟩

theorem go_named (s : ByteArray) (w : World) : Calls Tryz.prog 113 #[.string s] w (NamedR w s.toList) := by
  cases h : tabOf s.toList with
  | none => exact go_named_none s w h
  | some l =>
    have hm := tabOf_some h
    simp only [tabs, List.mem_cons, List.not_mem_nil, or_false, Prod.mk.injEq] at hm
    rcases hm with ⟨h1, _⟩ | ⟨h1, _⟩ | ⟨h1, _⟩ | ⟨h1, _⟩ | ⟨h1, _⟩ | ⟨h1, _⟩ | ⟨h1, _⟩ | ⟨h1, _⟩ | ⟨h1, _⟩ | ⟨h1, _⟩ | ⟨h1, _⟩ | ⟨h1, _⟩ | ⟨h1, _⟩
    · rw [h1]; obtain rfl : s = ⟨#[76, 117]⟩ := bytes_of h1
      exact go_named_0 w
    · rw [h1]; obtain rfl : s = ⟨#[76, 108]⟩ := bytes_of h1
      exact go_named_1 w
    · rw [h1]; obtain rfl : s = ⟨#[76]⟩ := bytes_of h1
      exact go_named_2 w
    · rw [h1]; obtain rfl : s = ⟨#[78, 100]⟩ := bytes_of h1
      exact go_named_3 w
    · rw [h1]; obtain rfl : s = ⟨#[78]⟩ := bytes_of h1
      exact go_named_4 w
    · rw [h1]; obtain rfl : s = ⟨#[80]⟩ := bytes_of h1
      exact go_named_5 w
    · rw [h1]; obtain rfl : s = ⟨#[83]⟩ := bytes_of h1
      exact go_named_6 w
    · rw [h1]; obtain rfl : s = ⟨#[90]⟩ := bytes_of h1
      exact go_named_7 w
    · rw [h1]; obtain rfl : s = ⟨#[67, 99]⟩ := bytes_of h1
      exact go_named_8 w
    · rw [h1]; obtain rfl : s = ⟨#[76, 97, 116, 105, 110]⟩ := bytes_of h1
      exact go_named_9 w
    · rw [h1]; obtain rfl : s = ⟨#[71, 114, 101, 101, 107]⟩ := bytes_of h1
      exact go_named_10 w
    · rw [h1]; obtain rfl : s = ⟨#[67, 121, 114, 105, 108, 108, 105, 99]⟩ := bytes_of h1
      exact go_named_11 w
    · rw [h1]; obtain rfl : s = ⟨#[72, 97, 110]⟩ := bytes_of h1
      exact go_named_12 w

set_option maxHeartbeats 1000000 in
set_option maxRecDepth 100000 in
theorem ref03_named_0 (w : World) : Calls Tryz.prog 133 #[.string ⟨#[76, 117]⟩] w (NamedR w [76, 117]) := by
  have ht : tabOf [76, 117] = some [(65, 90), (192, 214), (216, 222), (913, 929), (931, 937), (1040, 1071)] := by rfl
  have HT := Lib.hid ht; clear ht
  have hr : RangesAt (w.alloc (.cells (flatR [(65, 90), (192, 214), (216, 222), (913, 929), (931, 937), (1040, 1071)]).toArray 71)) [(65, 90), (192, 214), (216, 222), (913, 929), (931, 937), (1040, 1071)] w.heap.size 0 := RangesAt.of_cells _ 0 fun j hj => ⟨by rw [Nat.zero_add]; exact (Blk.new w (flatR [(65, 90), (192, 214), (216, 222), (913, 929), (931, 937), (1040, 1071)]) 71).cell (flatR_get _ j hj).1, by rw [Nat.zero_add]; exact (Blk.new w (flatR [(65, 90), (192, 214), (216, 222), (913, 929), (931, 937), (1040, 1071)]) 71).cell (flatR_get _ j hj).2⟩
  have hs := ref03_set [(65, 90), (192, 214), (216, 222), (913, 929), (931, 937), (1040, 1071)] w.heap.size 6 _ hr (by simp) (by decide)
  have HS := Lib.hid hs; clear hs hr
  go_enter Tryz.func133, Tryz.ntmps133
  go_wp2_with fail
  refine (HS.out).mono ?_
  rintro e w1 ⟨v, rfl, h1, h2⟩
  have H1 := Lib.hid h1; have H2 := Lib.hid h2; clear h1 h2
  go_wp2_with fail
  go_ret2
  have hb := (Below.refl w.heap.size w).alloc (Nat.le_refl _) (.cells (flatR [(65, 90), (192, 214), (216, 222), (913, 929), (931, 937), (1040, 1071)]).toArray 71)
  refine ⟨v, by rw [HT.out]; rfl, ?_, hb.trans (H2.out.mono hb.size)⟩
  rw [HT.out]; exact Joins.ownsRow_le H1.out hb.size

set_option maxHeartbeats 1000000 in
set_option maxRecDepth 100000 in
theorem ref03_named_1 (w : World) : Calls Tryz.prog 133 #[.string ⟨#[76, 108]⟩] w (NamedR w [76, 108]) := by
  have ht : tabOf [76, 108] = some [(97, 122), (223, 246), (248, 255), (945, 969), (1072, 1103)] := by rfl
  have HT := Lib.hid ht; clear ht
  have hr : RangesAt (w.alloc (.cells (flatR [(97, 122), (223, 246), (248, 255), (945, 969), (1072, 1103)]).toArray 71)) [(97, 122), (223, 246), (248, 255), (945, 969), (1072, 1103)] w.heap.size 0 := RangesAt.of_cells _ 0 fun j hj => ⟨by rw [Nat.zero_add]; exact (Blk.new w (flatR [(97, 122), (223, 246), (248, 255), (945, 969), (1072, 1103)]) 71).cell (flatR_get _ j hj).1, by rw [Nat.zero_add]; exact (Blk.new w (flatR [(97, 122), (223, 246), (248, 255), (945, 969), (1072, 1103)]) 71).cell (flatR_get _ j hj).2⟩
  have hs := ref03_set [(97, 122), (223, 246), (248, 255), (945, 969), (1072, 1103)] w.heap.size 5 _ hr (by simp) (by decide)
  have HS := Lib.hid hs; clear hs hr
  go_enter Tryz.func133, Tryz.ntmps133
  go_wp2_with fail
  refine (HS.out).mono ?_
  rintro e w1 ⟨v, rfl, h1, h2⟩
  have H1 := Lib.hid h1; have H2 := Lib.hid h2; clear h1 h2
  go_wp2_with fail
  go_ret2
  have hb := (Below.refl w.heap.size w).alloc (Nat.le_refl _) (.cells (flatR [(97, 122), (223, 246), (248, 255), (945, 969), (1072, 1103)]).toArray 71)
  refine ⟨v, by rw [HT.out]; rfl, ?_, hb.trans (H2.out.mono hb.size)⟩
  rw [HT.out]; exact Joins.ownsRow_le H1.out hb.size

set_option maxHeartbeats 1000000 in
set_option maxRecDepth 100000 in
theorem ref03_named_2 (w : World) : Calls Tryz.prog 133 #[.string ⟨#[76]⟩] w (NamedR w [76]) := by
  have ht : tabOf [76] = some [(65, 90), (97, 122), (170, 170), (186, 186), (192, 214), (216, 246), (248, 255), (913, 929), (931, 937), (945, 969), (1040, 1103), (19968, 40959)] := by rfl
  have HT := Lib.hid ht; clear ht
  have hr : RangesAt (w.alloc (.cells (flatR [(65, 90), (97, 122), (170, 170), (186, 186), (192, 214), (216, 246), (248, 255), (913, 929), (931, 937), (945, 969), (1040, 1103), (19968, 40959)]).toArray 71)) [(65, 90), (97, 122), (170, 170), (186, 186), (192, 214), (216, 246), (248, 255), (913, 929), (931, 937), (945, 969), (1040, 1103), (19968, 40959)] w.heap.size 0 := RangesAt.of_cells _ 0 fun j hj => ⟨by rw [Nat.zero_add]; exact (Blk.new w (flatR [(65, 90), (97, 122), (170, 170), (186, 186), (192, 214), (216, 246), (248, 255), (913, 929), (931, 937), (945, 969), (1040, 1103), (19968, 40959)]) 71).cell (flatR_get _ j hj).1, by rw [Nat.zero_add]; exact (Blk.new w (flatR [(65, 90), (97, 122), (170, 170), (186, 186), (192, 214), (216, 246), (248, 255), (913, 929), (931, 937), (945, 969), (1040, 1103), (19968, 40959)]) 71).cell (flatR_get _ j hj).2⟩
  have hs := ref03_set [(65, 90), (97, 122), (170, 170), (186, 186), (192, 214), (216, 246), (248, 255), (913, 929), (931, 937), (945, 969), (1040, 1103), (19968, 40959)] w.heap.size 12 _ hr (by simp) (by decide)
  have HS := Lib.hid hs; clear hs hr
  go_enter Tryz.func133, Tryz.ntmps133
  go_wp2_with fail
  refine (HS.out).mono ?_
  rintro e w1 ⟨v, rfl, h1, h2⟩
  have H1 := Lib.hid h1; have H2 := Lib.hid h2; clear h1 h2
  go_wp2_with fail
  go_ret2
  have hb := (Below.refl w.heap.size w).alloc (Nat.le_refl _) (.cells (flatR [(65, 90), (97, 122), (170, 170), (186, 186), (192, 214), (216, 246), (248, 255), (913, 929), (931, 937), (945, 969), (1040, 1103), (19968, 40959)]).toArray 71)
  refine ⟨v, by rw [HT.out]; rfl, ?_, hb.trans (H2.out.mono hb.size)⟩
  rw [HT.out]; exact Joins.ownsRow_le H1.out hb.size

set_option maxHeartbeats 1000000 in
set_option maxRecDepth 100000 in
theorem ref03_named_3 (w : World) : Calls Tryz.prog 133 #[.string ⟨#[78, 100]⟩] w (NamedR w [78, 100]) := by
  have ht : tabOf [78, 100] = some [(48, 57), (1632, 1641)] := by rfl
  have HT := Lib.hid ht; clear ht
  have hr : RangesAt (w.alloc (.cells (flatR [(48, 57), (1632, 1641)]).toArray 71)) [(48, 57), (1632, 1641)] w.heap.size 0 := RangesAt.of_cells _ 0 fun j hj => ⟨by rw [Nat.zero_add]; exact (Blk.new w (flatR [(48, 57), (1632, 1641)]) 71).cell (flatR_get _ j hj).1, by rw [Nat.zero_add]; exact (Blk.new w (flatR [(48, 57), (1632, 1641)]) 71).cell (flatR_get _ j hj).2⟩
  have hs := ref03_set [(48, 57), (1632, 1641)] w.heap.size 2 _ hr (by simp) (by decide)
  have HS := Lib.hid hs; clear hs hr
  go_enter Tryz.func133, Tryz.ntmps133
  go_wp2_with fail
  refine (HS.out).mono ?_
  rintro e w1 ⟨v, rfl, h1, h2⟩
  have H1 := Lib.hid h1; have H2 := Lib.hid h2; clear h1 h2
  go_wp2_with fail
  go_ret2
  have hb := (Below.refl w.heap.size w).alloc (Nat.le_refl _) (.cells (flatR [(48, 57), (1632, 1641)]).toArray 71)
  refine ⟨v, by rw [HT.out]; rfl, ?_, hb.trans (H2.out.mono hb.size)⟩
  rw [HT.out]; exact Joins.ownsRow_le H1.out hb.size

set_option maxHeartbeats 1000000 in
set_option maxRecDepth 100000 in
theorem ref03_named_4 (w : World) : Calls Tryz.prog 133 #[.string ⟨#[78]⟩] w (NamedR w [78]) := by
  have ht : tabOf [78] = some [(48, 57), (178, 179), (185, 185), (188, 190), (1632, 1641), (8544, 8584)] := by rfl
  have HT := Lib.hid ht; clear ht
  have hr : RangesAt (w.alloc (.cells (flatR [(48, 57), (178, 179), (185, 185), (188, 190), (1632, 1641), (8544, 8584)]).toArray 71)) [(48, 57), (178, 179), (185, 185), (188, 190), (1632, 1641), (8544, 8584)] w.heap.size 0 := RangesAt.of_cells _ 0 fun j hj => ⟨by rw [Nat.zero_add]; exact (Blk.new w (flatR [(48, 57), (178, 179), (185, 185), (188, 190), (1632, 1641), (8544, 8584)]) 71).cell (flatR_get _ j hj).1, by rw [Nat.zero_add]; exact (Blk.new w (flatR [(48, 57), (178, 179), (185, 185), (188, 190), (1632, 1641), (8544, 8584)]) 71).cell (flatR_get _ j hj).2⟩
  have hs := ref03_set [(48, 57), (178, 179), (185, 185), (188, 190), (1632, 1641), (8544, 8584)] w.heap.size 6 _ hr (by simp) (by decide)
  have HS := Lib.hid hs; clear hs hr
  go_enter Tryz.func133, Tryz.ntmps133
  go_wp2_with fail
  refine (HS.out).mono ?_
  rintro e w1 ⟨v, rfl, h1, h2⟩
  have H1 := Lib.hid h1; have H2 := Lib.hid h2; clear h1 h2
  go_wp2_with fail
  go_ret2
  have hb := (Below.refl w.heap.size w).alloc (Nat.le_refl _) (.cells (flatR [(48, 57), (178, 179), (185, 185), (188, 190), (1632, 1641), (8544, 8584)]).toArray 71)
  refine ⟨v, by rw [HT.out]; rfl, ?_, hb.trans (H2.out.mono hb.size)⟩
  rw [HT.out]; exact Joins.ownsRow_le H1.out hb.size

set_option maxHeartbeats 1000000 in
set_option maxRecDepth 100000 in
theorem ref03_named_5 (w : World) : Calls Tryz.prog 133 #[.string ⟨#[80]⟩] w (NamedR w [80]) := by
  have ht : tabOf [80] = some [(33, 35), (37, 42), (44, 47), (58, 59), (63, 64), (91, 93), (95, 95), (123, 123), (125, 125), (161, 161), (167, 167), (171, 171), (182, 183), (187, 187), (191, 191)] := by rfl
  have HT := Lib.hid ht; clear ht
  have hr : RangesAt (w.alloc (.cells (flatR [(33, 35), (37, 42), (44, 47), (58, 59), (63, 64), (91, 93), (95, 95), (123, 123), (125, 125), (161, 161), (167, 167), (171, 171), (182, 183), (187, 187), (191, 191)]).toArray 71)) [(33, 35), (37, 42), (44, 47), (58, 59), (63, 64), (91, 93), (95, 95), (123, 123), (125, 125), (161, 161), (167, 167), (171, 171), (182, 183), (187, 187), (191, 191)] w.heap.size 0 := RangesAt.of_cells _ 0 fun j hj => ⟨by rw [Nat.zero_add]; exact (Blk.new w (flatR [(33, 35), (37, 42), (44, 47), (58, 59), (63, 64), (91, 93), (95, 95), (123, 123), (125, 125), (161, 161), (167, 167), (171, 171), (182, 183), (187, 187), (191, 191)]) 71).cell (flatR_get _ j hj).1, by rw [Nat.zero_add]; exact (Blk.new w (flatR [(33, 35), (37, 42), (44, 47), (58, 59), (63, 64), (91, 93), (95, 95), (123, 123), (125, 125), (161, 161), (167, 167), (171, 171), (182, 183), (187, 187), (191, 191)]) 71).cell (flatR_get _ j hj).2⟩
  have hs := ref03_set [(33, 35), (37, 42), (44, 47), (58, 59), (63, 64), (91, 93), (95, 95), (123, 123), (125, 125), (161, 161), (167, 167), (171, 171), (182, 183), (187, 187), (191, 191)] w.heap.size 15 _ hr (by simp) (by decide)
  have HS := Lib.hid hs; clear hs hr
  go_enter Tryz.func133, Tryz.ntmps133
  go_wp2_with fail
  refine (HS.out).mono ?_
  rintro e w1 ⟨v, rfl, h1, h2⟩
  have H1 := Lib.hid h1; have H2 := Lib.hid h2; clear h1 h2
  go_wp2_with fail
  go_ret2
  have hb := (Below.refl w.heap.size w).alloc (Nat.le_refl _) (.cells (flatR [(33, 35), (37, 42), (44, 47), (58, 59), (63, 64), (91, 93), (95, 95), (123, 123), (125, 125), (161, 161), (167, 167), (171, 171), (182, 183), (187, 187), (191, 191)]).toArray 71)
  refine ⟨v, by rw [HT.out]; rfl, ?_, hb.trans (H2.out.mono hb.size)⟩
  rw [HT.out]; exact Joins.ownsRow_le H1.out hb.size

set_option maxHeartbeats 1000000 in
set_option maxRecDepth 100000 in
theorem ref03_named_6 (w : World) : Calls Tryz.prog 133 #[.string ⟨#[83]⟩] w (NamedR w [83]) := by
  have ht : tabOf [83] = some [(36, 36), (43, 43), (60, 62), (94, 94), (96, 96), (124, 124), (126, 126), (162, 166), (168, 169), (172, 172), (174, 177), (180, 180), (184, 184), (215, 215), (247, 247)] := by rfl
  have HT := Lib.hid ht; clear ht
  have hr : RangesAt (w.alloc (.cells (flatR [(36, 36), (43, 43), (60, 62), (94, 94), (96, 96), (124, 124), (126, 126), (162, 166), (168, 169), (172, 172), (174, 177), (180, 180), (184, 184), (215, 215), (247, 247)]).toArray 71)) [(36, 36), (43, 43), (60, 62), (94, 94), (96, 96), (124, 124), (126, 126), (162, 166), (168, 169), (172, 172), (174, 177), (180, 180), (184, 184), (215, 215), (247, 247)] w.heap.size 0 := RangesAt.of_cells _ 0 fun j hj => ⟨by rw [Nat.zero_add]; exact (Blk.new w (flatR [(36, 36), (43, 43), (60, 62), (94, 94), (96, 96), (124, 124), (126, 126), (162, 166), (168, 169), (172, 172), (174, 177), (180, 180), (184, 184), (215, 215), (247, 247)]) 71).cell (flatR_get _ j hj).1, by rw [Nat.zero_add]; exact (Blk.new w (flatR [(36, 36), (43, 43), (60, 62), (94, 94), (96, 96), (124, 124), (126, 126), (162, 166), (168, 169), (172, 172), (174, 177), (180, 180), (184, 184), (215, 215), (247, 247)]) 71).cell (flatR_get _ j hj).2⟩
  have hs := ref03_set [(36, 36), (43, 43), (60, 62), (94, 94), (96, 96), (124, 124), (126, 126), (162, 166), (168, 169), (172, 172), (174, 177), (180, 180), (184, 184), (215, 215), (247, 247)] w.heap.size 15 _ hr (by simp) (by decide)
  have HS := Lib.hid hs; clear hs hr
  go_enter Tryz.func133, Tryz.ntmps133
  go_wp2_with fail
  refine (HS.out).mono ?_
  rintro e w1 ⟨v, rfl, h1, h2⟩
  have H1 := Lib.hid h1; have H2 := Lib.hid h2; clear h1 h2
  go_wp2_with fail
  go_ret2
  have hb := (Below.refl w.heap.size w).alloc (Nat.le_refl _) (.cells (flatR [(36, 36), (43, 43), (60, 62), (94, 94), (96, 96), (124, 124), (126, 126), (162, 166), (168, 169), (172, 172), (174, 177), (180, 180), (184, 184), (215, 215), (247, 247)]).toArray 71)
  refine ⟨v, by rw [HT.out]; rfl, ?_, hb.trans (H2.out.mono hb.size)⟩
  rw [HT.out]; exact Joins.ownsRow_le H1.out hb.size

set_option maxHeartbeats 1000000 in
set_option maxRecDepth 100000 in
theorem ref03_named_7 (w : World) : Calls Tryz.prog 133 #[.string ⟨#[90]⟩] w (NamedR w [90]) := by
  have ht : tabOf [90] = some [(32, 32), (160, 160), (8192, 8202), (8232, 8233), (8239, 8239), (12288, 12288)] := by rfl
  have HT := Lib.hid ht; clear ht
  have hr : RangesAt (w.alloc (.cells (flatR [(32, 32), (160, 160), (8192, 8202), (8232, 8233), (8239, 8239), (12288, 12288)]).toArray 71)) [(32, 32), (160, 160), (8192, 8202), (8232, 8233), (8239, 8239), (12288, 12288)] w.heap.size 0 := RangesAt.of_cells _ 0 fun j hj => ⟨by rw [Nat.zero_add]; exact (Blk.new w (flatR [(32, 32), (160, 160), (8192, 8202), (8232, 8233), (8239, 8239), (12288, 12288)]) 71).cell (flatR_get _ j hj).1, by rw [Nat.zero_add]; exact (Blk.new w (flatR [(32, 32), (160, 160), (8192, 8202), (8232, 8233), (8239, 8239), (12288, 12288)]) 71).cell (flatR_get _ j hj).2⟩
  have hs := ref03_set [(32, 32), (160, 160), (8192, 8202), (8232, 8233), (8239, 8239), (12288, 12288)] w.heap.size 6 _ hr (by simp) (by decide)
  have HS := Lib.hid hs; clear hs hr
  go_enter Tryz.func133, Tryz.ntmps133
  go_wp2_with fail
  refine (HS.out).mono ?_
  rintro e w1 ⟨v, rfl, h1, h2⟩
  have H1 := Lib.hid h1; have H2 := Lib.hid h2; clear h1 h2
  go_wp2_with fail
  go_ret2
  have hb := (Below.refl w.heap.size w).alloc (Nat.le_refl _) (.cells (flatR [(32, 32), (160, 160), (8192, 8202), (8232, 8233), (8239, 8239), (12288, 12288)]).toArray 71)
  refine ⟨v, by rw [HT.out]; rfl, ?_, hb.trans (H2.out.mono hb.size)⟩
  rw [HT.out]; exact Joins.ownsRow_le H1.out hb.size

set_option maxHeartbeats 1000000 in
set_option maxRecDepth 100000 in
theorem ref03_named_8 (w : World) : Calls Tryz.prog 133 #[.string ⟨#[67, 99]⟩] w (NamedR w [67, 99]) := by
  have ht : tabOf [67, 99] = some [(0, 31), (127, 159)] := by rfl
  have HT := Lib.hid ht; clear ht
  have hr : RangesAt (w.alloc (.cells (flatR [(0, 31), (127, 159)]).toArray 71)) [(0, 31), (127, 159)] w.heap.size 0 := RangesAt.of_cells _ 0 fun j hj => ⟨by rw [Nat.zero_add]; exact (Blk.new w (flatR [(0, 31), (127, 159)]) 71).cell (flatR_get _ j hj).1, by rw [Nat.zero_add]; exact (Blk.new w (flatR [(0, 31), (127, 159)]) 71).cell (flatR_get _ j hj).2⟩
  have hs := ref03_set [(0, 31), (127, 159)] w.heap.size 2 _ hr (by simp) (by decide)
  have HS := Lib.hid hs; clear hs hr
  go_enter Tryz.func133, Tryz.ntmps133
  go_wp2_with fail
  refine (HS.out).mono ?_
  rintro e w1 ⟨v, rfl, h1, h2⟩
  have H1 := Lib.hid h1; have H2 := Lib.hid h2; clear h1 h2
  go_wp2_with fail
  go_ret2
  have hb := (Below.refl w.heap.size w).alloc (Nat.le_refl _) (.cells (flatR [(0, 31), (127, 159)]).toArray 71)
  refine ⟨v, by rw [HT.out]; rfl, ?_, hb.trans (H2.out.mono hb.size)⟩
  rw [HT.out]; exact Joins.ownsRow_le H1.out hb.size

set_option maxHeartbeats 1000000 in
set_option maxRecDepth 100000 in
theorem ref03_named_9 (w : World) : Calls Tryz.prog 133 #[.string ⟨#[76, 97, 116, 105, 110]⟩] w (NamedR w [76, 97, 116, 105, 110]) := by
  have ht : tabOf [76, 97, 116, 105, 110] = some [(65, 90), (97, 122), (170, 170), (186, 186), (192, 214), (216, 246), (248, 591), (8490, 8491)] := by rfl
  have HT := Lib.hid ht; clear ht
  have hr : RangesAt (w.alloc (.cells (flatR [(65, 90), (97, 122), (170, 170), (186, 186), (192, 214), (216, 246), (248, 591), (8490, 8491)]).toArray 71)) [(65, 90), (97, 122), (170, 170), (186, 186), (192, 214), (216, 246), (248, 591), (8490, 8491)] w.heap.size 0 := RangesAt.of_cells _ 0 fun j hj => ⟨by rw [Nat.zero_add]; exact (Blk.new w (flatR [(65, 90), (97, 122), (170, 170), (186, 186), (192, 214), (216, 246), (248, 591), (8490, 8491)]) 71).cell (flatR_get _ j hj).1, by rw [Nat.zero_add]; exact (Blk.new w (flatR [(65, 90), (97, 122), (170, 170), (186, 186), (192, 214), (216, 246), (248, 591), (8490, 8491)]) 71).cell (flatR_get _ j hj).2⟩
  have hs := ref03_set [(65, 90), (97, 122), (170, 170), (186, 186), (192, 214), (216, 246), (248, 591), (8490, 8491)] w.heap.size 8 _ hr (by simp) (by decide)
  have HS := Lib.hid hs; clear hs hr
  go_enter Tryz.func133, Tryz.ntmps133
  go_wp2_with fail
  refine (HS.out).mono ?_
  rintro e w1 ⟨v, rfl, h1, h2⟩
  have H1 := Lib.hid h1; have H2 := Lib.hid h2; clear h1 h2
  go_wp2_with fail
  go_ret2
  have hb := (Below.refl w.heap.size w).alloc (Nat.le_refl _) (.cells (flatR [(65, 90), (97, 122), (170, 170), (186, 186), (192, 214), (216, 246), (248, 591), (8490, 8491)]).toArray 71)
  refine ⟨v, by rw [HT.out]; rfl, ?_, hb.trans (H2.out.mono hb.size)⟩
  rw [HT.out]; exact Joins.ownsRow_le H1.out hb.size

set_option maxHeartbeats 1000000 in
set_option maxRecDepth 100000 in
theorem ref03_named_10 (w : World) : Calls Tryz.prog 133 #[.string ⟨#[71, 114, 101, 101, 107]⟩] w (NamedR w [71, 114, 101, 101, 107]) := by
  have ht : tabOf [71, 114, 101, 101, 107] = some [(880, 883), (885, 887), (890, 893), (895, 895), (900, 900), (902, 902), (904, 906), (908, 908), (910, 929), (931, 993)] := by rfl
  have HT := Lib.hid ht; clear ht
  have hr : RangesAt (w.alloc (.cells (flatR [(880, 883), (885, 887), (890, 893), (895, 895), (900, 900), (902, 902), (904, 906), (908, 908), (910, 929), (931, 993)]).toArray 71)) [(880, 883), (885, 887), (890, 893), (895, 895), (900, 900), (902, 902), (904, 906), (908, 908), (910, 929), (931, 993)] w.heap.size 0 := RangesAt.of_cells _ 0 fun j hj => ⟨by rw [Nat.zero_add]; exact (Blk.new w (flatR [(880, 883), (885, 887), (890, 893), (895, 895), (900, 900), (902, 902), (904, 906), (908, 908), (910, 929), (931, 993)]) 71).cell (flatR_get _ j hj).1, by rw [Nat.zero_add]; exact (Blk.new w (flatR [(880, 883), (885, 887), (890, 893), (895, 895), (900, 900), (902, 902), (904, 906), (908, 908), (910, 929), (931, 993)]) 71).cell (flatR_get _ j hj).2⟩
  have hs := ref03_set [(880, 883), (885, 887), (890, 893), (895, 895), (900, 900), (902, 902), (904, 906), (908, 908), (910, 929), (931, 993)] w.heap.size 10 _ hr (by simp) (by decide)
  have HS := Lib.hid hs; clear hs hr
  go_enter Tryz.func133, Tryz.ntmps133
  go_wp2_with fail
  refine (HS.out).mono ?_
  rintro e w1 ⟨v, rfl, h1, h2⟩
  have H1 := Lib.hid h1; have H2 := Lib.hid h2; clear h1 h2
  go_wp2_with fail
  go_ret2
  have hb := (Below.refl w.heap.size w).alloc (Nat.le_refl _) (.cells (flatR [(880, 883), (885, 887), (890, 893), (895, 895), (900, 900), (902, 902), (904, 906), (908, 908), (910, 929), (931, 993)]).toArray 71)
  refine ⟨v, by rw [HT.out]; rfl, ?_, hb.trans (H2.out.mono hb.size)⟩
  rw [HT.out]; exact Joins.ownsRow_le H1.out hb.size

set_option maxHeartbeats 1000000 in
set_option maxRecDepth 100000 in
theorem ref03_named_11 (w : World) : Calls Tryz.prog 133 #[.string ⟨#[67, 121, 114, 105, 108, 108, 105, 99]⟩] w (NamedR w [67, 121, 114, 105, 108, 108, 105, 99]) := by
  have ht : tabOf [67, 121, 114, 105, 108, 108, 105, 99] = some [(1024, 1156), (1159, 1327)] := by rfl
  have HT := Lib.hid ht; clear ht
  have hr : RangesAt (w.alloc (.cells (flatR [(1024, 1156), (1159, 1327)]).toArray 71)) [(1024, 1156), (1159, 1327)] w.heap.size 0 := RangesAt.of_cells _ 0 fun j hj => ⟨by rw [Nat.zero_add]; exact (Blk.new w (flatR [(1024, 1156), (1159, 1327)]) 71).cell (flatR_get _ j hj).1, by rw [Nat.zero_add]; exact (Blk.new w (flatR [(1024, 1156), (1159, 1327)]) 71).cell (flatR_get _ j hj).2⟩
  have hs := ref03_set [(1024, 1156), (1159, 1327)] w.heap.size 2 _ hr (by simp) (by decide)
  have HS := Lib.hid hs; clear hs hr
  go_enter Tryz.func133, Tryz.ntmps133
  go_wp2_with fail
  refine (HS.out).mono ?_
  rintro e w1 ⟨v, rfl, h1, h2⟩
  have H1 := Lib.hid h1; have H2 := Lib.hid h2; clear h1 h2
  go_wp2_with fail
  go_ret2
  have hb := (Below.refl w.heap.size w).alloc (Nat.le_refl _) (.cells (flatR [(1024, 1156), (1159, 1327)]).toArray 71)
  refine ⟨v, by rw [HT.out]; rfl, ?_, hb.trans (H2.out.mono hb.size)⟩
  rw [HT.out]; exact Joins.ownsRow_le H1.out hb.size

set_option maxHeartbeats 1000000 in
set_option maxRecDepth 100000 in
theorem ref03_named_12 (w : World) : Calls Tryz.prog 133 #[.string ⟨#[72, 97, 110]⟩] w (NamedR w [72, 97, 110]) := by
  have ht : tabOf [72, 97, 110] = some [(19968, 40959)] := by rfl
  have HT := Lib.hid ht; clear ht
  have hr : RangesAt (w.alloc (.cells (flatR [(19968, 40959)]).toArray 71)) [(19968, 40959)] w.heap.size 0 := RangesAt.of_cells _ 0 fun j hj => ⟨by rw [Nat.zero_add]; exact (Blk.new w (flatR [(19968, 40959)]) 71).cell (flatR_get _ j hj).1, by rw [Nat.zero_add]; exact (Blk.new w (flatR [(19968, 40959)]) 71).cell (flatR_get _ j hj).2⟩
  have hs := ref03_set [(19968, 40959)] w.heap.size 1 _ hr (by simp) (by decide)
  have HS := Lib.hid hs; clear hs hr
  go_enter Tryz.func133, Tryz.ntmps133
  go_wp2_with fail
  refine (HS.out).mono ?_
  rintro e w1 ⟨v, rfl, h1, h2⟩
  have H1 := Lib.hid h1; have H2 := Lib.hid h2; clear h1 h2
  go_wp2_with fail
  go_ret2
  have hb := (Below.refl w.heap.size w).alloc (Nat.le_refl _) (.cells (flatR [(19968, 40959)]).toArray 71)
  refine ⟨v, by rw [HT.out]; rfl, ?_, hb.trans (H2.out.mono hb.size)⟩
  rw [HT.out]; exact Joins.ownsRow_le H1.out hb.size

set_option maxHeartbeats 1000000 in
set_option maxRecDepth 100000 in
theorem ref03_named_none (s : ByteArray) (w : World) (h : tabOf s.toList = none) : Calls Tryz.prog 133 #[.string s] w (NamedR w s.toList) := by
  have n0 : (s.toList == [76, 117]) = false := tabOf_none h ([76, 117], [(65, 90), (192, 214), (216, 222), (913, 929), (931, 937), (1040, 1071)]) (by decide)
  have n1 : (s.toList == [76, 108]) = false := tabOf_none h ([76, 108], [(97, 122), (223, 246), (248, 255), (945, 969), (1072, 1103)]) (by decide)
  have n2 : (s.toList == [76]) = false := tabOf_none h ([76], [(65, 90), (97, 122), (170, 170), (186, 186), (192, 214), (216, 246), (248, 255), (913, 929), (931, 937), (945, 969), (1040, 1103), (19968, 40959)]) (by decide)
  have n3 : (s.toList == [78, 100]) = false := tabOf_none h ([78, 100], [(48, 57), (1632, 1641)]) (by decide)
  have n4 : (s.toList == [78]) = false := tabOf_none h ([78], [(48, 57), (178, 179), (185, 185), (188, 190), (1632, 1641), (8544, 8584)]) (by decide)
  have n5 : (s.toList == [80]) = false := tabOf_none h ([80], [(33, 35), (37, 42), (44, 47), (58, 59), (63, 64), (91, 93), (95, 95), (123, 123), (125, 125), (161, 161), (167, 167), (171, 171), (182, 183), (187, 187), (191, 191)]) (by decide)
  have n6 : (s.toList == [83]) = false := tabOf_none h ([83], [(36, 36), (43, 43), (60, 62), (94, 94), (96, 96), (124, 124), (126, 126), (162, 166), (168, 169), (172, 172), (174, 177), (180, 180), (184, 184), (215, 215), (247, 247)]) (by decide)
  have n7 : (s.toList == [90]) = false := tabOf_none h ([90], [(32, 32), (160, 160), (8192, 8202), (8232, 8233), (8239, 8239), (12288, 12288)]) (by decide)
  have n8 : (s.toList == [67, 99]) = false := tabOf_none h ([67, 99], [(0, 31), (127, 159)]) (by decide)
  have n9 : (s.toList == [76, 97, 116, 105, 110]) = false := tabOf_none h ([76, 97, 116, 105, 110], [(65, 90), (97, 122), (170, 170), (186, 186), (192, 214), (216, 246), (248, 591), (8490, 8491)]) (by decide)
  have n10 : (s.toList == [71, 114, 101, 101, 107]) = false := tabOf_none h ([71, 114, 101, 101, 107], [(880, 883), (885, 887), (890, 893), (895, 895), (900, 900), (902, 902), (904, 906), (908, 908), (910, 929), (931, 993)]) (by decide)
  have n11 : (s.toList == [67, 121, 114, 105, 108, 108, 105, 99]) = false := tabOf_none h ([67, 121, 114, 105, 108, 108, 105, 99], [(1024, 1156), (1159, 1327)]) (by decide)
  have n12 : (s.toList == [72, 97, 110]) = false := tabOf_none h ([72, 97, 110], [(19968, 40959)]) (by decide)
  have HT := Lib.hid h; clear h
  go_enter Tryz.func133, Tryz.ntmps133
  go_wp2_with fail
  go_ret2
  exact ⟨_, by rw [HT.out]; rfl, by rw [HT.out]; exact World.ownsRow_nil _ _ _ _, Below.refl _ _⟩

theorem ref03_named (s : ByteArray) (w : World) : Calls Tryz.prog 133 #[.string s] w (NamedR w s.toList) := by
  cases h : tabOf s.toList with
  | none => exact ref03_named_none s w h
  | some l =>
    have hm := tabOf_some h
    simp only [tabs, List.mem_cons, List.not_mem_nil, or_false, Prod.mk.injEq] at hm
    rcases hm with ⟨h1, _⟩ | ⟨h1, _⟩ | ⟨h1, _⟩ | ⟨h1, _⟩ | ⟨h1, _⟩ | ⟨h1, _⟩ | ⟨h1, _⟩ | ⟨h1, _⟩ | ⟨h1, _⟩ | ⟨h1, _⟩ | ⟨h1, _⟩ | ⟨h1, _⟩ | ⟨h1, _⟩
    · rw [h1]; obtain rfl : s = ⟨#[76, 117]⟩ := bytes_of h1
      exact ref03_named_0 w
    · rw [h1]; obtain rfl : s = ⟨#[76, 108]⟩ := bytes_of h1
      exact ref03_named_1 w
    · rw [h1]; obtain rfl : s = ⟨#[76]⟩ := bytes_of h1
      exact ref03_named_2 w
    · rw [h1]; obtain rfl : s = ⟨#[78, 100]⟩ := bytes_of h1
      exact ref03_named_3 w
    · rw [h1]; obtain rfl : s = ⟨#[78]⟩ := bytes_of h1
      exact ref03_named_4 w
    · rw [h1]; obtain rfl : s = ⟨#[80]⟩ := bytes_of h1
      exact ref03_named_5 w
    · rw [h1]; obtain rfl : s = ⟨#[83]⟩ := bytes_of h1
      exact ref03_named_6 w
    · rw [h1]; obtain rfl : s = ⟨#[90]⟩ := bytes_of h1
      exact ref03_named_7 w
    · rw [h1]; obtain rfl : s = ⟨#[67, 99]⟩ := bytes_of h1
      exact ref03_named_8 w
    · rw [h1]; obtain rfl : s = ⟨#[76, 97, 116, 105, 110]⟩ := bytes_of h1
      exact ref03_named_9 w
    · rw [h1]; obtain rfl : s = ⟨#[71, 114, 101, 101, 107]⟩ := bytes_of h1
      exact ref03_named_10 w
    · rw [h1]; obtain rfl : s = ⟨#[67, 121, 114, 105, 108, 108, 105, 99]⟩ := bytes_of h1
      exact ref03_named_11 w
    · rw [h1]; obtain rfl : s = ⟨#[72, 97, 110]⟩ := bytes_of h1
      exact ref03_named_12 w

end Go.Proofs.YtnafemcholkmlaaGreatDoor
