/- The small readers of layer 6: what is left, what is next. -/
import Derived.Test.YtjmgboegipeijaaGreatDoorBlk
import Derived.Test.YtjmgboegipeijaaGreatDoorShelf
import Derived.WalkKit
import Derived.Lib.Hide
import Derived.WalkSpells
import Derived.WalkLawsBesides
import Derived.Deep.QuietTactic
import Derived.BigQuiet
namespace Go.Proofs.YtjmgboegipeijaaGreatDoor
open Go Go.RowKit Go.Proofs

/-- A reader: its text, its place, whatever lies behind them in its block. -/
def Rd (w : World) (b : Nat) (s : ByteArray) (p : Nat) (rest : List Value) (t : TypeId) : Prop := Blk w b (.string s :: .int .i64 (p : Int) :: rest) t

theorem Rd.c0 {w : World} {b : Nat} {s : ByteArray} {p : Nat} {rest : List Value} {t : TypeId} (h : Rd w b s p rest t) : w.cell? ⟨b, 0, none⟩ = some (.string s) := Blk.cell h rfl
theorem Rd.c1 {w : World} {b : Nat} {s : ByteArray} {p : Nat} {rest : List Value} {t : TypeId} (h : Rd w b s p rest t) : w.cell? ⟨b, 1, none⟩ = some (.int .i64 p) := Blk.cell h rfl
theorem Rd.f1 {w : World} {b : Nat} {s : ByteArray} {p : Nat} {rest : List Value} {t : TypeId} (h : Rd w b s p rest t) : w.frozen? ⟨b, 1, none⟩ = false := Blk.frozen h 1
theorem Rd.move {w : World} {b : Nat} {s : ByteArray} {p : Nat} {rest : List Value} {t : TypeId} (h : Rd w b s p rest t) (q : Nat) : Rd (w.setCell ⟨b, 1, none⟩ (.int .i64 (q : Int))) b s q rest t := Blk.set h 1 _
theorem Rd.lt {w : World} {b : Nat} {s : ByteArray} {p : Nat} {rest : List Value} {t : TypeId} (h : Rd w b s p rest t) : b < w.heap.size := Blk.lt h
theorem Rd.below {B : Nat} {w w' : World} {b : Nat} {s : ByteArray} {p : Nat} {rest : List Value} {t : TypeId} (h : Rd w b s p rest t) (hb : Below B w w') (hlt : b < B) : Rd w' b s p rest t := Blk.below h hb hlt

/-- What is left of a text from a place on. -/
def tail (s : ByteArray) (p : Nat) : ByteArray := s.extract p s.size
theorem tail_toList (s : ByteArray) (p : Nat) : (tail s p).data.toList = s.data.toList.drop p := by
  unfold tail
  rw [Lib.extract_data, List.take_of_length_le (by simp)]
theorem tail_size (s : ByteArray) (p : Nat) : (tail s p).size = s.size - p := by
  unfold tail; simp

set_option maxHeartbeats 400000 in
theorem scan_rest_q (b : Nat) (s : ByteArray) (p : Nat) (rest : List Value) (t : TypeId) (w : World) (h : Rd w b s p rest t) (hp : p ≤ s.size) :
    Calls Tryz.prog 48 #[.pointer (some ⟨b, 0, none⟩)] w fun e w' => e = .returned (.string (tail s p)) ∧ ∃ n, w' = w.drewN n := by
  have h0 := h.c0
  have h1 := h.c1
  clear h
  have hq : (p : Int) ≤ (s.size : Int) := by omega
  go_enter Tryz.func48, Tryz.ntmps48
  go_wp2_with fail
  go_quiet (fail)
  go_wp2_with fail
  go_ret
  exact ⟨rfl, _, rfl⟩

theorem scan_rest (b : Nat) (s : ByteArray) (p : Nat) (rest : List Value) (t : TypeId) (w : World) (h : Rd w b s p rest t) (hp : p ≤ s.size) :
    Calls Tryz.prog 48 #[.pointer (some ⟨b, 0, none⟩)] w fun e w' => e = .returned (.string (tail s p)) ∧ Rd w' b s p rest t ∧ Below w.heap.size w w' :=
  (scan_rest_q b s p rest t w h hp).mono fun _ _ ⟨he, n, hw⟩ => ⟨he, by rw [hw]; exact Blk.drewN h n, by rw [hw]; exact below_drewN (Below.refl _ _) n⟩

theorem hasPrefix_le {l p : List UInt8} (h : Lib.hasPrefix l p = true) : p.length ≤ l.length := by
  unfold Lib.hasPrefix at h
  exact (List.isPrefixOf_iff_prefix.1 h).length_le

/-- Does a text stand at a place? -/
def stands (s : ByteArray) (i : Nat) (p : List UInt8) : Bool := Lib.hasPrefix (s.data.toList.drop i) p
theorem stands_le {s : ByteArray} {i : Nat} {p : ByteArray} (hi : i ≤ s.size) (h : stands s i p.data.toList = true) : i + p.size ≤ s.size := by
  have := hasPrefix_le h
  have e1 : s.data.toList.length = s.size := by simp
  have e2 : p.data.toList.length = p.size := by simp
  rw [List.length_drop, e1, e2] at this
  omega

set_option maxHeartbeats 400000 in
theorem scan_has_yes (b : Nat) (s p : ByteArray) (i : Nat) (rest : List Value) (t : TypeId) (w : World) (h : Rd w b s i rest t) (hi : i ≤ s.size) (hs : s.size ≤ 1000000000000000)
    (hy : stands s i p.data.toList = true) :
    Calls Tryz.prog 23 #[.pointer (some ⟨b, 0, none⟩), .string p] w fun e w' => e = .returned (.bool true) ∧ Rd w' b s (i + p.size) rest t ∧ w.grownBy w' (some b) := by
  have hp := stands_le hi hy
  have HY := Lib.hid hy; clear hy
  have HR := Lib.hid h; clear h
  go_enter Tryz.func23, Tryz.ntmps23
  go_wp2_with fail
  refine (scan_rest b s i rest t _ HR.out hi).mono ?_
  rintro e w1 ⟨rfl, hR, hB⟩
  have HR1 := Lib.hid hR; clear hR
  have HB := Lib.hid hB; clear hB
  go_wp2_with fail
  refine (Tryz.strings_HasPrefix _ _ _).mono ?_
  rintro e w1 ⟨rfl, rfl⟩
  rw [tail_toList, show Lib.hasPrefix (List.drop i s.data.toList) p.data.toList = true from HY.out]
  have h1 := HR1.out.c1
  have f1 := HR1.out.f1
  go_wp2_with fail
  go_ret
  refine ⟨rfl, ?_, grownBy_trans (grownBy_below HB.out _) (grownBy_setCell _ _ _ _)⟩
  rw [← Int.natCast_add]
  exact Rd.move HR1.out _

set_option maxHeartbeats 400000 in
theorem scan_has_no (b : Nat) (s p : ByteArray) (i : Nat) (rest : List Value) (t : TypeId) (w : World) (h : Rd w b s i rest t) (hi : i ≤ s.size)
    (hy : stands s i p.data.toList = false) :
    Calls Tryz.prog 23 #[.pointer (some ⟨b, 0, none⟩), .string p] w fun e w' => e = .returned (.bool false) ∧ Rd w' b s i rest t ∧ w.grownBy w' (some b) := by
  have HY := Lib.hid hy; clear hy
  have HR := Lib.hid h; clear h
  go_enter Tryz.func23, Tryz.ntmps23
  go_wp2_with fail
  refine (scan_rest b s i rest t _ HR.out hi).mono ?_
  rintro e w1 ⟨rfl, hR, hB⟩
  have HR1 := Lib.hid hR; clear hR
  have HB := Lib.hid hB; clear hB
  go_wp2_with fail
  refine (Tryz.strings_HasPrefix _ _ _).mono ?_
  rintro e w1 ⟨rfl, rfl⟩
  rw [tail_toList, show Lib.hasPrefix (List.drop i s.data.toList) p.data.toList = false from HY.out]
  go_wp2_with fail
  go_ret
  exact ⟨rfl, HR1.out, grownBy_below HB.out _⟩
end Go.Proofs.YtjmgboegipeijaaGreatDoor
