/- The small readers of layer 6: what is left, what is next. The small readers of layer 6, on: runs of bytes of a kind; numbers. -/
import Derived.Test.YtnafemcholkmlaaGreatDoorQBlk
import Derived.Test.YtnafemcholkmlaaGreatDoorShelf
import Derived.WalkKit
import Derived.Lib.Hide
import Derived.WalkSpells
import Derived.WalkLawsBesides
import Derived.Deep.QuietTactic
import Derived.BigQuiet
import Derived.Shelf.Strings.SlTrimAscii
namespace Go.Proofs.YtnafemcholkmlaaGreatDoor
open Go Go.RowKit Go.Proofs

/-- A reader: its text, its place, whatever lies behind them in its block. -/
def Rd (w : World) (b : Nat) (s : ByteArray) (p : Nat) (rest : List Value) (t : TypeId) : Prop := Blk w b (.string s :: .int .i64 (p : Int) :: rest) t

theorem Rd.c0 {w : World} {b : Nat} {s : ByteArray} {p : Nat} {rest : List Value} {t : TypeId} (h : Rd w b s p rest t) : w.cell? ⟨b, 0, none⟩ = some (.string s) := Blk.cell h rfl
theorem Rd.c1 {w : World} {b : Nat} {s : ByteArray} {p : Nat} {rest : List Value} {t : TypeId} (h : Rd w b s p rest t) : w.cell? ⟨b, 1, none⟩ = some (.int .i64 p) := Blk.cell h rfl
theorem Rd.f1 {w : World} {b : Nat} {s : ByteArray} {p : Nat} {rest : List Value} {t : TypeId} (h : Rd w b s p rest t) : w.frozen? ⟨b, 1, none⟩ = false := Blk.frozen h 1
theorem Rd.move {w : World} {b : Nat} {s : ByteArray} {p : Nat} {rest : List Value} {t : TypeId} (h : Rd w b s p rest t) (q : Nat) : Rd (w.setCell ⟨b, 1, none⟩ (.int .i64 (q : Int))) b s q rest t := Blk.set h 1 _
theorem Rd.lt {w : World} {b : Nat} {s : ByteArray} {p : Nat} {rest : List Value} {t : TypeId} (h : Rd w b s p rest t) : b < w.heap.size := Blk.lt h
theorem Rd.below {B : Nat} {w w' : World} {b : Nat} {s : ByteArray} {p : Nat} {rest : List Value} {t : TypeId} (h : Rd w b s p rest t) (hb : Below B w w') (hlt : b < B) : Rd w' b s p rest t := Blk.below h hb hlt

/-- What is left of a text from a place on. -/
def tail (s : ByteArray) (p : Nat) : ByteArray := s.extract p s.size
theorem tail_toList (s : ByteArray) (p : Nat) : (tail s p).data.toList = s.data.toList.drop p := by
  unfold tail
  rw [Lib.extract_data, List.take_of_length_le (by simp)]
theorem tail_size (s : ByteArray) (p : Nat) : (tail s p).size = s.size - p := by
  unfold tail; simp

set_option maxHeartbeats 400000 in
theorem scan_rest_q (b : Nat) (s : ByteArray) (p : Nat) (rest : List Value) (t : TypeId) (w : World) (h : Rd w b s p rest t) (hp : p ≤ s.size) :
    Calls Tryz.prog 106 #[.pointer (some ⟨b, 0, none⟩)] w fun e w' => e = .returned (.string (tail s p)) ∧ ∃ n, w' = w.drewN n := by
  have h0 := h.c0
  have h1 := h.c1
  clear h
  have hq : (p : Int) ≤ (s.size : Int) := by omega
  go_enter Tryz.func106, Tryz.ntmps106
  go_wp2_with fail
  go_quiet (fail)
  go_wp2_with fail
  go_ret
  exact ⟨rfl, _, rfl⟩

theorem scan_rest (b : Nat) (s : ByteArray) (p : Nat) (rest : List Value) (t : TypeId) (w : World) (h : Rd w b s p rest t) (hp : p ≤ s.size) :
    Calls Tryz.prog 106 #[.pointer (some ⟨b, 0, none⟩)] w fun e w' => e = .returned (.string (tail s p)) ∧ Rd w' b s p rest t ∧ Below w.heap.size w w' :=
  (scan_rest_q b s p rest t w h hp).mono fun _ _ ⟨he, n, hw⟩ => ⟨he, by rw [hw]; exact Blk.drewN h n, by rw [hw]; exact below_drewN (Below.refl _ _) n⟩

theorem hasPrefix_le {l p : List UInt8} (h : Lib.hasPrefix l p = true) : p.length ≤ l.length := by
  unfold Lib.hasPrefix at h
  exact (List.isPrefixOf_iff_prefix.1 h).length_le

/-- Does a text stand at a place? -/
def stands (s : ByteArray) (i : Nat) (p : List UInt8) : Bool := Lib.hasPrefix (s.data.toList.drop i) p
theorem stands_le {s : ByteArray} {i : Nat} {p : ByteArray} (hi : i ≤ s.size) (h : stands s i p.data.toList = true) : i + p.size ≤ s.size := by
  have := hasPrefix_le h
  have e1 : s.data.toList.length = s.size := by simp
  have e2 : p.data.toList.length = p.size := by simp
  rw [List.length_drop, e1, e2] at this
  omega

set_option maxHeartbeats 400000 in
theorem scan_has_yes (b : Nat) (s p : ByteArray) (i : Nat) (rest : List Value) (t : TypeId) (w : World) (h : Rd w b s i rest t) (hi : i ≤ s.size) (hs : s.size ≤ 1000000000000000)
    (hy : stands s i p.data.toList = true) :
    Calls Tryz.prog 75 #[.pointer (some ⟨b, 0, none⟩), .string p] w fun e w' => e = .returned (.bool true) ∧ Rd w' b s (i + p.size) rest t ∧ w.grownBy w' (some b) := by
  have hp := stands_le hi hy
  have HY := Lib.hid hy; clear hy
  have HR := Lib.hid h; clear h
  go_enter Tryz.func75, Tryz.ntmps75
  go_wp2_with fail
  refine (scan_rest b s i rest t _ HR.out hi).mono ?_
  rintro e w1 ⟨rfl, hR, hB⟩
  have HR1 := Lib.hid hR; clear hR
  have HB := Lib.hid hB; clear hB
  go_wp2_with fail
  refine (Tryz.strings_HasPrefix _ _ _).mono ?_
  rintro e w1 ⟨rfl, rfl⟩
  rw [tail_toList, show Lib.hasPrefix (List.drop i s.data.toList) p.data.toList = true from HY.out]
  have h1 := HR1.out.c1
  have f1 := HR1.out.f1
  go_wp2_with fail
  go_ret
  refine ⟨rfl, ?_, grownBy_trans (grownBy_below HB.out _) (grownBy_setCell _ _ _ _)⟩
  rw [← Int.natCast_add]
  exact Rd.move HR1.out _

set_option maxHeartbeats 400000 in
theorem scan_has_no (b : Nat) (s p : ByteArray) (i : Nat) (rest : List Value) (t : TypeId) (w : World) (h : Rd w b s i rest t) (hi : i ≤ s.size)
    (hy : stands s i p.data.toList = false) :
    Calls Tryz.prog 75 #[.pointer (some ⟨b, 0, none⟩), .string p] w fun e w' => e = .returned (.bool false) ∧ Rd w' b s i rest t ∧ w.grownBy w' (some b) := by
  have HY := Lib.hid hy; clear hy
  have HR := Lib.hid h; clear h
  go_enter Tryz.func75, Tryz.ntmps75
  go_wp2_with fail
  refine (scan_rest b s i rest t _ HR.out hi).mono ?_
  rintro e w1 ⟨rfl, hR, hB⟩
  have HR1 := Lib.hid hR; clear hR
  have HB := Lib.hid hB; clear hB
  go_wp2_with fail
  refine (Tryz.strings_HasPrefix _ _ _).mono ?_
  rintro e w1 ⟨rfl, rfl⟩
  rw [tail_toList, show Lib.hasPrefix (List.drop i s.data.toList) p.data.toList = false from HY.out]
  go_wp2_with fail
  go_ret
  exact ⟨rfl, HR1.out, grownBy_below HB.out _⟩
end Go.Proofs.YtnafemcholkmlaaGreatDoor

namespace Go.Proofs.YtnafemcholkmlaaGreatDoor
open Go Go.RowKit Go.Proofs

/-- As many bytes of a kind as stand at a place. -/
def runP (s : ByteArray) (p : Nat) (cs : List UInt8) : List UInt8 := (s.data.toList.drop p).takeWhile (cs.contains ·)
theorem runP_le (s : ByteArray) (p : Nat) (cs : List UInt8) : (runP s p cs).length ≤ s.size - p := by
  unfold runP
  have := (List.takeWhile_prefix (l := s.data.toList.drop p) (fun x => cs.contains x)).length_le
  simpa using this

theorem run_split (s : ByteArray) (p : Nat) (cs : List UInt8) : (runP s p cs).length + (Lib.trimLeftS (tail s p).data.toList cs).length = (tail s p).size := by
  have h := congrArg List.length (List.takeWhile_append_dropWhile (p := fun x => cs.contains x) (l := s.data.toList.drop p))
  rw [List.length_append] at h
  unfold runP Lib.trimLeftS
  rw [tail_toList, tail_size, h]
  simp
theorem run_head (s : ByteArray) (p : Nat) (cs : List UInt8) : (tail s p).extract 0 (runP s p cs).length = ⟨(runP s p cs).toArray⟩ := by
  apply ByteArray.ext
  apply Array.toList_inj.1
  rw [Lib.extract_data, tail_toList]
  have h := (List.takeWhile_append_dropWhile (p := fun x => cs.contains x) (l := s.data.toList.drop p))
  have h2 : (s.data.toList.drop p).take (runP s p cs).length = runP s p cs := by
    conv => lhs; arg 2; rw [← h]
    exact List.take_left
  simpa using h2

set_option maxHeartbeats 400000 in
theorem scan_run (b : Nat) (s cs : ByteArray) (p : Nat) (rest : List Value) (t : TypeId) (w : World) (h : Rd w b s p rest t) (hp : p ≤ s.size) (hs : s.size ≤ 1000000000000000)
    (hcs : cs.size < 4294967281) (hascii : ∀ (j : Nat) (c : UInt8), cs.data.toList[j]? = some c → c.toNat < 128) :
    Calls Tryz.prog 108 #[.pointer (some ⟨b, 0, none⟩), .string cs] w fun e w' => e = .returned (.string ⟨(runP s p cs.data.toList).toArray⟩) ∧
      Rd w' b s (p + (runP s p cs.data.toList).length) rest t ∧ w.grownBy w' (some b) := by
  have HR := Lib.hid h; clear h
  have HA := Lib.hid hascii; clear hascii
  go_enter Tryz.func108, Tryz.ntmps108
  go_wp2_with fail
  refine (scan_rest b s p rest t _ HR.out hp).mono ?_
  rintro e w1 ⟨rfl, hR, hB⟩
  have HR1 := Lib.hid hR; clear hR
  have HB1 := Lib.hid hB; clear hB
  go_wp2_with fail
  refine (scan_rest b s p rest t _ HR1.out hp).mono ?_
  rintro e w2 ⟨rfl, hR, hB⟩
  have HR2 := Lib.hid hR; clear hR
  have HB2 := Lib.hid hB; clear hB
  go_wp2_with fail
  refine (scan_rest b s p rest t _ HR2.out hp).mono ?_
  rintro e w3 ⟨rfl, hR, hB⟩
  have HR3 := Lib.hid hR; clear hR
  have HB3 := Lib.hid hB; clear hB
  go_wp2_with fail
  refine (Any.strings_TrimLeft_laid Tryz.lays161 (by kernel_rfl) _ _ _ hcs HA.out).mono ?_
  rintro e w4 ⟨rfl, hB⟩
  have hR4 := Blk.below HR3.out hB HR3.out.lt
  have h1 := Rd.c1 hR4
  have f1 := Rd.f1 hR4
  have HR4 := Lib.hid hR4; clear hR4
  have HB4 := Lib.hid hB; clear hB
  have hsp := run_split s p cs.data.toList
  have hrh := run_head s p cs.data.toList
  have hl := runP_le s p cs.data.toList
  have hsz := tail_size s p
  generalize Lib.trimLeftS (tail s p).data.toList cs.data.toList = D at *
  have hd : D.length ≤ (tail s p).size := by omega
  have ht : (tail s p).size ≤ 1000000000000000 := by omega
  have hq : (tail s p).size - D.length = (runP s p cs.data.toList).length := by omega
  have HSP := Lib.hid hsp; clear hsp
  have HQ := Lib.hid hq; clear hq
  have HRH := Lib.hid hrh; clear hrh
  have HSZ := Lib.hid hsz; clear hsz
  go_wp2_with fail
  go_ret
  refine ⟨?_, ?_, grownBy_trans (grownBy_below (below_then (below_then (below_then HB1.out HB2.out) HB3.out) HB4.out) _) (grownBy_setCell _ _ _ _)⟩
  · show Ending.returned (.string ((tail s p).extract 0 ((tail s p).size - D.length))) = _
    rw [HQ.out, HRH.out]
  · rw [HQ.out, ← Int.natCast_add]
    exact Rd.move HR4.out _

/-- A number of digits, up to a bound. -/
def numP (base most : Int) : Int → List UInt8 → Int
  | n, [] => n
  | n, c :: l => numP base most (min (n * base + (if c.toNat > 57 then (c.toNat : Int) - 87 else (c.toNat : Int) - 48)) (most + 1)) l
end Go.Proofs.YtnafemcholkmlaaGreatDoor
