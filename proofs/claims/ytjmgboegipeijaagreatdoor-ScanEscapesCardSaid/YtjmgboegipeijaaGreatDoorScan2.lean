/- The small readers of layer 6, on: runs of bytes of a kind; numbers. -/
import Derived.Test.YtjmgboegipeijaaGreatDoorScan1
import Derived.Shelf.Strings.SlTrimAscii
namespace Go.Proofs.YtjmgboegipeijaaGreatDoor
open Go Go.RowKit Go.Proofs

/-- As many bytes of a kind as stand at a place. -/
def runP (s : ByteArray) (p : Nat) (cs : List UInt8) : List UInt8 := (s.data.toList.drop p).takeWhile (cs.contains ·)
theorem runP_le (s : ByteArray) (p : Nat) (cs : List UInt8) : (runP s p cs).length ≤ s.size - p := by
  unfold runP
  have := (List.takeWhile_prefix (l := s.data.toList.drop p) (fun x => cs.contains x)).length_le
  simpa using this

theorem run_split (s : ByteArray) (p : Nat) (cs : List UInt8) : (runP s p cs).length + (Lib.trimLeftS (tail s p).data.toList cs).length = (tail s p).size := by
  have h := congrArg List.length (List.takeWhile_append_dropWhile (p := fun x => cs.contains x) (l := s.data.toList.drop p))
  rw [List.length_append] at h
  unfold runP Lib.trimLeftS
  rw [tail_toList, tail_size, h]
  simp
theorem run_head (s : ByteArray) (p : Nat) (cs : List UInt8) : (tail s p).extract 0 (runP s p cs).length = ⟨(runP s p cs).toArray⟩ := by
  apply ByteArray.ext
  apply Array.toList_inj.1
  rw [Lib.extract_data, tail_toList]
  have h := (List.takeWhile_append_dropWhile (p := fun x => cs.contains x) (l := s.data.toList.drop p))
  have h2 : (s.data.toList.drop p).take (runP s p cs).length = runP s p cs := by
    conv => lhs; arg 2; rw [← h]
    exact List.take_left
  simpa using h2

set_option maxHeartbeats 400000 in
theorem scan_run (b : Nat) (s cs : ByteArray) (p : Nat) (rest : List Value) (t : TypeId) (w : World) (h : Rd w b s p rest t) (hp : p ≤ s.size) (hs : s.size ≤ 1000000000000000)
    (hcs : cs.size < 4294967281) (hascii : ∀ (j : Nat) (c : UInt8), cs.data.toList[j]? = some c → c.toNat < 128) :
    Calls Tryz.prog 37 #[.pointer (some ⟨b, 0, none⟩), .string cs] w fun e w' => e = .returned (.string ⟨(runP s p cs.data.toList).toArray⟩) ∧
      Rd w' b s (p + (runP s p cs.data.toList).length) rest t ∧ w.grownBy w' (some b) := by
  have HR := Lib.hid h; clear h
  have HA := Lib.hid hascii; clear hascii
  go_enter Tryz.func37, Tryz.ntmps37
  go_wp2_with fail
  refine (scan_rest b s p rest t _ HR.out hp).mono ?_
  rintro e w1 ⟨rfl, hR, hB⟩
  have HR1 := Lib.hid hR; clear hR
  have HB1 := Lib.hid hB; clear hB
  go_wp2_with fail
  refine (scan_rest b s p rest t _ HR1.out hp).mono ?_
  rintro e w2 ⟨rfl, hR, hB⟩
  have HR2 := Lib.hid hR; clear hR
  have HB2 := Lib.hid hB; clear hB
  go_wp2_with fail
  refine (scan_rest b s p rest t _ HR2.out hp).mono ?_
  rintro e w3 ⟨rfl, hR, hB⟩
  have HR3 := Lib.hid hR; clear hR
  have HB3 := Lib.hid hB; clear hB
  go_wp2_with fail
  refine (Any.strings_TrimLeft_laid Tryz.lays161 (by kernel_rfl) _ _ _ hcs HA.out).mono ?_
  rintro e w4 ⟨rfl, hB⟩
  have hR4 := Blk.below HR3.out hB HR3.out.lt
  have h1 := Rd.c1 hR4
  have f1 := Rd.f1 hR4
  have HR4 := Lib.hid hR4; clear hR4
  have HB4 := Lib.hid hB; clear hB
  have hsp := run_split s p cs.data.toList
  have hrh := run_head s p cs.data.toList
  have hl := runP_le s p cs.data.toList
  have hsz := tail_size s p
  generalize Lib.trimLeftS (tail s p).data.toList cs.data.toList = D at *
  have hd : D.length ≤ (tail s p).size := by omega
  have ht : (tail s p).size ≤ 1000000000000000 := by omega
  have hq : (tail s p).size - D.length = (runP s p cs.data.toList).length := by omega
  have HSP := Lib.hid hsp; clear hsp
  have HQ := Lib.hid hq; clear hq
  have HRH := Lib.hid hrh; clear hrh
  have HSZ := Lib.hid hsz; clear hsz
  go_wp2_with fail
  go_ret
  refine ⟨?_, ?_, grownBy_trans (grownBy_below (below_then (below_then (below_then HB1.out HB2.out) HB3.out) HB4.out) _) (grownBy_setCell _ _ _ _)⟩
  · show Ending.returned (.string ((tail s p).extract 0 ((tail s p).size - D.length))) = _
    rw [HQ.out, HRH.out]
  · rw [HQ.out, ← Int.natCast_add]
    exact Rd.move HR4.out _

/-- A number of digits, up to a bound. -/
def numP (base most : Int) : Int → List UInt8 → Int
  | n, [] => n
  | n, c :: l => numP base most (min (n * base + (if c.toNat > 57 then (c.toNat : Int) - 87 else (c.toNat : Int) - 48)) (most + 1)) l
end Go.Proofs.YtjmgboegipeijaaGreatDoor
