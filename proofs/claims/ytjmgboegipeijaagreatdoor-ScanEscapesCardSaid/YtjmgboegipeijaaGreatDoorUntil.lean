/- What stands ahead of a byte: strings.Cut at one byte, the reader's until. -/
import Derived.Test.YtjmgboegipeijaaGreatDoorScan1
import Derived.Laws.Runes
import Derived.Lib.IndexLaws
namespace Go.Proofs.YtjmgboegipeijaaGreatDoor
open Go Go.RowKit Go.Proofs

theorem indexByte_lt {l : List UInt8} {c : UInt8} {k : Nat} (h : Lib.indexByte l c = k) : k < l.length := by
  have := (Lib.indexByte_some h).1
  exact (List.getElem?_eq_some_iff.1 this).1

set_option maxHeartbeats 400000 in
theorem sl_cut_yes (s : ByteArray) (c : UInt8) (k : Nat) (w : World) (hk : Lib.indexByte s.data.toList c = k) (hs : s.size ≤ 1000000000000000) :
    Calls Tryz.prog 88 #[.string s, .string ⟨#[c]⟩] w fun e w' => e = .returned (.tuple #[.string (s.extract 0 k), .string (s.extract (k + 1) s.size), .bool true]) ∧ ∃ n, w' = w.drewN n := by
  have hl : k < s.size := by have := indexByte_lt hk; simpa using this
  have HK := Lib.hid hk; clear hk
  have hl1 : (k : Int) ≤ (s.size : Int) := by omega
  have hl2 : (k : Int) + 1 ≤ (s.size : Int) := by omega
  go_enter Tryz.func88, Tryz.ntmps88
  go_wp2_with fail
  refine (Tryz.stringslite_Index_one s c _).mono ?_
  rintro e w1 ⟨rfl, rfl⟩
  rw [HK.out]
  go_wp2_with fail
  go_quiet (fail)
  go_wp2_with fail
  go_ret3
  exact ⟨rfl, _, rfl⟩

theorem sl_cut_no (s : ByteArray) (c : UInt8) (w : World) (hk : Lib.indexByte s.data.toList c = -1) :
    Calls Tryz.prog 88 #[.string s, .string ⟨#[c]⟩] w fun e w' => e = .returned (.tuple #[.string s, .string ⟨#[]⟩, .bool false]) ∧ ∃ n, w' = w.drewN n := by
  have HK := Lib.hid hk; clear hk
  go_enter Tryz.func88, Tryz.ntmps88
  go_wp2_with fail
  refine (Tryz.stringslite_Index_one s c _).mono ?_
  rintro e w1 ⟨rfl, rfl⟩
  rw [HK.out]
  go_wp2_with fail
  go_ret3
  exact ⟨rfl, 0, rfl⟩

theorem cut_yes (s : ByteArray) (c : UInt8) (k : Nat) (w : World) (hk : Lib.indexByte s.data.toList c = k) (hs : s.size ≤ 1000000000000000) :
    Calls Tryz.prog 63 #[.string s, .string ⟨#[c]⟩] w fun e w' => e = .returned (.tuple #[.string (s.extract 0 k), .string (s.extract (k + 1) s.size), .bool true]) ∧ ∃ n, w' = w.drewN n := by
  go_enter Tryz.func63, Tryz.ntmps63
  go_wp2_with fail
  refine (sl_cut_yes s c k _ hk hs).mono ?_
  rintro e w1 ⟨rfl, n, rfl⟩
  go_wp2_with fail
  go_ret3
  exact ⟨rfl, n, rfl⟩
theorem cut_no (s : ByteArray) (c : UInt8) (w : World) (hk : Lib.indexByte s.data.toList c = -1) :
    Calls Tryz.prog 63 #[.string s, .string ⟨#[c]⟩] w fun e w' => e = .returned (.tuple #[.string s, .string ⟨#[]⟩, .bool false]) ∧ ∃ n, w' = w.drewN n := by
  go_enter Tryz.func63, Tryz.ntmps63
  go_wp2_with fail
  refine (sl_cut_no s c _ hk).mono ?_
  rintro e w1 ⟨rfl, n, rfl⟩
  go_wp2_with fail
  go_ret3
  exact ⟨rfl, n, rfl⟩

set_option maxHeartbeats 400000 in
theorem scan_until_yes (b : Nat) (s : ByteArray) (c : UInt8) (p k : Nat) (rest : List Value) (t : TypeId) (w : World) (h : Rd w b s p rest t) (hp : p ≤ s.size) (hs : s.size ≤ 1000000000000000)
    (hconv : ∀ w, (convert 5 9 (.int .u8 (c.toNat : Int))).run Tryz.prog w = .ok (.string ⟨#[c]⟩) w) (hk : Lib.indexByte (s.data.toList.drop p) c = k) :
    Calls Tryz.prog 42 #[.pointer (some ⟨b, 0, none⟩), .int .u8 (c.toNat : Int)] w fun e w' => e = .returned (.tuple #[.string (s.extract p (p + k)), .bool true]) ∧ Rd w' b s (p + k + 1) rest t ∧ w.grownBy w' (some b) := by
  have hl : k < s.size - p := by have := indexByte_lt hk; simpa using this
  rw [← tail_toList] at hk
  have HK := Lib.hid hk; clear hk
  have HR := Lib.hid h; clear h
  go_enter Tryz.func42, Tryz.ntmps42
  go_wp2_with fail
  refine (scan_rest b s p rest t _ HR.out hp).mono ?_
  rintro e w1 ⟨rfl, hR, hB⟩
  have HR1 := Lib.hid hR; clear hR
  have HB := Lib.hid hB; clear hB
  go_wp2_with fail
  refine (cut_yes (tail s p) c k _ HK.out (by rw [tail_size]; omega)).mono ?_
  rintro e w2 ⟨rfl, n, rfl⟩
  have hRn : Rd (w1.drewN n) b s p rest t := Blk.drewN HR1.out n
  have h1 := hRn.c1
  have f1 := hRn.f1
  have HRN := Lib.hid hRn; clear hRn
  have he : (tail s p).extract 0 k = s.extract p (p + k) := by
    unfold tail
    rw [ByteArray.extract_extract]
    congr 1
    omega
  have hz : (s.extract p (p + k)).size = k := by simp; omega
  rw [he]
  have HZ := Lib.hid hz
  have HE := Lib.hid he
  clear he
  go_wp2_with fail
  go_ret2
  refine ⟨rfl, ?_, grownBy_trans (grownBy_trans (grownBy_below HB.out _) (grownBy_drewN _ n _)) (grownBy_setCell _ _ _ _)⟩
  have e1 : ((p : Int) + ((k : Int) + 1)) = ((p + k + 1 : Nat) : Int) := by omega
  rw [e1]
  exact Rd.move HRN.out _

set_option maxHeartbeats 400000 in
theorem scan_until_no (b : Nat) (s : ByteArray) (c : UInt8) (p : Nat) (rest : List Value) (t : TypeId) (w : World) (h : Rd w b s p rest t) (hp : p ≤ s.size)
    (hconv : ∀ w, (convert 5 9 (.int .u8 (c.toNat : Int))).run Tryz.prog w = .ok (.string ⟨#[c]⟩) w) (hk : Lib.indexByte (s.data.toList.drop p) c = -1) :
    Calls Tryz.prog 42 #[.pointer (some ⟨b, 0, none⟩), .int .u8 (c.toNat : Int)] w fun e w' => e = .returned (.tuple #[.string (tail s p), .bool false]) ∧ Rd w' b s p rest t ∧ w.grownBy w' (some b) := by
  rw [← tail_toList] at hk
  have HK := Lib.hid hk; clear hk
  have HR := Lib.hid h; clear h
  go_enter Tryz.func42, Tryz.ntmps42
  go_wp2_with fail
  refine (scan_rest b s p rest t _ HR.out hp).mono ?_
  rintro e w1 ⟨rfl, hR, hB⟩
  have HR1 := Lib.hid hR; clear hR
  have HB := Lib.hid hB; clear hB
  go_wp2_with fail
  refine (cut_no (tail s p) c _ HK.out).mono ?_
  rintro e w2 ⟨rfl, n, rfl⟩
  go_wp2_with fail
  go_ret2
  exact ⟨rfl, Blk.drewN HR1.out n, grownBy_trans (grownBy_below HB.out _) (grownBy_drewN _ n _)⟩

theorem conv62 (w : World) : (convert 5 9 (.int .u8 62)).run Tryz.prog w = .ok (.string ⟨#[62]⟩) w := by kernel_rfl
theorem conv125 (w : World) : (convert 5 9 (.int .u8 125)).run Tryz.prog w = .ok (.string ⟨#[125]⟩) w := by kernel_rfl
end Go.Proofs.YtjmgboegipeijaaGreatDoor
