/- The reader's next rune, at any byte. What stands ahead of a byte: strings.Cut at one byte, the reader's until. -/
import Derived.Test.YtnafemcholkmlaaGreatDoorQCount
import Derived.Laws.RangeAny
import Derived.Lib.TrimU
import Derived.Shelf.Strings.MapAny
import Derived.Shelf.Unicode.DecodeLastEight
import Derived.Test.YtnafemcholkmlaaGreatDoorQScan1
import Derived.Laws.Runes
import Derived.Lib.IndexLaws
namespace Go.Proofs.YtnafemcholkmlaaGreatDoor
open Go Go.RowKit Go.Proofs

/-- The library's two tables lie where they lay. -/
abbrev Tabs (w : World) : Prop := Lib.Utf8Tabs 1 2 w

theorem cell_lt {w : World} {b j : Nat} {v : Value} (h : w.cell? ⟨b, j, none⟩ = some v) : b < w.heap.size := by
  rcases Nat.lt_or_ge b w.heap.size with h' | h'
  · exact h'
  · simp [World.cell?, Array.getElem?_eq_none h'] at h
theorem Tabs.lt {w : World} (h : Tabs w) : 1 < w.heap.size ∧ 2 < w.heap.size :=
  ⟨cell_lt (h.1 0 (by omega)), cell_lt (h.2 0 (by omega)).1⟩
theorem Tabs.of_blocks {w w' : World} (h : Tabs w) (h0 : w'.heap[1]? = w.heap[1]?) (h1 : w'.heap[2]? = w.heap[2]?) : Tabs w' := by
  refine ⟨fun c hc => ?_, fun i hi => ?_⟩
  · rw [← h.1 c hc]; simp only [World.cell?, h0]
  · rw [← (h.2 i hi).1, ← (h.2 i hi).2]; simp only [World.cell?, h1]; exact ⟨trivial, trivial⟩
theorem Tabs.below {w w' : World} (h : Tabs w) (hb : Below w.heap.size w w') : Tabs w' := h.of_blocks (hb.block _ h.lt.1) (hb.block _ h.lt.2)
theorem Tabs.below' {w w' : World} {B : Nat} (h : Tabs w) (hb : Below B w w') (h0 : 1 < B) (h1 : 2 < B) : Tabs w' := h.of_blocks (hb.block _ h0) (hb.block _ h1)
theorem Tabs.grown {w w' : World} {b : Nat} (h : Tabs w) (hg : w.grownBy w' (some b)) (h0 : 1 ≠ b) (h1 : 2 ≠ b) : Tabs w' :=
  h.of_blocks (hg.block _ h.lt.1 (ne_some h0)) (hg.block _ h.lt.2 (ne_some h1))
theorem Tabs.alloc {w : World} (h : Tabs w) (o : Obj) : Tabs (w.alloc o) := h.of_blocks (Below.heap_alloc w o _ h.lt.1) (Below.heap_alloc w o _ h.lt.2)
theorem Tabs.drewN {w : World} (h : Tabs w) (n : Nat) : Tabs (w.drewN n) := h

/-- The rune at a place; -1: there is none. -/
def nextC (s : ByteArray) (p : Nat) : Int := if p < s.size then ((Utf8.decode s p).1 : Int) else -1
/-- The place behind it. -/
def nextW (s : ByteArray) (p : Nat) : Nat := if p < s.size then p + (Utf8.decode s p).2 else p

theorem decode_le_size (s : ByteArray) (p : Nat) (h : p < s.size) : p + (Utf8.decode s p).2 ≤ s.size := by
  have := Lib.decodeGo_le_size (s.extract p s.size)
  rw [Lib.decodeGo_extract s p h] at this
  simp at this
  omega
theorem nextW_le (s : ByteArray) (p : Nat) (h : p ≤ s.size) : nextW s p ≤ s.size := by
  unfold nextW; split
  · exact decode_le_size s p (by assumption)
  · exact h
theorem nextC_le (s : ByteArray) (p : Nat) : -1 ≤ nextC s p ∧ nextC s p ≤ 1114111 := by
  unfold nextC; split
  · have := Lib.rune_le s p; omega
  · omega
theorem nextC_ascii (s : ByteArray) (p : Nat) (h : p < s.size) (hx : (s[p]'h).toNat < 128) : nextC s p = (s[p]'h).toNat ∧ nextW s p = p + 1 := by
  unfold nextC nextW
  rw [if_pos h, if_pos h, Go.decode_ascii s p h hx]; exact ⟨rfl, rfl⟩
theorem nextC_high (s : ByteArray) (p : Nat) (h : p < s.size) (hx : 128 ≤ (s[p]'h).toNat) : 128 ≤ nextC s p := by
  unfold nextC
  rw [if_pos h]
  have := (Go.decode_high s p h hx).1
  omega
theorem nextC_end (s : ByteArray) (p : Nat) (h : s.size ≤ p) : nextC s p = -1 ∧ nextW s p = p := by
  unfold nextC nextW
  rw [if_neg (by omega), if_neg (by omega)]; exact ⟨rfl, rfl⟩
/-- A small rune is a byte. -/
theorem nextC_small (s : ByteArray) (p : Nat) (h0 : 0 ≤ nextC s p) (h1 : nextC s p < 128) : ∃ h : p < s.size, nextC s p = (s[p]'h).toNat ∧ nextW s p = p + 1 ∧ (s[p]'h).toNat < 128 := by
  by_cases h : p < s.size
  · by_cases hx : (s[p]'h).toNat < 128
    · exact ⟨h, (nextC_ascii s p h hx).1, (nextC_ascii s p h hx).2, hx⟩
    · have := nextC_high s p h (by omega); omega
  · have := (nextC_end s p (by omega)).1; omega

theorem decodeGo_tail (s : ByteArray) (p : Nat) (h : p < s.size) : Lib.decodeGo (tail s p) = Utf8.decode s p := Lib.decodeGo_extract s p h

set_option maxHeartbeats 400000 in
theorem scan_next (b : Nat) (s : ByteArray) (p : Nat) (rest : List Value) (t : TypeId) (w : World) (h : Rd w b s p rest t) (hT : Tabs w) (hp : p ≤ s.size) (hs : s.size ≤ 1000000000000000) :
    Calls Tryz.prog 76 #[.pointer (some ⟨b, 0, none⟩)] w fun e w' => e = .returned (.int .i32 (nextC s p)) ∧ Rd w' b s (nextW s p) rest t ∧ w.grownBy w' (some b) := by
  have HR := Lib.hid h
  have HT := Lib.hid hT
  have h0 := h.c0
  have h1 := h.c1
  clear h hT
  by_cases hlt : p < s.size
  · have hd : decide ((s.size : Int) ≤ (p : Int)) = false := by simp; omega
    have HF := Lib.hid (show nextC s p = ((Utf8.decode s p).1 : Int) ∧ nextW s p = p + (Utf8.decode s p).2 by unfold nextC nextW; rw [if_pos hlt, if_pos hlt]; exact ⟨rfl, rfl⟩)
    have hle := decode_le_size s p hlt
    go_enter Tryz.func76, Tryz.ntmps76
    go_wp2_with fail
    go_quiet (fail)
    go_wp2_with fail
    refine (scan_rest b s p rest t _ (Blk.drewN HR.out _) (by omega)).mono ?_
    rintro e w1 ⟨rfl, hR, hB⟩
    have T1 := Lib.hid (Tabs.below (w := w.drewN nq) HT.out hB)
    have R1 := Lib.hid hR; have HB := Lib.hid hB; clear hR hB
    go_wp2_with fail
    refine (Tryz.utf8_DecodeRuneInString _ _ T1.out).mono ?_
    rintro e w2 ⟨rfl, hB⟩
    rw [decodeGo_tail s p hlt]
    have R2 := Lib.hid (Rd.below R1.out hB R1.out.lt)
    have HB2 := Lib.hid (below_then HB.out hB); clear hB
    have g1 := Rd.c1 R2.out
    have f1 := Rd.f1 R2.out
    clear h0 h1
    go_wp2_with fail
    go_ret
    refine ⟨by rw [HF.out.1]; rfl, ?_, grownBy_trans (grownBy_trans (grownBy_drewN w nq _) (grownBy_below HB2.out _)) (grownBy_setCell _ _ _ _)⟩
    rw [HF.out.2, ← Int.natCast_add]
    exact Rd.move R2.out _
  · have hd : decide ((s.size : Int) ≤ (p : Int)) = true := by simp; omega
    have HF := Lib.hid (nextC_end s p (by omega))
    go_enter Tryz.func76, Tryz.ntmps76
    go_wp2_with fail
    go_quiet (fail)
    go_wp2_with fail
    go_ret
    refine ⟨by rw [HF.out.1]; rfl, ?_, grownBy_drewN w _ _⟩
    rw [HF.out.2]
    exact Blk.drewN HR.out _
end Go.Proofs.YtnafemcholkmlaaGreatDoor

namespace Go.Proofs.YtnafemcholkmlaaGreatDoor
open Go Go.RowKit Go.Proofs

theorem indexByte_lt {l : List UInt8} {c : UInt8} {k : Nat} (h : Lib.indexByte l c = k) : k < l.length := by
  have := (Lib.indexByte_some h).1
  exact (List.getElem?_eq_some_iff.1 this).1

set_option maxHeartbeats 400000 in
theorem sl_cut_yes (s : ByteArray) (c : UInt8) (k : Nat) (w : World) (hk : Lib.indexByte s.data.toList c = k) (hs : s.size ≤ 1000000000000000) :
    Calls Tryz.prog 163 #[.string s, .string ⟨#[c]⟩] w fun e w' => e = .returned (.tuple #[.string (s.extract 0 k), .string (s.extract (k + 1) s.size), .bool true]) ∧ ∃ n, w' = w.drewN n := by
  have hl : k < s.size := by have := indexByte_lt hk; simpa using this
  have HK := Lib.hid hk; clear hk
  have hl1 : (k : Int) ≤ (s.size : Int) := by omega
  have hl2 : (k : Int) + 1 ≤ (s.size : Int) := by omega
  go_enter Tryz.func163, Tryz.ntmps163
  go_wp2_with fail
  refine (Tryz.stringslite_Index_one s c _).mono ?_
  rintro e w1 ⟨rfl, rfl⟩
  rw [HK.out]
  go_wp2_with fail
  go_quiet (fail)
  go_wp2_with fail
  go_ret3
  exact ⟨rfl, _, rfl⟩

theorem sl_cut_no (s : ByteArray) (c : UInt8) (w : World) (hk : Lib.indexByte s.data.toList c = -1) :
    Calls Tryz.prog 163 #[.string s, .string ⟨#[c]⟩] w fun e w' => e = .returned (.tuple #[.string s, .string ⟨#[]⟩, .bool false]) ∧ ∃ n, w' = w.drewN n := by
  have HK := Lib.hid hk; clear hk
  go_enter Tryz.func163, Tryz.ntmps163
  go_wp2_with fail
  refine (Tryz.stringslite_Index_one s c _).mono ?_
  rintro e w1 ⟨rfl, rfl⟩
  rw [HK.out]
  go_wp2_with fail
  go_ret3
  exact ⟨rfl, 0, rfl⟩

theorem cut_yes (s : ByteArray) (c : UInt8) (k : Nat) (w : World) (hk : Lib.indexByte s.data.toList c = k) (hs : s.size ≤ 1000000000000000) :
    Calls Tryz.prog 144 #[.string s, .string ⟨#[c]⟩] w fun e w' => e = .returned (.tuple #[.string (s.extract 0 k), .string (s.extract (k + 1) s.size), .bool true]) ∧ ∃ n, w' = w.drewN n := by
  go_enter Tryz.func144, Tryz.ntmps144
  go_wp2_with fail
  refine (sl_cut_yes s c k _ hk hs).mono ?_
  rintro e w1 ⟨rfl, n, rfl⟩
  go_wp2_with fail
  go_ret3
  exact ⟨rfl, n, rfl⟩
theorem cut_no (s : ByteArray) (c : UInt8) (w : World) (hk : Lib.indexByte s.data.toList c = -1) :
    Calls Tryz.prog 144 #[.string s, .string ⟨#[c]⟩] w fun e w' => e = .returned (.tuple #[.string s, .string ⟨#[]⟩, .bool false]) ∧ ∃ n, w' = w.drewN n := by
  go_enter Tryz.func144, Tryz.ntmps144
  go_wp2_with fail
  refine (sl_cut_no s c _ hk).mono ?_
  rintro e w1 ⟨rfl, n, rfl⟩
  go_wp2_with fail
  go_ret3
  exact ⟨rfl, n, rfl⟩

set_option maxHeartbeats 400000 in
theorem scan_until_yes (b : Nat) (s : ByteArray) (c : UInt8) (p k : Nat) (rest : List Value) (t : TypeId) (w : World) (h : Rd w b s p rest t) (hp : p ≤ s.size) (hs : s.size ≤ 1000000000000000)
    (hconv : ∀ w, (convert 5 9 (.int .u8 (c.toNat : Int))).run Tryz.prog w = .ok (.string ⟨#[c]⟩) w) (hk : Lib.indexByte (s.data.toList.drop p) c = k) :
    Calls Tryz.prog 111 #[.pointer (some ⟨b, 0, none⟩), .int .u8 (c.toNat : Int)] w fun e w' => e = .returned (.tuple #[.string (s.extract p (p + k)), .bool true]) ∧ Rd w' b s (p + k + 1) rest t ∧ w.grownBy w' (some b) := by
  have hl : k < s.size - p := by have := indexByte_lt hk; simpa using this
  rw [← tail_toList] at hk
  have HK := Lib.hid hk; clear hk
  have HR := Lib.hid h; clear h
  go_enter Tryz.func111, Tryz.ntmps111
  go_wp2_with fail
  refine (scan_rest b s p rest t _ HR.out hp).mono ?_
  rintro e w1 ⟨rfl, hR, hB⟩
  have HR1 := Lib.hid hR; clear hR
  have HB := Lib.hid hB; clear hB
  go_wp2_with fail
  refine (cut_yes (tail s p) c k _ HK.out (by rw [tail_size]; omega)).mono ?_
  rintro e w2 ⟨rfl, n, rfl⟩
  have hRn : Rd (w1.drewN n) b s p rest t := Blk.drewN HR1.out n
  have h1 := hRn.c1
  have f1 := hRn.f1
  have HRN := Lib.hid hRn; clear hRn
  have he : (tail s p).extract 0 k = s.extract p (p + k) := by
    unfold tail
    rw [ByteArray.extract_extract]
    congr 1
    omega
  have hz : (s.extract p (p + k)).size = k := by simp; omega
  rw [he]
  have HZ := Lib.hid hz
  have HE := Lib.hid he
  clear he
  go_wp2_with fail
  go_ret2
  refine ⟨rfl, ?_, grownBy_trans (grownBy_trans (grownBy_below HB.out _) (grownBy_drewN _ n _)) (grownBy_setCell _ _ _ _)⟩
  have e1 : ((p : Int) + ((k : Int) + 1)) = ((p + k + 1 : Nat) : Int) := by omega
  rw [e1]
  exact Rd.move HRN.out _

set_option maxHeartbeats 400000 in
theorem scan_until_no (b : Nat) (s : ByteArray) (c : UInt8) (p : Nat) (rest : List Value) (t : TypeId) (w : World) (h : Rd w b s p rest t) (hp : p ≤ s.size)
    (hconv : ∀ w, (convert 5 9 (.int .u8 (c.toNat : Int))).run Tryz.prog w = .ok (.string ⟨#[c]⟩) w) (hk : Lib.indexByte (s.data.toList.drop p) c = -1) :
    Calls Tryz.prog 111 #[.pointer (some ⟨b, 0, none⟩), .int .u8 (c.toNat : Int)] w fun e w' => e = .returned (.tuple #[.string (tail s p), .bool false]) ∧ Rd w' b s p rest t ∧ w.grownBy w' (some b) := by
  rw [← tail_toList] at hk
  have HK := Lib.hid hk; clear hk
  have HR := Lib.hid h; clear h
  go_enter Tryz.func111, Tryz.ntmps111
  go_wp2_with fail
  refine (scan_rest b s p rest t _ HR.out hp).mono ?_
  rintro e w1 ⟨rfl, hR, hB⟩
  have HR1 := Lib.hid hR; clear hR
  have HB := Lib.hid hB; clear hB
  go_wp2_with fail
  refine (cut_no (tail s p) c _ HK.out).mono ?_
  rintro e w2 ⟨rfl, n, rfl⟩
  go_wp2_with fail
  go_ret2
  exact ⟨rfl, Blk.drewN HR1.out n, grownBy_trans (grownBy_below HB.out _) (grownBy_drewN _ n _)⟩

theorem conv62 (w : World) : (convert 5 9 (.int .u8 62)).run Tryz.prog w = .ok (.string ⟨#[62]⟩) w := by kernel_rfl
theorem conv125 (w : World) : (convert 5 9 (.int .u8 125)).run Tryz.prog w = .ok (.string ⟨#[125]⟩) w := by kernel_rfl
end Go.Proofs.YtnafemcholkmlaaGreatDoor
