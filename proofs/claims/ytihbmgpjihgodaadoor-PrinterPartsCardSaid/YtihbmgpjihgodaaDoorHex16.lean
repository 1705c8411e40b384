/- A rune's number in hexadecimal digits: strconv.FormatInt(·, 16). -/
import Derived.Test.YtihbmgpjihgodaaDoorBlk
import Derived.Test.YtihbmgpjihgodaaDoorPrintSpec
import Derived.Test.YtihbmgpjihgodaaDoorProg
import Derived.WalkKit
import Derived.Lib.Hide
import Derived.WalkSpells
import Derived.WalkLawsBesides
import Derived.LoopTactic
import Derived.Laws.Bits64b
namespace Go.Proofs.YtihbmgpjihgodaaDoor
open Go Go.RowKit Go.Proofs

theorem cell_lt16 {w : World} {b j : Nat} {v : Value} (h : w.cell? ⟨b, j, none⟩ = some v) : b < w.heap.size := by
  rcases Nat.lt_or_ge b w.heap.size with h' | h'
  · exact h'
  · simp [World.cell?, Array.getElem?_eq_none h'] at h
theorem add_at16 (g o j : Nat) : (⟨g, o, none⟩ : Addr).add j = ⟨g, o + j, none⟩ := by
  unfold Addr.add; split <;> simp_all
set_option maxHeartbeats 1000000 in
theorem tz16 (w : World) (hcell : w.cell? ⟨3, 15, none⟩ = some (.int .u8 4)) :
    Calls Tryd.prog 69 #[.int .u64 16] w fun e w' => e = .returned (.int .i64 4) ∧ w' = w := by
  have key : IntKind.u64.wrap (bits BinOp.and IntKind.u64 16 (IntKind.u64.wrap (-16)) * 285870213051353865) / 288230376151711744 = 15 := by decide
  go_enter Tryd.func69, Tryd.ntmps69
  go_wp2_with (simp only [key])
  go_ret
  exact ⟨rfl, rfl⟩
set_option maxHeartbeats 1000000 in
theorem tz (w : World) (hcell : w.cell? ⟨3, 15, none⟩ = some (.int .u8 4)) :
    Calls Tryd.prog 63 #[.int .u64 16] w fun e w' => e = .returned (.int .i64 4) ∧ w' = w := by
  go_enter Tryd.func63, Tryd.ntmps63
  go_wp2_with fail
  refine (tz16 _ hcell).mono ?_
  rintro e w' ⟨rfl, rfl⟩
  go_wp2_with fail
  go_ret
  exact ⟨rfl, rfl⟩
set_option maxHeartbeats 1000000 in
theorem pow2_16 (w : World) :
    Calls Tryd.prog 62 #[.int .i64 16] w fun e w' => e = .returned (.bool true) ∧ w' = w := by
  go_enter Tryd.func62, Tryd.ntmps62
  go_wp2
  go_ret
  exact ⟨rfl, rfl⟩
/-- The row of 65 bytes behind some digits. -/
def Fb (cs : List Value) (i : Nat) (l : List UInt8) : Prop := cs.length = 65 ∧ i + l.length = 65 ∧ ∀ j, j < l.length → cs[i + j]? = some (.int .u8 ((l.getD j 0).toNat))
theorem Fb.start : Fb (List.replicate 65 (.int .u8 0)) 65 [] := ⟨rfl, rfl, fun _ h => by simp at h⟩
theorem Fb.step {cs : List Value} {i : Nat} {l : List UInt8} (h : Fb cs (i + 1) l) (c : UInt8) : Fb (cs.set i (.int .u8 c.toNat)) i (c :: l) := by
  obtain ⟨h1, h2, h3⟩ := h
  refine ⟨by simpa using h1, by simp; omega, fun j hj => ?_⟩
  cases j with
  | zero => simp [show i < cs.length by omega]
  | succ j =>
    rw [List.getElem?_set_ne (by omega), show i + (j + 1) = i + 1 + j by omega, h3 j (by simpa using hj)]
    rfl
theorem hexTx_lt {n : Nat} (h : n < 16) : hexTx n = [hexDg n] := by rw [hexTx, if_pos h]
theorem hexTx_ge {n : Nat} (h : ¬ n < 16) : hexTx n = hexTx (n / 16) ++ [hexDg (n % 16)] := by rw [hexTx, if_neg h]

theorem dgs_at (d : Nat) (h : d < 16) {h' : d < (ByteArray.mk #[48, 49, 50, 51, 52, 53, 54, 55, 56, 57, 97, 98, 99, 100, 101, 102, 103, 104, 105, 106, 107, 108, 109, 110, 111, 112, 113, 114, 115, 116, 117, 118, 119, 120, 121, 122]).size} :
    (ByteArray.mk #[48, 49, 50, 51, 52, 53, 54, 55, 56, 57, 97, 98, 99, 100, 101, 102, 103, 104, 105, 106, 107, 108, 109, 110, 111, 112, 113, 114, 115, 116, 117, 118, 119, 120, 121, 122])[d]'h' = hexDg d := by
  match d, h with
  | 0, _ | 1, _ | 2, _ | 3, _ | 4, _ | 5, _ | 6, _ | 7, _ | 8, _ | 9, _ | 10, _ | 11, _ | 12, _ | 13, _ | 14, _ | 15, _ => rfl
  | n + 16, h => omega

set_option maxHeartbeats 4000000 in
set_option maxRecDepth 100000 in
theorem formatBits16 (n : Nat) (w : World) (hn : n < 4294967296) (hcell : w.cell? ⟨3, 15, none⟩ = some (.int .u8 4)) :
    Calls Tryd.prog 54 #[.slice none 0 0, .int .u64 n, .int .i64 16, .bool false, .bool false] w fun e w' =>
      e = .returned (.tuple #[.slice none 0 0, .string ⟨(hexTx n).toArray⟩]) ∧ Below w.heap.size w w' := by
  go_enter Tryd.func54, Tryd.ntmps54
  go_wp2_with fail
  refine (pow2_16 _).mono ?_
  rintro e w' ⟨rfl, rfl⟩
  go_wp2_with fail
  refine (tz _ ?hc).mono ?_
  case hc => exact cell_lift (Below.alloc (Below.refl w.heap.size w) (Nat.le_refl _) _) (cell_lt16 hcell) hcell
  rintro e w' ⟨rfl, rfl⟩
  go_wp2_with fail
  go_loopw [1, 13] (fun uv iv wr => ∃ (x i : Nat) (cs : List Value) (l : List UInt8), uv = .int .u64 x ∧ iv = .int .i64 i ∧ Blk wr w.heap.size cs 101 ∧ Fb cs i l ∧ hexTx n = hexTx x ++ l ∧ 57 ≤ i ∧ x < 16 ^ (i - 56) ∧ Below w.heap.size w wr) (fun uv _ _ => (intOf uv).toNat)
  case atStart => exact ⟨n, 65, List.replicate 65 (.int .u8 0), [], rfl, rfl, Blk.new w _ _, Fb.start, by simp, by omega, by omega, (Below.refl _ _).alloc (Nat.le_refl _) _⟩
  case round =>
    obtain ⟨x, i, cs, l, rfl, rfl, hb, hf, hh, hi, hx, hw⟩ := hrel
    have hx16 : x < 18446744073709551616 := by
      have h1 := hf.2.1
      have h2 : 16 ^ (i - 56) ≤ 16 ^ 9 := Nat.pow_le_pow_right (by omega) (by omega)
      omega
    by_cases hlt : 16 ≤ x
    · have hi2 : 58 ≤ i := by
        rcases Nat.lt_or_ge i 58 with h1 | h1
        · rw [show i - 56 = 1 by omega] at hx
          omega
        · exact h1
      have hlen := hf.1
      have hil := hf.2.1
      have e1 : bits .and .u64 (x : Int) 15 = ((x % 16 : Nat) : Int) := by
        have := bits_and_u64_nat x 15 hx16 (by omega)
        rw [show ((15 : Nat) : Int) = 15 from rfl] at this
        rw [this, show (15 : Nat) = 2 ^ 4 - 1 from rfl, Nat.and_two_pow_sub_one_eq_mod]
      have hc := hb.cell (j := i - 1) (v := cs[i - 1]'(by omega)) (by simp)
      have hfz := hb.frozen (i - 1)
      have HF := Lib.hid (show Fb cs (i - 1 + 1) l by rw [show i - 1 + 1 = i by omega]; exact hf)
      have HB := Lib.hid hb; have HH := Lib.hid hh; have HW := Lib.hid hw; have HX := Lib.hid hx
      have hm : x % 16 < 36 := by omega
      clear hf hb hh hw hx
      go_wp2_with (simp only [e1])
      go_roundw
      case rel =>
        rw [dgs_at (x % 16) (by omega)]
        refine ⟨x / 16, i - 1, _, _, by simp, ?_, HB.out.set (i - 1) _, HF.out.step (hexDg (x % 16)), ?_, ?_, ?_, ?_⟩
        · congr 1; omega
        · rw [HH.out, hexTx_ge (by omega)]; simp
        · omega
        · have h3 := HX.out
          rw [show i - 56 = i - 1 - 56 + 1 by omega, Nat.pow_succ] at h3
          omega
        · exact below_next HW.out (Nat.le_refl _) (grownBy_setCell _ _ _ _) (fun k e => by cases e; exact Nat.le_refl _)
      case measure => simp [intOf]; omega
    · have hlen := hf.1
      have hil := hf.2.1
      have hc := hb.cell (j := i - 1) (v := cs[i - 1]'(by omega)) (by simp)
      have hfz := hb.frozen (i - 1)
      have HF := Lib.hid (show Fb cs (i - 1 + 1) l by rw [show i - 1 + 1 = i by omega]; exact hf)
      have HB := Lib.hid hb; have HH := Lib.hid hh; have HW := Lib.hid hw; have HX := Lib.hid hx
      have hxm : x < 36 := by omega
      obtain ⟨W', hW'⟩ : ∃ W', wr.setCell ⟨w.heap.size, i - 1, none⟩ (.int .u8 ((hexDg x).toNat : Int)) = W' := ⟨_, rfl⟩
      have hl : hexTx n = hexDg x :: l := by rw [hh, hexTx_lt (by omega)]; rfl
      have hB' : Blk W' w.heap.size (cs.set (i - 1) (.int .u8 ((hexDg x).toNat : Int))) 101 := by rw [← hW']; exact hb.set _ _
      have hF' := HF.out.step (hexDg x)
      rw [← hl] at hF'
      clear hl
      obtain ⟨m, hm⟩ : ∃ m, (hexTx n).length = m := ⟨_, rfl⟩
      have hal2 : m = 66 - i := by have := hF'.2.1; omega
      have hsl : ∀ W, (Instr.sliceAt 101 (.pointer (some ⟨w.heap.size, 0, none⟩)) (some (.int .i64 ((i : Int) - 1))) none none).run Tryd.prog W = .ok (.slice (some ⟨w.heap.size, i - 1, none⟩) m m) W := fun W => by
        have hal : Tryd.prog.arrayLen 101 = 65 := by kernel_rfl
        rw [run_sliceAt_array_l W 101 ⟨w.heap.size, 0, none⟩ (by kernel_rfl) .i64 ((i : Int) - 1) (by omega) (by rw [hal]; omega), hal2]
        go_simp
        omega
      have hcv : (convert 57 9 (.slice (some ⟨w.heap.size, i - 1, none⟩) m m)).run Tryd.prog W' = .ok (.string ⟨(hexTx n).toArray⟩) W' := by
        have h := run_convert_bytes_back (P := Tryd.prog) W' 57 9 5 ⟨w.heap.size, i - 1, none⟩ m (hexTx n) (by kernel_rfl) (by kernel_rfl) (by kernel_rfl) fun j hj => by
          rw [add_at16]
          refine hB'.cell ?_
          rw [hF'.2.2 j hj]
          simp [hj]
        rw [hm] at h
        exact h
      have hfin : Below w.heap.size w W' := by rw [← hW']; exact below_next hw (Nat.le_refl _) (grownBy_setCell _ _ _ _) (fun k e => by cases e; exact Nat.le_refl _)
      have hdx : ∀ h', (ByteArray.mk #[48, 49, 50, 51, 52, 53, 54, 55, 56, 57, 97, 98, 99, 100, 101, 102, 103, 104, 105, 106, 107, 108, 109, 110, 111, 112, 113, 114, 115, 116, 117, 118, 119, 120, 121, 122])[x]'h' = hexDg x := fun h' => dgs_at x (by omega)
      have HB2 := Lib.hid hB'; have HF2 := Lib.hid hF'; have HM := Lib.hid hm
      clear hf hb hh hw hx hB' hF' hm hal2
      go_wp2_with (first | simp only [hdx] | rw [hW'])
      go_ret2
      exact ⟨rfl, hfin⟩
/-- What the row of a law lists of the library's table. -/
def Bru (w : World) : Prop := w.cell? ⟨3, 15, none⟩ = some (.int .u8 4)
theorem Bru.below {B : Nat} {w w' : World} (h : Bru w) (hb : Below B w w') (hB : 3 < B) : Bru w' := cell_lift hb hB h
theorem Bru.lt {w : World} (h : Bru w) : 3 < w.heap.size := cell_lt16 h

set_option maxHeartbeats 4000000 in
theorem formatInt16 (n : Nat) (w : World) (hn : n < 4294967296) (hT : Bru w) :
    Calls Tryd.prog 45 #[.int .i64 n, .int .i64 16] w fun e w' => e = .returned (.string ⟨(hexTx n).toArray⟩) ∧ Below w.heap.size w w' := by
  have hw : IntKind.u64.wrap (n : Int) = n := by rw [IntKind.wrap_u64]; omega
  go_enter Tryd.func45, Tryd.ntmps45
  go_wp2_with (first | fail | rw [hw])
  refine (formatBits16 n w hn hT).mono ?_
  rintro e w' ⟨rfl, hB⟩
  go_wp2_with fail
  go_ret
  exact ⟨rfl, hB⟩
set_option maxHeartbeats 4000000 in
theorem FormatInt16 (n : Nat) (w : World) (hn : n < 4294967296) (hT : Bru w) :
    Calls Tryd.prog 39 #[.int .i64 n, .int .i64 16] w fun e w' => e = .returned (.string ⟨(hexTx n).toArray⟩) ∧ Below w.heap.size w w' := by
  go_enter Tryd.func39, Tryd.ntmps39
  go_wp2_with fail
  refine (formatInt16 n w hn hT).mono ?_
  rintro e w' ⟨rfl, hB⟩
  go_wp2_with fail
  go_ret
  exact ⟨rfl, hB⟩
end Go.Proofs.YtihbmgpjihgodaaDoor
