/- A repeat's sign: printer.sign and the document's repeat. -/
import Derived.Test.YtihbmgpjihgodaaDoorPrintAid
import Derived.Lib.AppendIntMem
import Derived.Lib.ItoaLen
namespace Go.Proofs.YtihbmgpjihgodaaDoor
open Go Go.RowKit Go.Proofs Go.Shelf

theorem below_grow (w : World) (k : Nat) (os : Array Obj) : Below w.heap.size w (Sort.grow (w.drewN k) os) := by
  refine ⟨rfl, rfl, rfl, ?_, fun j hj => ?_⟩
  · show w.heap.size ≤ (w.heap ++ os).size; rw [Array.size_append]; omega
  · show (w.heap ++ os)[j]? = w.heap[j]?
    rw [Array.getElem?_append_left hj]
abbrev Pow (w : World) : Prop := Lib.TabIs Tryd.prog w "internal/strconv.uint64pow10" .u64 Lib.pow10Tab
theorem itoa_any (n : Nat) (w : World) (hn : n ≤ 1000) (hP : Pow w) :
    Calls Tryd.prog 34 #[.int .i64 n] w fun e w' => e = .returned (.string ⟨(decTx n).toArray⟩) ∧ Below w.heap.size w w' := by
  refine (Tryd.strconv_Itoa n (by omega) (by omega) w hP).mono ?_
  rintro e w' ⟨rfl, k, os, rfl⟩
  refine ⟨?_, below_grow w k os⟩
  rw [Lib.itoa_nonneg]
theorem decTx_len (n : Nat) (h : n ≤ 1000) : (decTx n).length ≤ 20 := by
  rw [Lib.decDigits_length]
  exact Lib.nDigits_le20 n (by omega)
/-- A tree's ten cells. -/
abbrev cellsT (op : Int) (ka : Option Addr) (kn kc : Nat) (rune : Int) (sa : Option Addr) (sn sc : Nat) (pl cap : Int) (name : ByteArray) (mn mx : Int) (lz : Bool) : List Value :=
  [.int .i64 op, .slice ka kn kc, .int .i32 rune, .slice sa sn sc, .int .i64 pl, .int .i64 cap, .string name, .int .i64 mn, .int .i64 mx, .bool lz]
/-- The sign ahead of the lazy mark. -/
def signBare (op mn mx : Int) : List UInt8 :=
  if op = 7 then [42] else if op = 8 then [43] else if op = 9 then [63] else if mx = mn then [123] ++ decTx mn.toNat ++ [125] else if mx < 0 then [123] ++ decTx mn.toNat ++ [44, 125] else [123] ++ decTx mn.toNat ++ [44] ++ decTx mx.toNat ++ [125]
theorem signTx_eq (op mn mx : Int) (lz : Bool) : signTx op mn mx lz = signBare op mn mx ++ (if lz then [63] else []) := rfl

set_option maxRecDepth 100000 in
set_option maxHeartbeats 4000000 in
theorem printer_sign (op : Int) (ka : Option Addr) (kn kc : Nat) (rune : Int) (sa : Option Addr) (sn sc : Nat) (pl cap : Int) (name : ByteArray) (n : Nat) (mx : Int) (lz : Bool) (w : World)
    (ho : op = 7 ∨ op = 8 ∨ op = 9 ∨ op = 10) (hn : n ≤ 1000) (hx : -1 ≤ mx ∧ mx ≤ 1000) (hP : Pow w) :
    Calls Tryd.prog 21 #[.agg (cellsT op ka kn kc rune sa sn sc pl cap name n mx lz).toArray] w fun e w' => e = .returned (.string ⟨(signTx op n mx lz).toArray⟩) ∧ Below w.heap.size w w' := by
  have hPB := Lib.tabBelow_of_tabIs hP
  have HP := Lib.hid hPB
  clear hP hPB
  have B0 : ∀ o, Below w.heap.size w (w.alloc o) := fun o => (Below.refl _ w).alloc (Nat.le_refl _) o
  have HB0 := Lib.hid B0
  clear B0
  rcases ho with rfl | rfl | rfl | rfl
  · go_enter Tryd.func21, Tryd.ntmps21
    go_wp2_with fail
    refine (itoa_any n _ hn (HP.out _ (HB0.out _))).mono ?_
    rintro e w1 ⟨rfl, hB⟩
    have HB1 := Lib.hid ((HB0.out _).trans (hB.mono (by simp)))
    have hz := (Blk.new w (cellsT 7 ka kn kc rune sa sn sc pl cap name n mx lz) 27).below hB (by simp)
    have z0 := hz.cell (j := 0) rfl
    have z9 := hz.cell (j := 9) rfl
    clear hB hz
    cases lz with
    | true =>
      go_wp2_with fail
      refine (joined_new [[42], [63]] 9 w1 (by simp) (by simp)).mono ?_
      rintro e w2 ⟨rfl, hB2⟩
      go_wp2_with fail
      go_ret
      exact ⟨rfl, HB1.out.trans (hB2.mono HB1.out.size)⟩
    | false =>
      go_wp2_with fail
      go_ret
      exact ⟨rfl, HB1.out⟩
  · go_enter Tryd.func21, Tryd.ntmps21
    go_wp2_with fail
    refine (itoa_any n _ hn (HP.out _ (HB0.out _))).mono ?_
    rintro e w1 ⟨rfl, hB⟩
    have HB1 := Lib.hid ((HB0.out _).trans (hB.mono (by simp)))
    have hz := (Blk.new w (cellsT 8 ka kn kc rune sa sn sc pl cap name n mx lz) 27).below hB (by simp)
    have z0 := hz.cell (j := 0) rfl
    have z9 := hz.cell (j := 9) rfl
    clear hB hz
    cases lz with
    | true =>
      go_wp2_with fail
      refine (joined_new [[43], [63]] 9 w1 (by simp) (by simp)).mono ?_
      rintro e w2 ⟨rfl, hB2⟩
      go_wp2_with fail
      go_ret
      exact ⟨rfl, HB1.out.trans (hB2.mono HB1.out.size)⟩
    | false =>
      go_wp2_with fail
      go_ret
      exact ⟨rfl, HB1.out⟩
  · go_enter Tryd.func21, Tryd.ntmps21
    go_wp2_with fail
    refine (itoa_any n _ hn (HP.out _ (HB0.out _))).mono ?_
    rintro e w1 ⟨rfl, hB⟩
    have HB1 := Lib.hid ((HB0.out _).trans (hB.mono (by simp)))
    have hz := (Blk.new w (cellsT 9 ka kn kc rune sa sn sc pl cap name n mx lz) 27).below hB (by simp)
    have z0 := hz.cell (j := 0) rfl
    have z9 := hz.cell (j := 9) rfl
    clear hB hz
    cases lz with
    | true =>
      go_wp2_with fail
      refine (joined_new [[63], [63]] 9 w1 (by simp) (by simp)).mono ?_
      rintro e w2 ⟨rfl, hB2⟩
      go_wp2_with fail
      go_ret
      exact ⟨rfl, HB1.out.trans (hB2.mono HB1.out.size)⟩
    | false =>
      go_wp2_with fail
      go_ret
      exact ⟨rfl, HB1.out⟩
  · go_enter Tryd.func21, Tryd.ntmps21
    go_wp2_with fail
    refine (itoa_any n _ hn (HP.out _ (HB0.out _))).mono ?_
    rintro e w1 ⟨rfl, hB⟩
    have HB1 := Lib.hid ((HB0.out _).trans (hB.mono (by simp)))
    have hz := (Blk.new w (cellsT 10 ka kn kc rune sa sn sc pl cap name n mx lz) 27).below hB (by simp)
    have HZ := Lib.hid hz
    have z0 := hz.cell (j := 0) rfl
    have z7 := hz.cell (j := 7) rfl
    have z8 := hz.cell (j := 8) rfl
    have hln := decTx_len n hn
    have hwz : w.heap.size < w1.heap.size := hz.lt
    clear hB hz
    by_cases h1 : mx = n
    · have HS := Lib.hid (show signBare 10 n mx = [123] ++ decTx n ++ [125] by simp [signBare, h1])
      have d1 : (mx == (n : Int)) = true := by simpa using h1
      have HL := Lib.hid h1
      subst h1
      go_wp2_with fail
      refine (joined_new [[123], decTx n, [125]] 9 w1 (by simp) (by simp; omega)).mono ?_
      rintro e w2 ⟨rfl, hB2⟩
      have HB2 := Lib.hid (HB1.out.trans (hB2.mono HB1.out.size))
      have z9 := (HZ.out.below hB2 hwz).cell (j := 9) rfl
      clear hB2
      cases lz with
      | true =>
        go_wp2_with fail
        refine (joined_new [[[123], decTx n, [125]].flatten, [63]] 9 w2 (by simp) (by have := hln; simp; omega)).mono ?_
        rintro e w9 ⟨rfl, hB9⟩
        go_wp2_with fail
        go_ret
        refine ⟨?_, HB2.out.trans (hB9.mono HB2.out.size)⟩
        rw [signTx_eq, HS.out]; simp
      | false =>
        go_wp2_with fail
        go_ret
        refine ⟨?_, HB2.out⟩
        rw [signTx_eq, HS.out]; simp
    · have d1 : (mx == (n : Int)) = false := by simpa using h1
      by_cases h2 : mx < 0
      · have HS := Lib.hid (show signBare 10 n mx = [123] ++ decTx n ++ [44, 125] by simp [signBare, h1, h2])
        clear h1
        go_wp2_with fail
        refine (joined_new [[123], decTx n, [44, 125]] 9 w1 (by simp) (by simp; omega)).mono ?_
        rintro e w2 ⟨rfl, hB2⟩
        have HB2 := Lib.hid (HB1.out.trans (hB2.mono HB1.out.size))
        have z9 := (HZ.out.below hB2 hwz).cell (j := 9) rfl
        clear hB2
        cases lz with
        | true =>
          go_wp2_with fail
          refine (joined_new [[[123], decTx n, [44, 125]].flatten, [63]] 9 w2 (by simp) (by have := hln; simp; omega)).mono ?_
          rintro e w9 ⟨rfl, hB9⟩
          go_wp2_with fail
          go_ret
          refine ⟨?_, HB2.out.trans (hB9.mono HB2.out.size)⟩
          rw [signTx_eq, HS.out]; simp
        | false =>
          go_wp2_with fail
          go_ret
          refine ⟨?_, HB2.out⟩
          rw [signTx_eq, HS.out]; simp
      · obtain ⟨m, rfl⟩ : ∃ m : Nat, mx = m := ⟨mx.toNat, by omega⟩
        have HS := Lib.hid (show signBare 10 n m = [123] ++ decTx n ++ [44] ++ decTx m ++ [125] by simp [signBare, h1, h2])
        have hlm := decTx_len m (by omega)
        clear h1
        go_wp2_with fail
        refine (itoa_any m _ (by omega) (HP.out _ HB1.out)).mono ?_
        rintro e w2 ⟨rfl, hB2⟩
        have HB2 := Lib.hid (HB1.out.trans (hB2.mono HB1.out.size))
        have HZ2 := Lib.hid (HZ.out.below hB2 hwz)
        have hwz2 : w.heap.size < w2.heap.size := HZ2.out.lt
        clear hB2
        go_wp2_with fail
        refine (joined_new [[123], decTx n, [44], decTx m, [125]] 9 w2 (by simp) (by simp; omega)).mono ?_
        rintro e w3 ⟨rfl, hB3⟩
        have HB3 := Lib.hid (HB2.out.trans (hB3.mono HB2.out.size))
        have z9 := (HZ2.out.below hB3 hwz2).cell (j := 9) rfl
        clear hB3
        cases lz with
        | true =>
          go_wp2_with fail
          refine (joined_new [[[123], decTx n, [44], decTx m, [125]].flatten, [63]] 9 w3 (by simp) (by have := hln; simp; omega)).mono ?_
          rintro e w9 ⟨rfl, hB9⟩
          go_wp2_with fail
          go_ret
          refine ⟨?_, HB3.out.trans (hB9.mono HB3.out.size)⟩
          rw [signTx_eq, HS.out]; simp
        | false =>
          go_wp2_with fail
          go_ret
          refine ⟨?_, HB3.out⟩
          rw [signTx_eq, HS.out]; simp
end Go.Proofs.YtihbmgpjihgodaaDoor
