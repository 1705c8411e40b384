/- The printer's little parts: joined, code, braced; the document's code. A repeat's sign: printer.sign and the document's repeat. A set's text, in plain words. -/
import Derived.Test.YtihbmgpjihgodaaGreatDoorQPrintSpec
import Derived.Test.YtihbmgpjihgodaaGreatDoorShelf
import Derived.Lib.AppendIntMem
import Derived.Lib.ItoaLen
namespace Go.Proofs.YtihbmgpjihgodaaGreatDoor
open Go Go.RowKit Go.Proofs Go.Shelf

theorem ba_app (a b : List UInt8) : (⟨a.toArray⟩ : ByteArray) ++ ⟨b.toArray⟩ = ⟨(a ++ b).toArray⟩ := by
  apply ByteArray.ext
  simp
theorem join_empty (xs : List (List UInt8)) : Lib.join xs [] = xs.flatten := by
  induction xs with
  | nil => rfl
  | cons x r ih =>
    rw [Lib.join_cons]
    simp [Lib.joinTail]
set_option maxHeartbeats 1000000 in
theorem joined_any (bk c : Nat) (xs : List (List UInt8)) (w : World) (hcells : ∀ (j : Nat) x, xs[j]? = some x → w.cell? ⟨bk, j, none⟩ = some (.string ⟨x.toArray⟩)) (hbk : bk < w.heap.size)
    (hN : xs.length ≤ 140737488355328) (hcap : xs.length ≤ c) (hlen : xs.flatten.length ≤ 140737488355328) :
    Calls Tryz.prog 21 #[.slice (some ⟨bk, 0, none⟩) xs.length c] w fun e w' => e = .returned (.string ⟨xs.flatten.toArray⟩) ∧ Below w.heap.size w w' := by
  have HJ := Tryz.strings_Join bk 0 c (xs.map (fun x => ⟨x.toArray⟩)) ⟨#[]⟩ w (fun j x hx => by
    simp only [List.getElem?_map, Option.map_eq_some_iff] at hx
    obtain ⟨y, hy, rfl⟩ := hx
    rw [Nat.zero_add]
    exact hcells j y hy) hbk (by simpa using hN) (by simpa using hcap) (by
      rw [show ((⟨#[]⟩ : ByteArray)).data.toList = [] from rfl, join_empty]
      simpa [Function.comp_def] using hlen)
  rw [show ((⟨#[]⟩ : ByteArray)).data.toList = [] from rfl, join_empty] at HJ
  have e1 : (xs.map (fun x => (⟨x.toArray⟩ : ByteArray))).map (·.data.toList) = xs := by simp [Function.comp_def]
  rw [e1, List.length_map] at HJ
  generalize xs.length = n at *
  go_enter Tryz.func21, Tryz.ntmps21
  go_wp2_with fail
  refine HJ.mono ?_
  rintro e w' ⟨rfl, hB⟩
  go_wp2_with fail
  go_ret
  exact ⟨rfl, hB⟩

/-- 'joined' of a list that has just been laid. -/
theorem joined_new (xs : List (List UInt8)) (t : TypeId) (w : World) (hN : xs.length ≤ 140737488355328) (hlen : xs.flatten.length ≤ 140737488355328) :
    Calls Tryz.prog 21 #[.slice (some ⟨w.heap.size, 0, none⟩) xs.length xs.length] (w.alloc (.cells (xs.map (fun x => Value.string ⟨x.toArray⟩)).toArray t)) fun e w' =>
      e = .returned (.string ⟨xs.flatten.toArray⟩) ∧ Below w.heap.size w w' := by
  refine (joined_any w.heap.size xs.length xs _ (fun j x hx => ?_) (by simp) hN (Nat.le_refl _) hlen).mono ?_
  · exact (Blk.new w _ t).cell (by simp [hx])
  · rintro e w' ⟨rfl, hB⟩
    exact ⟨rfl, ((Below.refl _ w).alloc (Nat.le_refl _) _).trans (hB.mono (by simp))⟩
theorem hexTx_len (k : Nat) : ∀ n, n < 16 ^ (k + 1) → (hexTx n).length ≤ k + 1 := by
  induction k with
  | zero => intro n h; rw [hexTx_lt (by simpa using h)]; simp
  | succ k ih =>
    intro n h
    by_cases h1 : n < 16
    · rw [hexTx_lt h1]; simp
    · rw [hexTx_ge h1]
      have := ih (n / 16) (by rw [Nat.pow_succ] at h; omega)
      simp; omega
theorem codeTx_len (c : Int) (h : c < 2147483648) : (codeTx c).length ≤ 12 := by
  have := hexTx_len 7 c.toNat (by omega)
  unfold codeTx
  simp; omega

set_option maxHeartbeats 1000000 in
theorem printer_code (c : Int) (w : World) (h0 : 0 ≤ c) (hn : c < 2147483648) (hT : Bru w) :
    Calls Tryz.prog 41 #[.int .i32 c] w fun e w' => e = .returned (.string ⟨(codeTx c).toArray⟩) ∧ Below w.heap.size w w' := by
  obtain ⟨n, rfl⟩ : ∃ n : Nat, c = n := ⟨c.toNat, by omega⟩
  have hl := hexTx_len 7 n (by omega)
  go_enter Tryz.func41, Tryz.ntmps41
  go_wp2_with fail
  refine (FormatInt16 n w (by omega) hT).mono ?_
  rintro e w1 ⟨rfl, hB⟩
  go_wp2_with fail
  refine (joined_new [[92, 120, 123], hexTx n, [125]] 9 w1 (by simp) (by simp; omega)).mono ?_
  rintro e w2 ⟨rfl, hB2⟩
  go_wp2_with fail
  go_ret
  refine ⟨?_, below_then hB hB2⟩
  simp [codeTx]
/-- A text between brackets. -/
theorem bracedTx_yes (s : List UInt8) : bracedTx s true = [40, 63, 58] ++ s ++ [41] := rfl
set_option maxHeartbeats 1000000 in
theorem printer_braced (s : List UInt8) (m : Bool) (w : World) (hs : s.length ≤ 140737488355000) :
    Calls Tryz.prog 17 #[.string ⟨s.toArray⟩, .bool m] w fun e w' => e = .returned (.string ⟨(bracedTx s m).toArray⟩) ∧ Below w.heap.size w w' := by
  cases m with
  | true =>
    go_enter Tryz.func17, Tryz.ntmps17
    go_wp2_with fail
    refine (joined_new [[40, 63, 58], s, [41]] 9 w (by simp) (by simp; omega)).mono ?_
    rintro e w2 ⟨rfl, hB2⟩
    go_wp2_with fail
    go_ret
    refine ⟨?_, hB2⟩
    rw [bracedTx_yes]
    simp
  | false =>
    go_enter Tryz.func17, Tryz.ntmps17
    go_wp2_with fail
    go_ret
    exact ⟨rfl, Below.refl _ _⟩
end Go.Proofs.YtihbmgpjihgodaaGreatDoor

namespace Go.Proofs.YtihbmgpjihgodaaGreatDoor
open Go Go.RowKit Go.Proofs Go.Shelf

theorem below_grow (w : World) (k : Nat) (os : Array Obj) : Below w.heap.size w (Sort.grow (w.drewN k) os) := by
  refine ⟨rfl, rfl, rfl, ?_, fun j hj => ?_⟩
  · show w.heap.size ≤ (w.heap ++ os).size; rw [Array.size_append]; omega
  · show (w.heap ++ os)[j]? = w.heap[j]?
    rw [Array.getElem?_append_left hj]
abbrev Pow (w : World) : Prop := Lib.TabIs Tryz.prog w "internal/strconv.uint64pow10" .u64 Lib.pow10Tab
theorem itoa_any (n : Nat) (w : World) (hn : n ≤ 1000) (hP : Pow w) :
    Calls Tryz.prog 45 #[.int .i64 n] w fun e w' => e = .returned (.string ⟨(decTx n).toArray⟩) ∧ Below w.heap.size w w' := by
  refine (Tryz.strconv_Itoa n (by omega) (by omega) w hP).mono ?_
  rintro e w' ⟨rfl, k, os, rfl⟩
  refine ⟨?_, below_grow w k os⟩
  rw [Lib.itoa_nonneg]
theorem decTx_len (n : Nat) (h : n ≤ 1000) : (decTx n).length ≤ 20 := by
  rw [Lib.decDigits_length]
  exact Lib.nDigits_le20 n (by omega)
/-- A tree's ten cells. -/
abbrev cellsT (op : Int) (ka : Option Addr) (kn kc : Nat) (rune : Int) (sa : Option Addr) (sn sc : Nat) (pl cap : Int) (name : ByteArray) (mn mx : Int) (lz : Bool) : List Value :=
  [.int .i64 op, .slice ka kn kc, .int .i32 rune, .slice sa sn sc, .int .i64 pl, .int .i64 cap, .string name, .int .i64 mn, .int .i64 mx, .bool lz]
/-- The sign ahead of the lazy mark. -/
def signBare (op mn mx : Int) : List UInt8 :=
  if op = 7 then [42] else if op = 8 then [43] else if op = 9 then [63] else if mx = mn then [123] ++ decTx mn.toNat ++ [125] else if mx < 0 then [123] ++ decTx mn.toNat ++ [44, 125] else [123] ++ decTx mn.toNat ++ [44] ++ decTx mx.toNat ++ [125]
theorem signTx_eq (op mn mx : Int) (lz : Bool) : signTx op mn mx lz = signBare op mn mx ++ (if lz then [63] else []) := rfl

set_option maxRecDepth 100000 in
set_option maxHeartbeats 4000000 in
theorem printer_sign (op : Int) (ka : Option Addr) (kn kc : Nat) (rune : Int) (sa : Option Addr) (sn sc : Nat) (pl cap : Int) (name : ByteArray) (n : Nat) (mx : Int) (lz : Bool) (w : World)
    (ho : op = 7 ∨ op = 8 ∨ op = 9 ∨ op = 10) (hn : n ≤ 1000) (hx : -1 ≤ mx ∧ mx ≤ 1000) (hP : Pow w) :
    Calls Tryz.prog 23 #[.agg (cellsT op ka kn kc rune sa sn sc pl cap name n mx lz).toArray] w fun e w' => e = .returned (.string ⟨(signTx op n mx lz).toArray⟩) ∧ Below w.heap.size w w' := by
  have hPB := Lib.tabBelow_of_tabIs hP
  have HP := Lib.hid hPB
  clear hP hPB
  have B0 : ∀ o, Below w.heap.size w (w.alloc o) := fun o => (Below.refl _ w).alloc (Nat.le_refl _) o
  have HB0 := Lib.hid B0
  clear B0
  rcases ho with rfl | rfl | rfl | rfl
  · go_enter Tryz.func23, Tryz.ntmps23
    go_wp2_with fail
    refine (itoa_any n _ hn (HP.out _ (HB0.out _))).mono ?_
    rintro e w1 ⟨rfl, hB⟩
    have HB1 := Lib.hid ((HB0.out _).trans (hB.mono (by simp)))
    have hz := (Blk.new w (cellsT 7 ka kn kc rune sa sn sc pl cap name n mx lz) 27).below hB (by simp)
    have z0 := hz.cell (j := 0) rfl
    have z9 := hz.cell (j := 9) rfl
    clear hB hz
    cases lz with
    | true =>
      go_wp2_with fail
      refine (joined_new [[42], [63]] 9 w1 (by simp) (by simp)).mono ?_
      rintro e w2 ⟨rfl, hB2⟩
      go_wp2_with fail
      go_ret
      exact ⟨rfl, HB1.out.trans (hB2.mono HB1.out.size)⟩
    | false =>
      go_wp2_with fail
      go_ret
      exact ⟨rfl, HB1.out⟩
  · go_enter Tryz.func23, Tryz.ntmps23
    go_wp2_with fail
    refine (itoa_any n _ hn (HP.out _ (HB0.out _))).mono ?_
    rintro e w1 ⟨rfl, hB⟩
    have HB1 := Lib.hid ((HB0.out _).trans (hB.mono (by simp)))
    have hz := (Blk.new w (cellsT 8 ka kn kc rune sa sn sc pl cap name n mx lz) 27).below hB (by simp)
    have z0 := hz.cell (j := 0) rfl
    have z9 := hz.cell (j := 9) rfl
    clear hB hz
    cases lz with
    | true =>
      go_wp2_with fail
      refine (joined_new [[43], [63]] 9 w1 (by simp) (by simp)).mono ?_
      rintro e w2 ⟨rfl, hB2⟩
      go_wp2_with fail
      go_ret
      exact ⟨rfl, HB1.out.trans (hB2.mono HB1.out.size)⟩
    | false =>
      go_wp2_with fail
      go_ret
      exact ⟨rfl, HB1.out⟩
  · go_enter Tryz.func23, Tryz.ntmps23
    go_wp2_with fail
    refine (itoa_any n _ hn (HP.out _ (HB0.out _))).mono ?_
    rintro e w1 ⟨rfl, hB⟩
    have HB1 := Lib.hid ((HB0.out _).trans (hB.mono (by simp)))
    have hz := (Blk.new w (cellsT 9 ka kn kc rune sa sn sc pl cap name n mx lz) 27).below hB (by simp)
    have z0 := hz.cell (j := 0) rfl
    have z9 := hz.cell (j := 9) rfl
    clear hB hz
    cases lz with
    | true =>
      go_wp2_with fail
      refine (joined_new [[63], [63]] 9 w1 (by simp) (by simp)).mono ?_
      rintro e w2 ⟨rfl, hB2⟩
      go_wp2_with fail
      go_ret
      exact ⟨rfl, HB1.out.trans (hB2.mono HB1.out.size)⟩
    | false =>
      go_wp2_with fail
      go_ret
      exact ⟨rfl, HB1.out⟩
  · go_enter Tryz.func23, Tryz.ntmps23
    go_wp2_with fail
    refine (itoa_any n _ hn (HP.out _ (HB0.out _))).mono ?_
    rintro e w1 ⟨rfl, hB⟩
    have HB1 := Lib.hid ((HB0.out _).trans (hB.mono (by simp)))
    have hz := (Blk.new w (cellsT 10 ka kn kc rune sa sn sc pl cap name n mx lz) 27).below hB (by simp)
    have HZ := Lib.hid hz
    have z0 := hz.cell (j := 0) rfl
    have z7 := hz.cell (j := 7) rfl
    have z8 := hz.cell (j := 8) rfl
    have hln := decTx_len n hn
    have hwz : w.heap.size < w1.heap.size := hz.lt
    clear hB hz
    by_cases h1 : mx = n
    · have HS := Lib.hid (show signBare 10 n mx = [123] ++ decTx n ++ [125] by simp [signBare, h1])
      have d1 : (mx == (n : Int)) = true := by simpa using h1
      have HL := Lib.hid h1
      subst h1
      go_wp2_with fail
      refine (joined_new [[123], decTx n, [125]] 9 w1 (by simp) (by simp; omega)).mono ?_
      rintro e w2 ⟨rfl, hB2⟩
      have HB2 := Lib.hid (HB1.out.trans (hB2.mono HB1.out.size))
      have z9 := (HZ.out.below hB2 hwz).cell (j := 9) rfl
      clear hB2
      cases lz with
      | true =>
        go_wp2_with fail
        refine (joined_new [[[123], decTx n, [125]].flatten, [63]] 9 w2 (by simp) (by have := hln; simp; omega)).mono ?_
        rintro e w9 ⟨rfl, hB9⟩
        go_wp2_with fail
        go_ret
        refine ⟨?_, HB2.out.trans (hB9.mono HB2.out.size)⟩
        rw [signTx_eq, HS.out]; simp
      | false =>
        go_wp2_with fail
        go_ret
        refine ⟨?_, HB2.out⟩
        rw [signTx_eq, HS.out]; simp
    · have d1 : (mx == (n : Int)) = false := by simpa using h1
      by_cases h2 : mx < 0
      · have HS := Lib.hid (show signBare 10 n mx = [123] ++ decTx n ++ [44, 125] by simp [signBare, h1, h2])
        clear h1
        go_wp2_with fail
        refine (joined_new [[123], decTx n, [44, 125]] 9 w1 (by simp) (by simp; omega)).mono ?_
        rintro e w2 ⟨rfl, hB2⟩
        have HB2 := Lib.hid (HB1.out.trans (hB2.mono HB1.out.size))
        have z9 := (HZ.out.below hB2 hwz).cell (j := 9) rfl
        clear hB2
        cases lz with
        | true =>
          go_wp2_with fail
          refine (joined_new [[[123], decTx n, [44, 125]].flatten, [63]] 9 w2 (by simp) (by have := hln; simp; omega)).mono ?_
          rintro e w9 ⟨rfl, hB9⟩
          go_wp2_with fail
          go_ret
          refine ⟨?_, HB2.out.trans (hB9.mono HB2.out.size)⟩
          rw [signTx_eq, HS.out]; simp
        | false =>
          go_wp2_with fail
          go_ret
          refine ⟨?_, HB2.out⟩
          rw [signTx_eq, HS.out]; simp
      · obtain ⟨m, rfl⟩ : ∃ m : Nat, mx = m := ⟨mx.toNat, by omega⟩
        have HS := Lib.hid (show signBare 10 n m = [123] ++ decTx n ++ [44] ++ decTx m ++ [125] by simp [signBare, h1, h2])
        have hlm := decTx_len m (by omega)
        clear h1
        go_wp2_with fail
        refine (itoa_any m _ (by omega) (HP.out _ HB1.out)).mono ?_
        rintro e w2 ⟨rfl, hB2⟩
        have HB2 := Lib.hid (HB1.out.trans (hB2.mono HB1.out.size))
        have HZ2 := Lib.hid (HZ.out.below hB2 hwz)
        have hwz2 : w.heap.size < w2.heap.size := HZ2.out.lt
        clear hB2
        go_wp2_with fail
        refine (joined_new [[123], decTx n, [44], decTx m, [125]] 9 w2 (by simp) (by simp; omega)).mono ?_
        rintro e w3 ⟨rfl, hB3⟩
        have HB3 := Lib.hid (HB2.out.trans (hB3.mono HB2.out.size))
        have z9 := (HZ2.out.below hB3 hwz2).cell (j := 9) rfl
        clear hB3
        cases lz with
        | true =>
          go_wp2_with fail
          refine (joined_new [[[123], decTx n, [44], decTx m, [125]].flatten, [63]] 9 w3 (by simp) (by have := hln; simp; omega)).mono ?_
          rintro e w9 ⟨rfl, hB9⟩
          go_wp2_with fail
          go_ret
          refine ⟨?_, HB3.out.trans (hB9.mono HB3.out.size)⟩
          rw [signTx_eq, HS.out]; simp
        | false =>
          go_wp2_with fail
          go_ret
          refine ⟨?_, HB3.out⟩
          rw [signTx_eq, HS.out]; simp
end Go.Proofs.YtihbmgpjihgodaaGreatDoor

namespace Go.Proofs.YtihbmgpjihgodaaGreatDoor
open Go Go.RowKit Go.Proofs Go.Shelf

def rangeTx (x : Int × Int) : List UInt8 := codeTx x.1 ++ if x.1 < x.2 then [45] ++ codeTx x.2 else []
theorem setTx_eq (l : List (Int × Int)) : setTx l = [91] ++ l.flatMap rangeTx ++ [93] := rfl
def SetFine (rs : List (Int × Int)) : Prop := ∀ r ∈ rs, 0 ≤ r.1 ∧ r.1 ≤ r.2 ∧ r.2 ≤ 1114111
theorem rangeTx_len {x : Int × Int} (h : 0 ≤ x.1 ∧ x.1 ≤ x.2 ∧ x.2 ≤ 1114111) : (rangeTx x).length ≤ 25 := by
  have h1 := codeTx_len x.1 (by omega)
  have h2 := codeTx_len x.2 (by omega)
  unfold rangeTx
  split <;> simp <;> omega
theorem rangesTx_take {rs : List (Int × Int)} (k : Nat) (hk : k < rs.length) : (rs.take (k + 1)).flatMap rangeTx = (rs.take k).flatMap rangeTx ++ rangeTx rs[k] := by
  rw [List.take_succ_eq_append_getElem hk, List.flatMap_append]; simp only [List.flatMap_cons, List.flatMap_nil, List.append_nil]
end Go.Proofs.YtihbmgpjihgodaaGreatDoor
