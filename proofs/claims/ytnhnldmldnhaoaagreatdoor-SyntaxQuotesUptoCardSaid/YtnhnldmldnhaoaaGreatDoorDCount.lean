/- The counted repeat: scan.Count and the document's. The document's counted repeat. What stands behind a backslash and x: scan.esc.code. The reader's next rune, at any byte. Flags: one bit laid, another asked. The reader of patterns: its text, its flags, giving up. The trees that the reader of patterns makes. -/
import Derived.Test.YtnhnldmldnhaoaaGreatDoorDScan1
import Derived.Deep.RegionWith
import Derived.Laws.RangeAny
import Derived.Lib.TrimU
import Derived.Shelf.Strings.MapAny
import Derived.Shelf.Unicode.DecodeLastEight
import Derived.Test.YtnhnldmldnhaoaaGreatDoorDBase
import Derived.Test.YtnhnldmldnhaoaaGreatDoorDSetsOps
import Derived.RegionDies
namespace Go.Proofs.YtnhnldmldnhaoaaGreatDoor
open Go Go.RowKit Go.Proofs

/-- A counted repeat at a place: least, most, the place behind. -/
def countP (s : ByteArray) (p : Nat) : Option (Int × Int × Nat) :=
  if stands s p [123] then
    if runP s (p + 1) digs = [] then none
    else if stands s (p + 1 + (runP s (p + 1) digs).length) [125] then some (numP 10 1000 0 (runP s (p + 1) digs), numP 10 1000 0 (runP s (p + 1) digs), p + 1 + (runP s (p + 1) digs).length + 1)
    else if stands s (p + 1 + (runP s (p + 1) digs).length) [44, 125] then some (numP 10 1000 0 (runP s (p + 1) digs), -1, p + 1 + (runP s (p + 1) digs).length + 2)
    else if stands s (p + 1 + (runP s (p + 1) digs).length) [44] then
      if runP s (p + 1 + (runP s (p + 1) digs).length + 1) digs = [] then none
      else if stands s (p + 1 + (runP s (p + 1) digs).length + 1 + (runP s (p + 1 + (runP s (p + 1) digs).length + 1) digs).length) [125] then
        some (numP 10 1000 0 (runP s (p + 1) digs), numP 10 1000 0 (runP s (p + 1 + (runP s (p + 1) digs).length + 1) digs), p + 1 + (runP s (p + 1) digs).length + 1 + (runP s (p + 1 + (runP s (p + 1) digs).length + 1) digs).length + 1)
      else none
    else none
  else none

def countV : Option (Int × Int × Nat) → Value
  | none => .tuple #[.int .i64 0, .int .i64 0, .int .i64 0, .bool false]
  | some (a, b, n) => .tuple #[.int .i64 a, .int .i64 b, .int .i64 (n : Int), .bool true]

theorem runP_digs (s : ByteArray) (p : Nat) : ∀ c ∈ runP s p digs, digs.contains c = true := takeWhile_yes _ _
theorem digs_ascii : ∀ (j : Nat) (c : UInt8), digs[j]? = some c → c.toNat < 128 := ascii_of_all (by decide)

/-- 'number' of a run of digits. -/
theorem scan_number_digs (s : ByteArray) (p : Nat) (most : Int) (w : World) (hs : s.size ≤ 140737488355328) (hm : 0 ≤ most ∧ most ≤ 10000000) :
    Calls Tryz.prog 97 #[.string ⟨(runP s p digs).toArray⟩, .int .i64 10, .int .i64 most] w fun e w' => e = .returned (.int .i64 (numP 10 most 0 (runP s p digs))) ∧ Below w.heap.size w w' := by
  have hd := runP_digs s p
  have hl := lower_digs hd
  refine (scan_number ⟨(runP s p digs).toArray⟩ 10 most w ?_ (by omega) hm ?_ ?_).mono fun e w' h => ?_
  · show (runP s p digs).toArray.size ≤ _
    have := runP_le s p digs
    simp; omega
  · intro c hc
    simp only [hl] at hc
    exact .inl ((digs_iff c).1 (hd c hc))
  · intro j b hb
    have := (digs_iff b).1 (hd b (List.mem_of_getElem? (by simpa using hb)))
    omega
  · simpa [hl] using h

theorem scan_run_digs (b : Nat) (s : ByteArray) (p : Nat) (rest : List Value) (t : TypeId) (w : World) (h : Rd w b s p rest t) (hp : p ≤ s.size) (hs : s.size ≤ 1000000000000000) :
    Calls Tryz.prog 96 #[.pointer (some ⟨b, 0, none⟩), .string ⟨#[48, 49, 50, 51, 52, 53, 54, 55, 56, 57]⟩] w fun e w' => e = .returned (.string ⟨(runP s p digs).toArray⟩) ∧
      Rd w' b s (p + (runP s p digs).length) rest t ∧ w.grownBy w' (some b) :=
  scan_run b s ⟨#[48, 49, 50, 51, 52, 53, 54, 55, 56, 57]⟩ p rest t w h hp hs (by decide) digs_ascii
theorem isEmpty_no {l : List UInt8} (h : ¬ l = []) : l.isEmpty = false := by cases l <;> simp_all

set_option maxHeartbeats 1000000 in
theorem scan_Count (s : ByteArray) (p : Nat) (w : World) (hp : p ≤ s.size) (hs : s.size ≤ 140737488355328) :
    Calls Tryz.prog 76 #[.string s, .int .i64 p] w fun e w' => e = .returned (countV (countP s p)) ∧ Below w.heap.size w w' := by
  have hs' : s.size ≤ 1000000000000000 := by omega
  have R0 := Lib.hid (show Rd (w.alloc (.cells #[.string s, .int .i64 p] 140)) w.heap.size s p [] 140 from Blk.new w [.string s, .int .i64 p] 140)
  have HP := Lib.hid hp
  go_enter Tryz.func76, Tryz.ntmps76
  go_wp2_with fail
  by_cases c1 : stands s p [123] = true
  · have l1 := Lib.hid (stands_le (p := ⟨#[123]⟩) hp c1)
    refine (scan_has_yes _ s _ p _ _ _ R0.out hp hs' c1).mono ?_
    rintro e w1 ⟨rfl, hR, hG⟩
    have R1 := Lib.hid hR; have G1 := Lib.hid hG; clear hR hG
    go_wp2_with fail
    refine (scan_run_digs _ s (p + 1) _ _ _ R1.out l1.out hs').mono ?_
    rintro e w2 ⟨rfl, hR, hG⟩
    have R2 := Lib.hid hR; have G2 := Lib.hid (grownBy_trans G1.out hG); clear hR hG
    have l2 := Lib.hid (runP_le_size s (p + 1) digs l1.out)
    go_wp2_with fail
    refine (scan_number_digs s (p + 1) 1000 _ hs (by omega)).mono ?_
    rintro e w3 ⟨rfl, hB⟩
    have R3 := Lib.hid (show Rd w3 w.heap.size s (p + 1 + (runP s (p + 1) digs).length) [] 140 from Blk.below R2.out hB R2.out.lt); have G3 := Lib.hid (grownBy_trans G2.out (grownBy_below hB _)); clear hB
    by_cases c2 : runP s (p + 1) digs = []
    · have HF := Lib.hid (show countP s p = none by unfold countP; rw [if_pos c1, if_pos c2])
      rw [c2]
      go_wp2_with fail
      refine bodyPost_ret (v := .tuple #[.int .i64 0, .int .i64 0, .int .i64 0, .bool false]) (by simp [results, Tryz.results76, go_sem]) rfl ⟨?_, below_local G3.out⟩
      rw [HF.out]; rfl
    · have e2 := isEmpty_no c2
      go_wp2_with fail
      by_cases c3 : stands s (p + 1 + (runP s (p + 1) digs).length) [125] = true
      · have HF := Lib.hid (show countP s p = _ by unfold countP; rw [if_pos c1, if_neg c2, if_pos c3])
        refine (scan_has_yes _ s _ _ _ _ _ R3.out l2.out hs' c3).mono ?_
        rintro e w4 ⟨rfl, hR, hG⟩
        have R4 := Lib.hid hR; have G4 := Lib.hid (grownBy_trans G3.out hG); clear hR hG
        have h1 := Rd.c1 R4.out
        go_wp2_with fail
        go_quiet (fail)
        go_wp2_with fail
        refine bodyPost_ret (v := .tuple #[.int .i64 (numP 10 1000 0 (runP s (p + 1) digs)), .int .i64 (numP 10 1000 0 (runP s (p + 1) digs)), .int .i64 (p + 1 + (runP s (p + 1) digs).length + 1), .bool true]) (by simp [results, Tryz.results76, go_sem]) rfl ⟨?_, below_local (grownBy_trans G4.out (grownBy_drewN _ _ _))⟩
        rw [HF.out]; rfl
      · have c3 : stands s (p + 1 + (runP s (p + 1) digs).length) [125] = false := by simpa using c3
        refine (scan_has_no _ s _ _ _ _ _ R3.out l2.out c3).mono ?_
        rintro e w4 ⟨rfl, hR, hG⟩
        have R4 := Lib.hid hR; have G4 := Lib.hid (grownBy_trans G3.out hG); clear hR hG
        go_wp2_with fail
        by_cases c4 : stands s (p + 1 + (runP s (p + 1) digs).length) [44, 125] = true
        · have HF := Lib.hid (show countP s p = _ by unfold countP; rw [if_pos c1, if_neg c2, if_neg (by simp [c3]), if_pos c4])
          refine (scan_has_yes _ s _ _ _ _ _ R4.out l2.out hs' c4).mono ?_
          rintro e w5 ⟨rfl, hR, hG⟩
          have R5 := Lib.hid hR; have G5 := Lib.hid (grownBy_trans G4.out hG); clear hR hG
          have h1 := Rd.c1 R5.out
          go_wp2_with fail
          go_quiet (fail)
          go_wp2_with fail
          refine bodyPost_ret (v := .tuple #[.int .i64 (numP 10 1000 0 (runP s (p + 1) digs)), .int .i64 (-1), .int .i64 (p + 1 + (runP s (p + 1) digs).length + 2), .bool true]) (by simp [results, Tryz.results76, go_sem]) rfl ⟨?_, below_local (grownBy_trans G5.out (grownBy_drewN _ _ _))⟩
          rw [HF.out]; rfl
        · have c4 : stands s (p + 1 + (runP s (p + 1) digs).length) [44, 125] = false := by simpa using c4
          refine (scan_has_no _ s _ _ _ _ _ R4.out l2.out c4).mono ?_
          rintro e w5 ⟨rfl, hR, hG⟩
          have R5 := Lib.hid hR; have G5 := Lib.hid (grownBy_trans G4.out hG); clear hR hG
          go_wp2_with fail
          by_cases c5 : stands s (p + 1 + (runP s (p + 1) digs).length) [44] = true
          · have l5 := Lib.hid (stands_le (p := ⟨#[44]⟩) l2.out c5)
            refine (scan_has_yes _ s _ _ _ _ _ R5.out l2.out hs' c5).mono ?_
            rintro e w6 ⟨rfl, hR, hG⟩
            have R6 := Lib.hid hR; have G6 := Lib.hid (grownBy_trans G5.out hG); clear hR hG
            go_wp2_with fail
            refine (scan_run_digs _ s (p + 1 + (runP s (p + 1) digs).length + 1) _ _ _ R6.out l5.out hs').mono ?_
            rintro e w7 ⟨rfl, hR, hG⟩
            have R7 := Lib.hid hR; have G7 := Lib.hid (grownBy_trans G6.out hG); clear hR hG
            have l7 := Lib.hid (runP_le_size s (p + 1 + (runP s (p + 1) digs).length + 1) digs l5.out)
            by_cases c6 : runP s (p + 1 + (runP s (p + 1) digs).length + 1) digs = []
            · have HF := Lib.hid (show countP s p = none by unfold countP; rw [if_pos c1, if_neg c2, if_neg (by simp [c3]), if_neg (by simp [c4]), if_pos c5, if_pos c6])
              rw [c6]
              go_wp2_with fail
              refine bodyPost_ret (v := .tuple #[.int .i64 0, .int .i64 0, .int .i64 0, .bool false]) (by simp [results, Tryz.results76, go_sem]) rfl ⟨?_, below_local G7.out⟩
              rw [HF.out]; rfl
            · have e6 := isEmpty_no c6
              go_wp2_with fail
              by_cases c7 : stands s (p + 1 + (runP s (p + 1) digs).length + 1 + (runP s (p + 1 + (runP s (p + 1) digs).length + 1) digs).length) [125] = true
              · have HF := Lib.hid (show countP s p = _ by unfold countP; rw [if_pos c1, if_neg c2, if_neg (by simp [c3]), if_neg (by simp [c4]), if_pos c5, if_neg c6, if_pos c7])
                refine (scan_has_yes _ s _ _ _ _ _ R7.out l7.out hs' c7).mono ?_
                rintro e w8 ⟨rfl, hR, hG⟩
                have R8 := Lib.hid hR; have G8 := Lib.hid (grownBy_trans G7.out hG); clear hR hG
                have h1 := Rd.c1 R8.out
                go_wp2_with fail
                go_region_with (go_at_call 97; refine (scan_number_digs s (p + 1 + (runP s (p + 1) digs).length + 1) 1000 _ hs (by omega)).mono ?_; rintro e w9 ⟨rfl, hB⟩; have h9 := (hB.cell (p := ⟨w.heap.size, 1, none⟩) R8.out.lt).trans h1; have HB9 := Lib.hid (Below.trans (below_drewN (Below.refl _ w8) 1) hB); clear hB)
                all_goals
                  go_wp2_with fail
                  refine bodyPost_ret (v := .tuple #[.int .i64 (numP 10 1000 0 (runP s (p + 1) digs)), .int .i64 (numP 10 1000 0 (runP s (p + 1 + (runP s (p + 1) digs).length + 1) digs)), .int .i64 (p + 1 + (runP s (p + 1) digs).length + 1 + (runP s (p + 1 + (runP s (p + 1) digs).length + 1) digs).length + 1), .bool true]) (by simp [results, Tryz.results76, go_sem]) rfl ⟨?_, below_local (grownBy_trans G8.out (grownBy_below HB9.out _))⟩
                  rw [HF.out]; rfl
              · have HF := Lib.hid (show countP s p = none by unfold countP; rw [if_pos c1, if_neg c2, if_neg (by simp [c3]), if_neg (by simp [c4]), if_pos c5, if_neg c6, if_neg c7])
                have c7 : stands s (p + 1 + (runP s (p + 1) digs).length + 1 + (runP s (p + 1 + (runP s (p + 1) digs).length + 1) digs).length) [125] = false := by simpa using c7
                refine (scan_has_no _ s _ _ _ _ _ R7.out l7.out c7).mono ?_
                rintro e w8 ⟨rfl, hR, hG⟩
                have R8 := Lib.hid hR; have G8 := Lib.hid (grownBy_trans G7.out hG); clear hR hG
                go_wp2_with fail
                refine bodyPost_ret (v := .tuple #[.int .i64 0, .int .i64 0, .int .i64 0, .bool false]) (by simp [results, Tryz.results76, go_sem]) rfl ⟨?_, below_local G8.out⟩
                rw [HF.out]; rfl
          · have HF := Lib.hid (show countP s p = none by unfold countP; rw [if_pos c1, if_neg c2, if_neg (by simp [c3]), if_neg (by simp [c4]), if_neg c5])
            have c5 : stands s (p + 1 + (runP s (p + 1) digs).length) [44] = false := by simpa using c5
            refine (scan_has_no _ s _ _ _ _ _ R5.out l2.out c5).mono ?_
            rintro e w6 ⟨rfl, hR, hG⟩
            have R6 := Lib.hid hR; have G6 := Lib.hid (grownBy_trans G5.out hG); clear hR hG
            go_wp2_with fail
            refine bodyPost_ret (v := .tuple #[.int .i64 0, .int .i64 0, .int .i64 0, .bool false]) (by simp [results, Tryz.results76, go_sem]) rfl ⟨?_, below_local G6.out⟩
            rw [HF.out]; rfl
  · have HF := Lib.hid (show countP s p = none by unfold countP; rw [if_neg c1])
    have c1 : stands s p [123] = false := by simpa using c1
    refine (scan_has_no _ s _ p _ _ _ R0.out hp c1).mono ?_
    rintro e w1 ⟨rfl, hR, hG⟩
    have R1 := Lib.hid hR; have G1 := Lib.hid hG; clear hR hG
    go_wp2_with fail
    refine (scan_run_digs _ s p _ _ _ R1.out hp hs').mono ?_
    rintro e w2 ⟨rfl, hR, hG⟩
    have G2 := Lib.hid (grownBy_trans G1.out hG); clear hR hG
    go_wp2_with fail
    refine (scan_number_digs s p 1000 _ hs (by omega)).mono ?_
    rintro e w3 ⟨rfl, hB⟩
    have G3 := Lib.hid (grownBy_trans G2.out (grownBy_below hB _)); clear hB
    go_wp2_with fail
    refine bodyPost_ret (v := .tuple #[.int .i64 0, .int .i64 0, .int .i64 0, .bool false]) (by simp [results, Tryz.results76, go_sem]) rfl ⟨?_, below_local G3.out⟩
    rw [HF.out]; rfl
end Go.Proofs.YtnhnldmldnhaoaaGreatDoor

namespace Go.Proofs.YtnhnldmldnhaoaaGreatDoor
open Go Go.RowKit Go.Proofs

theorem stands_one (s : ByteArray) (i : Nat) (c : UInt8) : stands s i [c] = true ↔ ∃ h : i < s.size, s[i] = c := by
  unfold stands Lib.hasPrefix
  rw [List.isPrefixOf_iff_prefix]
  constructor
  · intro h
    have h1 := h.length_le
    simp at h1
    refine ⟨by omega, ?_⟩
    have h2 := h.getElem (i := 0) (by simp)
    simp only [List.getElem_cons_zero, List.getElem_drop, Nat.add_zero] at h2
    have h3 := getElem_toList s i (by omega)
    exact Option.some.inj (h3.symm.trans ((List.getElem?_eq_getElem (by simp; omega)).trans (congrArg some h2.symm)))
  · rintro ⟨h, rfl⟩
    refine ⟨(s.data.toList.drop (i + 1)), ?_⟩
    have h3 := getElem_toList s i h
    rw [List.getElem?_eq_getElem (by simpa using h)] at h3
    rw [← Option.some.inj h3, List.singleton_append, ← List.drop_eq_getElem_cons]
end Go.Proofs.YtnhnldmldnhaoaaGreatDoor

namespace Go.Proofs.YtnhnldmldnhaoaaGreatDoor
open Go Go.RowKit Go.Proofs

def hexs : List UInt8 := [48, 49, 50, 51, 52, 53, 54, 55, 56, 57, 97, 98, 99, 100, 101, 102, 65, 66, 67, 68, 69, 70]
/-- The number of a list of hexadecimal digits. -/
def hexN (l : List UInt8) : Int := numP 16 1114111 0 (Lib.toLowerA l)
/-- The braced number: what it is, whether it is one. -/
def bracedN (s : ByteArray) (p : Nat) : Int × Bool × Nat :=
  (hexN (runP s (p + 1) hexs), !(runP s (p + 1) hexs).isEmpty && stands s (p + 1 + (runP s (p + 1) hexs).length) [125] && decide (hexN (runP s (p + 1) hexs) ≤ 1114111),
    if !(runP s (p + 1) hexs).isEmpty && stands s (p + 1 + (runP s (p + 1) hexs).length) [125] then p + 1 + (runP s (p + 1) hexs).length + 1 else p + 1 + (runP s (p + 1) hexs).length)

end Go.Proofs.YtnhnldmldnhaoaaGreatDoor

namespace Go.Proofs.YtnhnldmldnhaoaaGreatDoor
open Go Go.RowKit Go.Proofs

/-- The library's two tables lie where they lay. -/
abbrev Tabs (w : World) : Prop := Lib.Utf8Tabs 0 1 w

theorem cell_lt {w : World} {b j : Nat} {v : Value} (h : w.cell? ⟨b, j, none⟩ = some v) : b < w.heap.size := by
  rcases Nat.lt_or_ge b w.heap.size with h' | h'
  · exact h'
  · simp [World.cell?, Array.getElem?_eq_none h'] at h
theorem Tabs.lt {w : World} (h : Tabs w) : 0 < w.heap.size ∧ 1 < w.heap.size :=
  ⟨cell_lt (h.1 0 (by omega)), cell_lt (h.2 0 (by omega)).1⟩
theorem Tabs.of_blocks {w w' : World} (h : Tabs w) (h0 : w'.heap[0]? = w.heap[0]?) (h1 : w'.heap[1]? = w.heap[1]?) : Tabs w' := by
  refine ⟨fun c hc => ?_, fun i hi => ?_⟩
  · rw [← h.1 c hc]; simp only [World.cell?, h0]
  · rw [← (h.2 i hi).1, ← (h.2 i hi).2]; simp only [World.cell?, h1]; exact ⟨trivial, trivial⟩
theorem Tabs.below {w w' : World} (h : Tabs w) (hb : Below w.heap.size w w') : Tabs w' := h.of_blocks (hb.block _ h.lt.1) (hb.block _ h.lt.2)
theorem Tabs.grown {w w' : World} {b : Nat} (h : Tabs w) (hg : w.grownBy w' (some b)) (h0 : 0 ≠ b) (h1 : 1 ≠ b) : Tabs w' :=
  h.of_blocks (hg.block _ h.lt.1 (ne_some h0)) (hg.block _ h.lt.2 (ne_some h1))
theorem Tabs.alloc {w : World} (h : Tabs w) (o : Obj) : Tabs (w.alloc o) := h.of_blocks (Below.heap_alloc w o _ h.lt.1) (Below.heap_alloc w o _ h.lt.2)
theorem Tabs.drewN {w : World} (h : Tabs w) (n : Nat) : Tabs (w.drewN n) := h

/-- The rune at a place; -1: there is none. -/
def nextC (s : ByteArray) (p : Nat) : Int := if p < s.size then ((Utf8.decode s p).1 : Int) else -1
/-- The place behind it. -/
def nextW (s : ByteArray) (p : Nat) : Nat := if p < s.size then p + (Utf8.decode s p).2 else p

theorem decode_le_size (s : ByteArray) (p : Nat) (h : p < s.size) : p + (Utf8.decode s p).2 ≤ s.size := by
  have := Lib.decodeGo_le_size (s.extract p s.size)
  rw [Lib.decodeGo_extract s p h] at this
  simp at this
  omega
theorem nextW_le (s : ByteArray) (p : Nat) (h : p ≤ s.size) : nextW s p ≤ s.size := by
  unfold nextW; split
  · exact decode_le_size s p (by assumption)
  · exact h
theorem nextC_le (s : ByteArray) (p : Nat) : -1 ≤ nextC s p ∧ nextC s p ≤ 1114111 := by
  unfold nextC; split
  · have := Lib.rune_le s p; omega
  · omega
theorem nextC_ascii (s : ByteArray) (p : Nat) (h : p < s.size) (hx : (s[p]'h).toNat < 128) : nextC s p = (s[p]'h).toNat ∧ nextW s p = p + 1 := by
  unfold nextC nextW
  rw [if_pos h, if_pos h, Go.decode_ascii s p h hx]; exact ⟨rfl, rfl⟩
theorem nextC_high (s : ByteArray) (p : Nat) (h : p < s.size) (hx : 128 ≤ (s[p]'h).toNat) : 128 ≤ nextC s p := by
  unfold nextC
  rw [if_pos h]
  have := (Go.decode_high s p h hx).1
  omega
theorem nextC_end (s : ByteArray) (p : Nat) (h : s.size ≤ p) : nextC s p = -1 ∧ nextW s p = p := by
  unfold nextC nextW
  rw [if_neg (by omega), if_neg (by omega)]; exact ⟨rfl, rfl⟩
/-- A small rune is a byte. -/
theorem nextC_small (s : ByteArray) (p : Nat) (h0 : 0 ≤ nextC s p) (h1 : nextC s p < 128) : ∃ h : p < s.size, nextC s p = (s[p]'h).toNat ∧ nextW s p = p + 1 ∧ (s[p]'h).toNat < 128 := by
  by_cases h : p < s.size
  · by_cases hx : (s[p]'h).toNat < 128
    · exact ⟨h, (nextC_ascii s p h hx).1, (nextC_ascii s p h hx).2, hx⟩
    · have := nextC_high s p h (by omega); omega
  · have := (nextC_end s p (by omega)).1; omega

theorem decodeGo_tail (s : ByteArray) (p : Nat) (h : p < s.size) : Lib.decodeGo (tail s p) = Utf8.decode s p := Lib.decodeGo_extract s p h

end Go.Proofs.YtnhnldmldnhaoaaGreatDoor

namespace Go.Proofs.YtnhnldmldnhaoaaGreatDoor
open Go Go.RowKit Go.Proofs

/-- Is a flag set? -/
def onB (f c : Int) : Bool := bits BinOp.and IntKind.i64 f c != 0
end Go.Proofs.YtnhnldmldnhaoaaGreatDoor

namespace Go.Proofs.YtnhnldmldnhaoaaGreatDoor
open Go Go.RowKit Go.Proofs Go.Shelf

/-- The reader in its block. -/
abbrev SyR (w : World) (b : Nat) (s : ByteArray) (f : Int) (p : Nat) (nv : Value) : Prop := Blk w b [.int .i64 f, .string s, .int .i64 p, nv] 52
/-- What is wrong, as a panic bears it. -/
abbrev synV (e f t : Int) : Value := .agg #[.int .i64 e, .int .i64 f, .int .i64 t]
abbrev synE (e f t : Int) : Ending := .panicked [{ v := .iface 32 (synV e f t), recovered := false }]

theorem syn_stop (e f t : Int) (w : World) : Calls Tryz.prog 20 #[.int .i64 e, .int .i64 f, .int .i64 t] w fun en w' => en = synE e f t ∧ w' = w := by
  go_enter Tryz.func20, Tryz.ntmps20
  go_wp2
  exact ⟨rfl, rfl, rfl⟩
theorem syn_on (f c : Int) (w : World) : Calls Tryz.prog 32 #[.agg #[.int .i64 f], .int .i64 c] w fun e w' => e = .returned (.bool (onB f c)) ∧ Below w.heap.size w w' := by
  go_enter Tryz.func32, Tryz.ntmps32
  go_wp2_with fail
  go_ret
  exact ⟨rfl, (Below.refl _ w).alloc (Nat.le_refl _) _⟩
set_option maxHeartbeats 400000 in
theorem syn_rest_q (b : Nat) (s : ByteArray) (f : Int) (p : Nat) (nv : Value) (w : World) (h : SyR w b s f p nv) (hp : p ≤ s.size) :
    Calls Tryz.prog 36 #[.pointer (some ⟨b, 0, none⟩)] w fun e w' => e = .returned (.string (tail s p)) ∧ ∃ n, w' = w.drewN n := by
  have h1 := Blk.cell h (j := 1) rfl
  have h2 := Blk.cell h (j := 2) rfl
  clear h
  have hq : (p : Int) ≤ (s.size : Int) := by omega
  go_enter Tryz.func36, Tryz.ntmps36
  go_wp2_with fail
  go_quiet (fail)
  go_wp2_with fail
  go_ret
  exact ⟨rfl, _, rfl⟩
theorem syn_rest (b : Nat) (s : ByteArray) (f : Int) (p : Nat) (nv : Value) (w : World) (h : SyR w b s f p nv) (hp : p ≤ s.size) :
    Calls Tryz.prog 36 #[.pointer (some ⟨b, 0, none⟩)] w fun e w' => e = .returned (.string (tail s p)) ∧ SyR w' b s f p nv ∧ Below w.heap.size w w' :=
  (syn_rest_q b s f p nv w h hp).mono fun _ _ ⟨he, n, hw⟩ => ⟨he, by rw [hw]; exact Blk.drewN h n, by rw [hw]; exact below_drewN (Below.refl _ _) n⟩

set_option maxHeartbeats 400000 in
theorem syn_has (b : Nat) (s t : ByteArray) (f : Int) (p : Nat) (nv : Value) (w : World) (h : SyR w b s f p nv) (hp : p ≤ s.size) (hs : s.size ≤ 1000000000000000) :
    Calls Tryz.prog 48 #[.pointer (some ⟨b, 0, none⟩), .string t] w fun e w' => e = .returned (.bool (stands s p t.data.toList)) ∧ SyR w' b s f (if stands s p t.data.toList = true then p + t.size else p) nv ∧ w.grownBy w' (some b) := by
  have HR := Lib.hid h; clear h
  cases hy : stands s p t.data.toList with
  | true =>
    have hl := stands_le hp hy
    have HY := Lib.hid hy; clear hy
    go_enter Tryz.func48, Tryz.ntmps48
    go_wp2_with fail
    refine (syn_rest b s f p nv _ HR.out hp).mono ?_
    rintro e w1 ⟨rfl, hR, hB⟩
    have HR1 := Lib.hid hR; have HB := Lib.hid hB; clear hR hB
    go_wp2_with fail
    refine (Tryz.strings_HasPrefix _ _ _).mono ?_
    rintro e w1 ⟨rfl, rfl⟩
    rw [tail_toList, show Lib.hasPrefix (List.drop p s.data.toList) t.data.toList = true from HY.out]
    have h2 := Blk.cell HR1.out (j := 2) rfl
    have f2 := HR1.out.frozen 2
    go_wp2_with fail
    go_ret
    refine ⟨rfl, ?_, grownBy_trans (grownBy_below HB.out _) (grownBy_setCell _ _ _ _)⟩
    rw [← Int.natCast_add]
    exact Blk.set HR1.out 2 _
  | false =>
    have HY := Lib.hid hy; clear hy
    go_enter Tryz.func48, Tryz.ntmps48
    go_wp2_with fail
    refine (syn_rest b s f p nv _ HR.out hp).mono ?_
    rintro e w1 ⟨rfl, hR, hB⟩
    have HR1 := Lib.hid hR; have HB := Lib.hid hB; clear hR hB
    go_wp2_with fail
    refine (Tryz.strings_HasPrefix _ _ _).mono ?_
    rintro e w1 ⟨rfl, rfl⟩
    rw [tail_toList, show Lib.hasPrefix (List.drop p s.data.toList) t.data.toList = false from HY.out]
    go_wp2_with fail
    go_ret
    exact ⟨rfl, by simpa using HR1.out, grownBy_below HB.out _⟩

theorem syn_tail_nil {s : ByteArray} {p : Nat} (h : s.size ≤ p) : tail s p = ⟨#[]⟩ := by
  apply ByteArray.ext
  apply Array.toList_inj.1
  rw [tail_toList, List.drop_eq_nil_of_le (by simpa using h)]
theorem syn_tail_some {s : ByteArray} {p : Nat} (h : p < s.size) : (tail s p).toList.isEmpty = false := by
  rw [ByteArray.toList_eq, tail_toList]
  exact List.isEmpty_eq_false_iff.2 (fun e => by have := congrArg List.length e; simp at this; omega)
set_option maxHeartbeats 1000000 in
theorem syn_next (b : Nat) (s : ByteArray) (f : Int) (p : Nat) (nv : Value) (w : World) (h : SyR w b s f p nv) (hT : Tabs w) (hp : p ≤ s.size) :
    Calls Tryz.prog 60 #[.pointer (some ⟨b, 0, none⟩)] w fun e w' => e = .returned (.int .i32 (nextC s p)) ∧ SyR w' b s f p nv ∧ Below w.heap.size w w' := by
  have HR := Lib.hid h; have HT := Lib.hid hT; clear h hT
  by_cases hlt : p < s.size
  · have ht := syn_tail_some hlt
    have hc : nextC s p = ((Utf8.decode s p).1 : Int) := by unfold nextC; rw [if_pos hlt]
    have HC := Lib.hid hc; clear hc
    go_enter Tryz.func60, Tryz.ntmps60
    go_wp2_with fail
    refine (syn_rest b s f p nv _ HR.out hp).mono ?_
    rintro e w1 ⟨rfl, hR, hB⟩
    have R1 := Lib.hid hR; have T1 := Lib.hid (HT.out.below hB); have B1 := Lib.hid hB; clear hR hB
    go_wp2_with fail
    refine (syn_rest b s f p nv _ R1.out hp).mono ?_
    rintro e w2 ⟨rfl, hR, hB⟩
    have R2 := Lib.hid hR; have T2 := Lib.hid (T1.out.below hB); have B2 := Lib.hid (below_then B1.out hB); clear hR hB
    go_wp2_with fail
    refine (Tryz.utf8_DecodeRuneInString _ _ T2.out).mono ?_
    rintro e w4 ⟨rfl, hB⟩
    rw [decodeGo_tail s p hlt]
    have R4 := Lib.hid (Blk.below R2.out hB R2.out.lt); have B4 := Lib.hid (below_then B2.out hB); clear hB
    go_wp2_with fail
    go_ret
    exact ⟨by rw [HC.out]; rfl, R4.out, B4.out⟩
  · have ht := syn_tail_nil (s := s) (p := p) (by omega)
    have HC := Lib.hid (nextC_end s p (by omega)).1
    go_enter Tryz.func60, Tryz.ntmps60
    go_wp2_with fail
    refine (syn_rest b s f p nv _ HR.out hp).mono ?_
    rintro e w1 ⟨rfl, hR, hB⟩
    have R1 := Lib.hid hR; have B1 := Lib.hid hB; clear hR hB
    rw [ht]
    go_wp2_with fail
    go_ret
    exact ⟨by rw [HC.out]; rfl, R1.out, B1.out⟩
end Go.Proofs.YtnhnldmldnhaoaaGreatDoor

namespace Go.Proofs.YtnhnldmldnhaoaaGreatDoor
open Go

/-- A tree without Kids. -/
def leafT (op rune : Int) (set : List (Int × Int)) (pl : Int) : T := .mk op [] rune set pl 0 ⟨#[]⟩ 0 0 false
def setT (l : List (Int × Int)) : T := if l.length = 0 then leafT 1 0 [] 0 else leafT 4 0 l 0
def kidsT (op : Int) (l : List T) : T := .mk op l 0 [] 0 0 ⟨#[]⟩ 0 0 false
def catT (l : List T) : T := match l with
  | [] => leafT 2 0 [] 0
  | [t] => t
  | l => kidsT 11 l
def capT (k : T) (n : Nat) (name : ByteArray) : T := .mk 6 [k] 0 [] 0 n name 0 0 false
def repT (op : Int) (k : T) (mn mx : Int) (lz : Bool) : T := .mk op [k] 0 [] 0 0 ⟨#[]⟩ mn mx lz

end Go.Proofs.YtnhnldmldnhaoaaGreatDoor
