/- The counted repeat: scan.Count and the document's. -/
import Derived.Test.YtjmgboegipeijaaGreatDoorRef06a
import Derived.Deep.RegionWith
namespace Go.Proofs.YtjmgboegipeijaaGreatDoor
open Go Go.RowKit Go.Proofs

/-- A counted repeat at a place: least, most, the place behind. -/
def countP (s : ByteArray) (p : Nat) : Option (Int × Int × Nat) :=
  if stands s p [123] then
    if runP s (p + 1) digs = [] then none
    else if stands s (p + 1 + (runP s (p + 1) digs).length) [125] then some (numP 10 1000 0 (runP s (p + 1) digs), numP 10 1000 0 (runP s (p + 1) digs), p + 1 + (runP s (p + 1) digs).length + 1)
    else if stands s (p + 1 + (runP s (p + 1) digs).length) [44, 125] then some (numP 10 1000 0 (runP s (p + 1) digs), -1, p + 1 + (runP s (p + 1) digs).length + 2)
    else if stands s (p + 1 + (runP s (p + 1) digs).length) [44] then
      if runP s (p + 1 + (runP s (p + 1) digs).length + 1) digs = [] then none
      else if stands s (p + 1 + (runP s (p + 1) digs).length + 1 + (runP s (p + 1 + (runP s (p + 1) digs).length + 1) digs).length) [125] then
        some (numP 10 1000 0 (runP s (p + 1) digs), numP 10 1000 0 (runP s (p + 1 + (runP s (p + 1) digs).length + 1) digs), p + 1 + (runP s (p + 1) digs).length + 1 + (runP s (p + 1 + (runP s (p + 1) digs).length + 1) digs).length + 1)
      else none
    else none
  else none

def countV : Option (Int × Int × Nat) → Value
  | none => .tuple #[.int .i64 0, .int .i64 0, .int .i64 0, .bool false]
  | some (a, b, n) => .tuple #[.int .i64 a, .int .i64 b, .int .i64 (n : Int), .bool true]

theorem runP_digs (s : ByteArray) (p : Nat) : ∀ c ∈ runP s p digs, digs.contains c = true := takeWhile_yes _ _
theorem digs_ascii : ∀ (j : Nat) (c : UInt8), digs[j]? = some c → c.toNat < 128 := ascii_of_all (by decide)

/-- 'number' of a run of digits. -/
theorem scan_number_digs (s : ByteArray) (p : Nat) (most : Int) (w : World) (hs : s.size ≤ 140737488355328) (hm : 0 ≤ most ∧ most ≤ 10000000) :
    Calls Tryz.prog 38 #[.string ⟨(runP s p digs).toArray⟩, .int .i64 10, .int .i64 most] w fun e w' => e = .returned (.int .i64 (numP 10 most 0 (runP s p digs))) ∧ Below w.heap.size w w' := by
  have hd := runP_digs s p
  have hl := lower_digs hd
  refine (scan_number ⟨(runP s p digs).toArray⟩ 10 most w ?_ (by omega) hm ?_ ?_).mono fun e w' h => ?_
  · show (runP s p digs).toArray.size ≤ _
    have := runP_le s p digs
    simp; omega
  · intro c hc
    simp only [hl] at hc
    exact .inl ((digs_iff c).1 (hd c hc))
  · intro j b hb
    have := (digs_iff b).1 (hd b (List.mem_of_getElem? (by simpa using hb)))
    omega
  · simpa [hl] using h

theorem scan_run_digs (b : Nat) (s : ByteArray) (p : Nat) (rest : List Value) (t : TypeId) (w : World) (h : Rd w b s p rest t) (hp : p ≤ s.size) (hs : s.size ≤ 1000000000000000) :
    Calls Tryz.prog 37 #[.pointer (some ⟨b, 0, none⟩), .string ⟨#[48, 49, 50, 51, 52, 53, 54, 55, 56, 57]⟩] w fun e w' => e = .returned (.string ⟨(runP s p digs).toArray⟩) ∧
      Rd w' b s (p + (runP s p digs).length) rest t ∧ w.grownBy w' (some b) :=
  scan_run b s ⟨#[48, 49, 50, 51, 52, 53, 54, 55, 56, 57]⟩ p rest t w h hp hs (by decide) digs_ascii
theorem countV_none : countV none = .tuple #[.int .i64 0, .int .i64 0, .int .i64 0, .bool false] := rfl
theorem isEmpty_no {l : List UInt8} (h : ¬ l = []) : l.isEmpty = false := by cases l <;> simp_all

set_option maxHeartbeats 1000000 in
theorem scan_Count (s : ByteArray) (p : Nat) (w : World) (hp : p ≤ s.size) (hs : s.size ≤ 140737488355328) :
    Calls Tryz.prog 14 #[.string s, .int .i64 p] w fun e w' => e = .returned (countV (countP s p)) ∧ Below w.heap.size w w' := by
  have hs' : s.size ≤ 1000000000000000 := by omega
  have R0 := Lib.hid (show Rd (w.alloc (.cells #[.string s, .int .i64 p] 54)) w.heap.size s p [] 54 from Blk.new w [.string s, .int .i64 p] 54)
  have HP := Lib.hid hp
  go_enter Tryz.func14, Tryz.ntmps14
  go_wp2_with fail
  by_cases c1 : stands s p [123] = true
  · have l1 := Lib.hid (stands_le (p := ⟨#[123]⟩) hp c1)
    refine (scan_has_yes _ s _ p _ _ _ R0.out hp hs' c1).mono ?_
    rintro e w1 ⟨rfl, hR, hG⟩
    have R1 := Lib.hid hR; have G1 := Lib.hid hG; clear hR hG
    go_wp2_with fail
    refine (scan_run_digs _ s (p + 1) _ _ _ R1.out l1.out hs').mono ?_
    rintro e w2 ⟨rfl, hR, hG⟩
    have R2 := Lib.hid hR; have G2 := Lib.hid (grownBy_trans G1.out hG); clear hR hG
    have l2 := Lib.hid (runP_le_size s (p + 1) digs l1.out)
    go_wp2_with fail
    refine (scan_number_digs s (p + 1) 1000 _ hs (by omega)).mono ?_
    rintro e w3 ⟨rfl, hB⟩
    have R3 := Lib.hid (show Rd w3 w.heap.size s (p + 1 + (runP s (p + 1) digs).length) [] 54 from Blk.below R2.out hB R2.out.lt); have G3 := Lib.hid (grownBy_trans G2.out (grownBy_below hB _)); clear hB
    by_cases c2 : runP s (p + 1) digs = []
    · have HF := Lib.hid (show countP s p = none by unfold countP; rw [if_pos c1, if_pos c2])
      rw [c2]
      go_wp2_with fail
      refine bodyPost_ret (v := .tuple #[.int .i64 0, .int .i64 0, .int .i64 0, .bool false]) (by simp [results, Tryz.results14, go_sem]) rfl ⟨?_, below_local G3.out⟩
      rw [HF.out]; rfl
    · have e2 := isEmpty_no c2
      go_wp2_with fail
      by_cases c3 : stands s (p + 1 + (runP s (p + 1) digs).length) [125] = true
      · have HF := Lib.hid (show countP s p = _ by unfold countP; rw [if_pos c1, if_neg c2, if_pos c3])
        refine (scan_has_yes _ s _ _ _ _ _ R3.out l2.out hs' c3).mono ?_
        rintro e w4 ⟨rfl, hR, hG⟩
        have R4 := Lib.hid hR; have G4 := Lib.hid (grownBy_trans G3.out hG); clear hR hG
        have h1 := Rd.c1 R4.out
        go_wp2_with fail
        go_quiet (fail)
        go_wp2_with fail
        refine bodyPost_ret (v := .tuple #[.int .i64 (numP 10 1000 0 (runP s (p + 1) digs)), .int .i64 (numP 10 1000 0 (runP s (p + 1) digs)), .int .i64 (p + 1 + (runP s (p + 1) digs).length + 1), .bool true]) (by simp [results, Tryz.results14, go_sem]) rfl ⟨?_, below_local (grownBy_trans G4.out (grownBy_drewN _ _ _))⟩
        rw [HF.out]; rfl
      · have c3 : stands s (p + 1 + (runP s (p + 1) digs).length) [125] = false := by simpa using c3
        refine (scan_has_no _ s _ _ _ _ _ R3.out l2.out c3).mono ?_
        rintro e w4 ⟨rfl, hR, hG⟩
        have R4 := Lib.hid hR; have G4 := Lib.hid (grownBy_trans G3.out hG); clear hR hG
        go_wp2_with fail
        by_cases c4 : stands s (p + 1 + (runP s (p + 1) digs).length) [44, 125] = true
        · have HF := Lib.hid (show countP s p = _ by unfold countP; rw [if_pos c1, if_neg c2, if_neg (by simp [c3]), if_pos c4])
          refine (scan_has_yes _ s _ _ _ _ _ R4.out l2.out hs' c4).mono ?_
          rintro e w5 ⟨rfl, hR, hG⟩
          have R5 := Lib.hid hR; have G5 := Lib.hid (grownBy_trans G4.out hG); clear hR hG
          have h1 := Rd.c1 R5.out
          go_wp2_with fail
          go_quiet (fail)
          go_wp2_with fail
          refine bodyPost_ret (v := .tuple #[.int .i64 (numP 10 1000 0 (runP s (p + 1) digs)), .int .i64 (-1), .int .i64 (p + 1 + (runP s (p + 1) digs).length + 2), .bool true]) (by simp [results, Tryz.results14, go_sem]) rfl ⟨?_, below_local (grownBy_trans G5.out (grownBy_drewN _ _ _))⟩
          rw [HF.out]; rfl
        · have c4 : stands s (p + 1 + (runP s (p + 1) digs).length) [44, 125] = false := by simpa using c4
          refine (scan_has_no _ s _ _ _ _ _ R4.out l2.out c4).mono ?_
          rintro e w5 ⟨rfl, hR, hG⟩
          have R5 := Lib.hid hR; have G5 := Lib.hid (grownBy_trans G4.out hG); clear hR hG
          go_wp2_with fail
          by_cases c5 : stands s (p + 1 + (runP s (p + 1) digs).length) [44] = true
          · have l5 := Lib.hid (stands_le (p := ⟨#[44]⟩) l2.out c5)
            refine (scan_has_yes _ s _ _ _ _ _ R5.out l2.out hs' c5).mono ?_
            rintro e w6 ⟨rfl, hR, hG⟩
            have R6 := Lib.hid hR; have G6 := Lib.hid (grownBy_trans G5.out hG); clear hR hG
            go_wp2_with fail
            refine (scan_run_digs _ s (p + 1 + (runP s (p + 1) digs).length + 1) _ _ _ R6.out l5.out hs').mono ?_
            rintro e w7 ⟨rfl, hR, hG⟩
            have R7 := Lib.hid hR; have G7 := Lib.hid (grownBy_trans G6.out hG); clear hR hG
            have l7 := Lib.hid (runP_le_size s (p + 1 + (runP s (p + 1) digs).length + 1) digs l5.out)
            by_cases c6 : runP s (p + 1 + (runP s (p + 1) digs).length + 1) digs = []
            · have HF := Lib.hid (show countP s p = none by unfold countP; rw [if_pos c1, if_neg c2, if_neg (by simp [c3]), if_neg (by simp [c4]), if_pos c5, if_pos c6])
              rw [c6]
              go_wp2_with fail
              refine bodyPost_ret (v := .tuple #[.int .i64 0, .int .i64 0, .int .i64 0, .bool false]) (by simp [results, Tryz.results14, go_sem]) rfl ⟨?_, below_local G7.out⟩
              rw [HF.out]; rfl
            · have e6 := isEmpty_no c6
              go_wp2_with fail
              by_cases c7 : stands s (p + 1 + (runP s (p + 1) digs).length + 1 + (runP s (p + 1 + (runP s (p + 1) digs).length + 1) digs).length) [125] = true
              · have HF := Lib.hid (show countP s p = _ by unfold countP; rw [if_pos c1, if_neg c2, if_neg (by simp [c3]), if_neg (by simp [c4]), if_pos c5, if_neg c6, if_pos c7])
                refine (scan_has_yes _ s _ _ _ _ _ R7.out l7.out hs' c7).mono ?_
                rintro e w8 ⟨rfl, hR, hG⟩
                have R8 := Lib.hid hR; have G8 := Lib.hid (grownBy_trans G7.out hG); clear hR hG
                have h1 := Rd.c1 R8.out
                go_wp2_with fail
                go_region_with (go_at_call 38; refine (scan_number_digs s (p + 1 + (runP s (p + 1) digs).length + 1) 1000 _ hs (by omega)).mono ?_; rintro e w9 ⟨rfl, hB⟩; have h9 := (hB.cell (p := ⟨w.heap.size, 1, none⟩) R8.out.lt).trans h1; have HB9 := Lib.hid (Below.trans (below_drewN (Below.refl _ w8) 1) hB); clear hB)
                all_goals
                  go_wp2_with fail
                  refine bodyPost_ret (v := .tuple #[.int .i64 (numP 10 1000 0 (runP s (p + 1) digs)), .int .i64 (numP 10 1000 0 (runP s (p + 1 + (runP s (p + 1) digs).length + 1) digs)), .int .i64 (p + 1 + (runP s (p + 1) digs).length + 1 + (runP s (p + 1 + (runP s (p + 1) digs).length + 1) digs).length + 1), .bool true]) (by simp [results, Tryz.results14, go_sem]) rfl ⟨?_, below_local (grownBy_trans G8.out (grownBy_below HB9.out _))⟩
                  rw [HF.out]; rfl
              · have HF := Lib.hid (show countP s p = none by unfold countP; rw [if_pos c1, if_neg c2, if_neg (by simp [c3]), if_neg (by simp [c4]), if_pos c5, if_neg c6, if_neg c7])
                have c7 : stands s (p + 1 + (runP s (p + 1) digs).length + 1 + (runP s (p + 1 + (runP s (p + 1) digs).length + 1) digs).length) [125] = false := by simpa using c7
                refine (scan_has_no _ s _ _ _ _ _ R7.out l7.out c7).mono ?_
                rintro e w8 ⟨rfl, hR, hG⟩
                have R8 := Lib.hid hR; have G8 := Lib.hid (grownBy_trans G7.out hG); clear hR hG
                go_wp2_with fail
                refine bodyPost_ret (v := .tuple #[.int .i64 0, .int .i64 0, .int .i64 0, .bool false]) (by simp [results, Tryz.results14, go_sem]) rfl ⟨?_, below_local G8.out⟩
                rw [HF.out]; rfl
          · have HF := Lib.hid (show countP s p = none by unfold countP; rw [if_pos c1, if_neg c2, if_neg (by simp [c3]), if_neg (by simp [c4]), if_neg c5])
            have c5 : stands s (p + 1 + (runP s (p + 1) digs).length) [44] = false := by simpa using c5
            refine (scan_has_no _ s _ _ _ _ _ R5.out l2.out c5).mono ?_
            rintro e w6 ⟨rfl, hR, hG⟩
            have R6 := Lib.hid hR; have G6 := Lib.hid (grownBy_trans G5.out hG); clear hR hG
            go_wp2_with fail
            refine bodyPost_ret (v := .tuple #[.int .i64 0, .int .i64 0, .int .i64 0, .bool false]) (by simp [results, Tryz.results14, go_sem]) rfl ⟨?_, below_local G6.out⟩
            rw [HF.out]; rfl
  · have HF := Lib.hid (show countP s p = none by unfold countP; rw [if_neg c1])
    have c1 : stands s p [123] = false := by simpa using c1
    refine (scan_has_no _ s _ p _ _ _ R0.out hp c1).mono ?_
    rintro e w1 ⟨rfl, hR, hG⟩
    have R1 := Lib.hid hR; have G1 := Lib.hid hG; clear hR hG
    go_wp2_with fail
    refine (scan_run_digs _ s p _ _ _ R1.out hp hs').mono ?_
    rintro e w2 ⟨rfl, hR, hG⟩
    have G2 := Lib.hid (grownBy_trans G1.out hG); clear hR hG
    go_wp2_with fail
    refine (scan_number_digs s p 1000 _ hs (by omega)).mono ?_
    rintro e w3 ⟨rfl, hB⟩
    have G3 := Lib.hid (grownBy_trans G2.out (grownBy_below hB _)); clear hB
    go_wp2_with fail
    refine bodyPost_ret (v := .tuple #[.int .i64 0, .int .i64 0, .int .i64 0, .bool false]) (by simp [results, Tryz.results14, go_sem]) rfl ⟨?_, below_local G3.out⟩
    rw [HF.out]; rfl
end Go.Proofs.YtjmgboegipeijaaGreatDoor
