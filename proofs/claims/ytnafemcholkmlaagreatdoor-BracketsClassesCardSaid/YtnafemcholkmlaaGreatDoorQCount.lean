/- The counted repeat: scan.Count and the document's. The document's counted repeat. What stands behind a backslash and x: scan.esc.code. -/
import Derived.Test.YtnafemcholkmlaaGreatDoorQScan3
import Derived.Deep.RegionWith
namespace Go.Proofs.YtnafemcholkmlaaGreatDoor
open Go Go.RowKit Go.Proofs

/-- A counted repeat at a place: least, most, the place behind. -/
def countP (s : ByteArray) (p : Nat) : Option (Int × Int × Nat) :=
  if stands s p [123] then
    if runP s (p + 1) digs = [] then none
    else if stands s (p + 1 + (runP s (p + 1) digs).length) [125] then some (numP 10 1000 0 (runP s (p + 1) digs), numP 10 1000 0 (runP s (p + 1) digs), p + 1 + (runP s (p + 1) digs).length + 1)
    else if stands s (p + 1 + (runP s (p + 1) digs).length) [44, 125] then some (numP 10 1000 0 (runP s (p + 1) digs), -1, p + 1 + (runP s (p + 1) digs).length + 2)
    else if stands s (p + 1 + (runP s (p + 1) digs).length) [44] then
      if runP s (p + 1 + (runP s (p + 1) digs).length + 1) digs = [] then none
      else if stands s (p + 1 + (runP s (p + 1) digs).length + 1 + (runP s (p + 1 + (runP s (p + 1) digs).length + 1) digs).length) [125] then
        some (numP 10 1000 0 (runP s (p + 1) digs), numP 10 1000 0 (runP s (p + 1 + (runP s (p + 1) digs).length + 1) digs), p + 1 + (runP s (p + 1) digs).length + 1 + (runP s (p + 1 + (runP s (p + 1) digs).length + 1) digs).length + 1)
      else none
    else none
  else none

def countV : Option (Int × Int × Nat) → Value
  | none => .tuple #[.int .i64 0, .int .i64 0, .int .i64 0, .bool false]
  | some (a, b, n) => .tuple #[.int .i64 a, .int .i64 b, .int .i64 (n : Int), .bool true]

theorem runP_digs (s : ByteArray) (p : Nat) : ∀ c ∈ runP s p digs, digs.contains c = true := takeWhile_yes _ _
theorem digs_ascii : ∀ (j : Nat) (c : UInt8), digs[j]? = some c → c.toNat < 128 := ascii_of_all (by decide)

/-- 'number' of a run of digits. -/
theorem scan_number_digs (s : ByteArray) (p : Nat) (most : Int) (w : World) (hs : s.size ≤ 140737488355328) (hm : 0 ≤ most ∧ most ≤ 10000000) :
    Calls Tryz.prog 109 #[.string ⟨(runP s p digs).toArray⟩, .int .i64 10, .int .i64 most] w fun e w' => e = .returned (.int .i64 (numP 10 most 0 (runP s p digs))) ∧ Below w.heap.size w w' := by
  have hd := runP_digs s p
  have hl := lower_digs hd
  refine (scan_number ⟨(runP s p digs).toArray⟩ 10 most w ?_ (by omega) hm ?_ ?_).mono fun e w' h => ?_
  · show (runP s p digs).toArray.size ≤ _
    have := runP_le s p digs
    simp; omega
  · intro c hc
    simp only [hl] at hc
    exact .inl ((digs_iff c).1 (hd c hc))
  · intro j b hb
    have := (digs_iff b).1 (hd b (List.mem_of_getElem? (by simpa using hb)))
    omega
  · simpa [hl] using h

theorem scan_run_digs (b : Nat) (s : ByteArray) (p : Nat) (rest : List Value) (t : TypeId) (w : World) (h : Rd w b s p rest t) (hp : p ≤ s.size) (hs : s.size ≤ 1000000000000000) :
    Calls Tryz.prog 108 #[.pointer (some ⟨b, 0, none⟩), .string ⟨#[48, 49, 50, 51, 52, 53, 54, 55, 56, 57]⟩] w fun e w' => e = .returned (.string ⟨(runP s p digs).toArray⟩) ∧
      Rd w' b s (p + (runP s p digs).length) rest t ∧ w.grownBy w' (some b) :=
  scan_run b s ⟨#[48, 49, 50, 51, 52, 53, 54, 55, 56, 57]⟩ p rest t w h hp hs (by decide) digs_ascii
theorem countV_none : countV none = .tuple #[.int .i64 0, .int .i64 0, .int .i64 0, .bool false] := rfl
theorem isEmpty_no {l : List UInt8} (h : ¬ l = []) : l.isEmpty = false := by cases l <;> simp_all

end Go.Proofs.YtnafemcholkmlaaGreatDoor

namespace Go.Proofs.YtnafemcholkmlaaGreatDoor
open Go Go.RowKit Go.Proofs

theorem stands_one (s : ByteArray) (i : Nat) (c : UInt8) : stands s i [c] = true ↔ ∃ h : i < s.size, s[i] = c := by
  unfold stands Lib.hasPrefix
  rw [List.isPrefixOf_iff_prefix]
  constructor
  · intro h
    have h1 := h.length_le
    simp at h1
    refine ⟨by omega, ?_⟩
    have h2 := h.getElem (i := 0) (by simp)
    simp only [List.getElem_cons_zero, List.getElem_drop, Nat.add_zero] at h2
    have h3 := getElem_toList s i (by omega)
    exact Option.some.inj (h3.symm.trans ((List.getElem?_eq_getElem (by simp; omega)).trans (congrArg some h2.symm)))
  · rintro ⟨h, rfl⟩
    refine ⟨(s.data.toList.drop (i + 1)), ?_⟩
    have h3 := getElem_toList s i h
    rw [List.getElem?_eq_getElem (by simpa using h)] at h3
    rw [← Option.some.inj h3, List.singleton_append, ← List.drop_eq_getElem_cons]
theorem stands_two (s : ByteArray) (i : Nat) (c d : UInt8) : stands s i [c, d] = true ↔ ∃ h : i + 1 < s.size, s[i] = c ∧ s[i + 1] = d := by
  unfold stands Lib.hasPrefix
  rw [List.isPrefixOf_iff_prefix]
  constructor
  · intro h
    have h1 := h.length_le
    simp at h1
    refine ⟨by omega, ?_, ?_⟩
    · have h2 := h.getElem (i := 0) (by simp)
      simp only [List.getElem_cons_zero, List.getElem_drop, Nat.add_zero] at h2
      have h3 := getElem_toList s i (by omega)
      exact Option.some.inj (h3.symm.trans ((List.getElem?_eq_getElem (by simp; omega)).trans (congrArg some h2.symm)))
    · have h2 := h.getElem (i := 1) (by simp)
      simp only [List.getElem_cons_succ, List.getElem_cons_zero, List.getElem_drop] at h2
      have h3 := getElem_toList s (i + 1) (by omega)
      exact Option.some.inj (h3.symm.trans ((List.getElem?_eq_getElem (by simp; omega)).trans (congrArg some h2.symm)))
  · rintro ⟨h, rfl, rfl⟩
    refine ⟨(s.data.toList.drop (i + 2)), ?_⟩
    have h3 := getElem_toList s i (by omega)
    rw [List.getElem?_eq_getElem (by simp; omega)] at h3
    have h4 := getElem_toList s (i + 1) (by omega)
    rw [List.getElem?_eq_getElem (by simp; omega)] at h4
    rw [← Option.some.inj h3, ← Option.some.inj h4, List.cons_append, List.singleton_append, ← List.drop_eq_getElem_cons, ← List.drop_eq_getElem_cons]
theorem stands_one_no (s : ByteArray) (i : Nat) (c : UInt8) (h : s.size ≤ i) : ¬ stands s i [c] = true := by
  rw [stands_one]; rintro ⟨h', _⟩; omega
theorem u8_ne {a b : UInt8} (h : ¬ a = b) : ¬ a.toNat = b.toNat := fun e => h (UInt8.toNat_inj.1 e)

end Go.Proofs.YtnafemcholkmlaaGreatDoor

namespace Go.Proofs.YtnafemcholkmlaaGreatDoor
open Go Go.RowKit Go.Proofs

def hexs : List UInt8 := [48, 49, 50, 51, 52, 53, 54, 55, 56, 57, 97, 98, 99, 100, 101, 102, 65, 66, 67, 68, 69, 70]
theorem hexs_mem {c : UInt8} (h : hexs.contains c = true) : isDig (Lib.lowerB c) ∧ c.toNat < 128 := by
  have : c ∈ hexs := by simpa using h
  simp only [hexs, List.mem_cons, List.mem_nil_iff, or_false] at this
  unfold isDig
  rcases this with rfl | rfl | rfl | rfl | rfl | rfl | rfl | rfl | rfl | rfl | rfl | rfl | rfl | rfl | rfl | rfl | rfl | rfl | rfl | rfl | rfl | rfl <;> decide
theorem hexs_ascii : ∀ (j : Nat) (c : UInt8), hexs[j]? = some c → c.toNat < 128 := ascii_of_all (by decide)

/-- The number of a list of hexadecimal digits. -/
def hexN (l : List UInt8) : Int := numP 16 1114111 0 (Lib.toLowerA l)
theorem lower_dig {l : List UInt8} (h : ∀ c ∈ l, hexs.contains c = true) : ∀ c ∈ Lib.toLowerA l, isDig c := by
  intro c hc
  unfold Lib.toLowerA at hc
  obtain ⟨d, hd, rfl⟩ := List.mem_map.1 hc
  exact (hexs_mem (h d hd)).1
theorem hexN_bd {l : List UInt8} (h : ∀ c ∈ l, hexs.contains c = true) : 0 ≤ hexN l ∧ hexN l ≤ 1114112 := by
  have := numP_bd 16 1114111 (by omega) (by omega) (Lib.toLowerA l) 0 (lower_dig h) (Int.le_refl _) (by omega)
  unfold hexN; exact ⟨this.1, by have := this.2; omega⟩

theorem scan_number_hex (l : List UInt8) (w : World) (hl : l.length ≤ 140737488355328) (h : ∀ c ∈ l, hexs.contains c = true) :
    Calls Tryz.prog 109 #[.string ⟨l.toArray⟩, .int .i64 16, .int .i64 1114111] w fun e w' => e = .returned (.int .i64 (hexN l)) ∧ Below w.heap.size w w' := by
  refine (scan_number ⟨l.toArray⟩ 16 1114111 w ?_ (by omega) (by omega) ?_ ?_).mono fun e w' h => ?_
  · show l.toArray.size ≤ _
    simpa using hl
  · intro c hc
    exact lower_dig h c (by simpa using hc)
  · intro j b hb
    exact (hexs_mem (h b (List.mem_of_getElem? (by simpa using hb)))).2
  · simpa [hexN] using h

theorem scan_run_hexs (b : Nat) (s : ByteArray) (p : Nat) (rest : List Value) (t : TypeId) (w : World) (h : Rd w b s p rest t) (hp : p ≤ s.size) (hs : s.size ≤ 1000000000000000) :
    Calls Tryz.prog 108 #[.pointer (some ⟨b, 0, none⟩), .string ⟨#[48, 49, 50, 51, 52, 53, 54, 55, 56, 57, 97, 98, 99, 100, 101, 102, 65, 66, 67, 68, 69, 70]⟩] w fun e w' => e = .returned (.string ⟨(runP s p hexs).toArray⟩) ∧
      Rd w' b s (p + (runP s p hexs).length) rest t ∧ w.grownBy w' (some b) :=
  scan_run b s ⟨#[48, 49, 50, 51, 52, 53, 54, 55, 56, 57, 97, 98, 99, 100, 101, 102, 65, 66, 67, 68, 69, 70]⟩ p rest t w h hp hs (by decide) hexs_ascii

/-- The braced number: what it is, whether it is one. -/
def bracedN (s : ByteArray) (p : Nat) : Int × Bool × Nat :=
  (hexN (runP s (p + 1) hexs), !(runP s (p + 1) hexs).isEmpty && stands s (p + 1 + (runP s (p + 1) hexs).length) [125] && decide (hexN (runP s (p + 1) hexs) ≤ 1114111),
    if !(runP s (p + 1) hexs).isEmpty && stands s (p + 1 + (runP s (p + 1) hexs).length) [125] then p + 1 + (runP s (p + 1) hexs).length + 1 else p + 1 + (runP s (p + 1) hexs).length)

set_option maxHeartbeats 1000000 in
theorem esc_code_braced (b : Nat) (s : ByteArray) (p : Nat) (rest : List Value) (t : TypeId) (w : World) (h : Rd w b s p rest t) (hp : p ≤ s.size) (hs : s.size ≤ 140737488355328) (c1 : stands s p [123] = true) :
    Calls Tryz.prog 78 #[.pointer (some ⟨b, 0, none⟩)] w fun e w' => e = .returned (.tuple #[.int .i32 (bracedN s p).1, .bool (bracedN s p).2.1]) ∧
      Rd w' b s (bracedN s p).2.2 rest t ∧ w.grownBy w' (some b) := by
  have hs' : s.size ≤ 1000000000000000 := by omega
  have HR := Lib.hid h; clear h
  have l1 := Lib.hid (stands_le (p := ⟨#[123]⟩) hp c1)
  have hx := takeWhile_yes (fun x => hexs.contains x) (s.data.toList.drop (p + 1))
  have hbd : 0 ≤ hexN (runP s (p + 1) hexs) ∧ hexN (runP s (p + 1) hexs) ≤ 1114112 := hexN_bd hx
  obtain ⟨hn1, hn2⟩ := hbd
  have HX := Lib.hid hx; clear hx
  go_enter Tryz.func78, Tryz.ntmps78
  go_wp2_with fail
  refine (scan_has_yes _ s _ p _ _ _ HR.out hp hs' c1).mono ?_
  rintro e w1 ⟨rfl, hR, hG⟩
  have R1 := Lib.hid hR; have G1 := Lib.hid hG; clear hR hG
  go_wp2_with fail
  refine (scan_run_hexs _ s (p + 1) _ _ _ R1.out l1.out hs').mono ?_
  rintro e w2 ⟨rfl, hR, hG⟩
  have R2 := Lib.hid hR; have G2 := Lib.hid (grownBy_trans G1.out hG); clear hR hG
  have l2 := Lib.hid (runP_le_size s (p + 1) hexs l1.out)
  go_wp2_with fail
  refine (scan_number_hex (runP s (p + 1) hexs) _ (by have := runP_le s (p + 1) hexs; omega) HX.out).mono ?_
  rintro e w3 ⟨rfl, hB⟩
  have R3 := Lib.hid (show Rd w3 b s (p + 1 + (runP s (p + 1) hexs).length) rest t from Blk.below R2.out hB R2.out.lt); have G3 := Lib.hid (grownBy_trans G2.out (grownBy_below hB _)); clear hB
  by_cases c2 : runP s (p + 1) hexs = []
  · have HF := Lib.hid (show bracedN s p = (hexN [], false, p + 1) by unfold bracedN; rw [c2]; rfl)
    rw [c2] at hn1 hn2 R3
    rw [c2]
    go_wp2_with fail
    go_ret2
    refine ⟨by rw [HF.out]; rfl, by rw [HF.out]; exact R3.out, G3.out⟩
  · have e2 := isEmpty_no c2
    go_wp2_with fail
    by_cases c3 : stands s (p + 1 + (runP s (p + 1) hexs).length) [125] = true
    · have HF := Lib.hid (show bracedN s p = (hexN (runP s (p + 1) hexs), decide (hexN (runP s (p + 1) hexs) ≤ 1114111), p + 1 + (runP s (p + 1) hexs).length + 1) by unfold bracedN; rw [c3, e2]; rfl)
      refine (scan_has_yes _ s _ _ _ _ _ R3.out l2.out hs' c3).mono ?_
      rintro e w4 ⟨rfl, hR, hG⟩
      have R4 := Lib.hid hR; have G4 := Lib.hid (grownBy_trans G3.out hG); clear hR hG
      go_wp2_with fail
      go_ret2
      refine ⟨by rw [HF.out]; rfl, by rw [HF.out]; exact R4.out, G4.out⟩
    · have c3 : stands s (p + 1 + (runP s (p + 1) hexs).length) [125] = false := by simpa using c3
      have HF := Lib.hid (show bracedN s p = (hexN (runP s (p + 1) hexs), false, p + 1 + (runP s (p + 1) hexs).length) by unfold bracedN; rw [c3, e2]; rfl)
      refine (scan_has_no _ s _ _ _ _ _ R3.out l2.out c3).mono ?_
      rintro e w4 ⟨rfl, hR, hG⟩
      have R4 := Lib.hid hR; have G4 := Lib.hid (grownBy_trans G3.out hG); clear hR hG
      go_wp2_with fail
      go_ret2
      refine ⟨by rw [HF.out]; rfl, by rw [HF.out]; exact R4.out, G4.out⟩

set_option maxHeartbeats 400000 in
theorem scan_next_ascii (b : Nat) (s : ByteArray) (p : Nat) (x : UInt8) (rest : List Value) (t : TypeId) (w : World) (h : Rd w b s p rest t) (hp : p < s.size) (hx : s.data.toList[p]? = some x) (hx' : x.toNat < 128) (hs : s.size ≤ 1000000000000000) :
    Calls Tryz.prog 76 #[.pointer (some ⟨b, 0, none⟩)] w fun e w' => e = .returned (.int .i32 x.toNat) ∧ Rd w' b s (p + 1) rest t ∧ w.grownBy w' (some b) := by
  have HR := Lib.hid h
  have h0 := h.c0
  have h1 := h.c1
  clear h
  have HX := Lib.hid hx; clear hx
  have hd : decide ((s.size : Int) ≤ (p : Int)) = false := by simp; omega
  go_enter Tryz.func76, Tryz.ntmps76
  go_wp2_with fail
  go_quiet (fail)
  go_wp2_with fail
  refine (scan_rest b s p rest t _ (Blk.drewN HR.out _) (by omega)).mono ?_
  rintro e w1 ⟨rfl, hR, hB⟩
  have R1 := Lib.hid hR; have HB := Lib.hid hB; clear hR hB
  go_wp2_with fail
  refine (Tryz.utf8_DecodeRuneInString_ascii _ x _ (by rw [tail_toList]; simpa using HX.out) hx').mono ?_
  rintro e w2 ⟨rfl, rfl⟩
  have g1 := Rd.c1 R1.out
  have f1 := Rd.f1 R1.out
  clear h0 h1
  go_wp2_with fail
  go_ret
  refine ⟨rfl, ?_, grownBy_trans (grownBy_trans (grownBy_drewN w nq _) (grownBy_below HB.out _)) (grownBy_setCell _ _ _ _)⟩
  rw [show (p : Int) + 1 = ((p + 1 : Nat) : Int) by omega]
  exact Rd.move R1.out _
end Go.Proofs.YtnafemcholkmlaaGreatDoor
