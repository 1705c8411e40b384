/- What stands behind a backslash and x, without a brace: scan.esc.code's other cases; the name behind a backslash and p: scan.esc.name. The document's number behind a backslash and x: martelloref06.hex, number. -/
import Derived.Test.YtnafemcholkmlaaGreatDoorQCount
import Derived.Test.YtnafemcholkmlaaGreatDoorQNext
import Derived.LoopTactic
namespace Go.Proofs.YtnafemcholkmlaaGreatDoor
open Go Go.RowKit Go.Proofs

theorem trim_two (a b : UInt8) (cs : List UInt8) : Lib.trimS [a, b] cs = [] ↔ cs.contains a = true ∧ cs.contains b = true := by
  unfold Lib.trimS Lib.trimLeftS Lib.trimRightS
  cases ha : cs.contains a <;> cases hb : cs.contains b <;> simp [List.dropWhile, ha, hb, -List.contains_eq_mem]

theorem trim_hexs (s : ByteArray) (w : World) (hs : s.size ≤ 9223372036854775807) :
    Calls Tryz.prog 110 #[.string s, .string ⟨#[48, 49, 50, 51, 52, 53, 54, 55, 56, 57, 97, 98, 99, 100, 101, 102, 65, 66, 67, 68, 69, 70]⟩] w fun e w' => e = .returned (.string ⟨(Lib.trimS s.data.toList hexs).toArray⟩) ∧ Below w.heap.size w w' :=
  Any.strings_Trim_laid Tryz.lays160 (by kernel_rfl) s ⟨#[48, 49, 50, 51, 52, 53, 54, 55, 56, 57, 97, 98, 99, 100, 101, 102, 65, 66, 67, 68, 69, 70]⟩ w hs (by decide) hexs_ascii

set_option maxHeartbeats 1000000 in
theorem esc_code_short (b : Nat) (s : ByteArray) (p : Nat) (rest : List Value) (t : TypeId) (w : World) (h : Rd w b s p rest t) (hp : p ≤ s.size) (c1 : stands s p [123] = false) (c2 : s.size < p + 2) :
    Calls Tryz.prog 78 #[.pointer (some ⟨b, 0, none⟩)] w fun e w' => e = .returned (.tuple #[.int .i32 0, .bool false]) ∧ Rd w' b s p rest t ∧ w.grownBy w' (some b) := by
  have HR := Lib.hid h; clear h
  have hts := tail_size s p
  have hlen : ((tail s p).size : Int) < 2 := by omega
  go_enter Tryz.func78, Tryz.ntmps78
  go_wp2_with fail
  refine (scan_has_no _ s ⟨#[123]⟩ p _ _ _ HR.out hp c1).mono ?_
  rintro e w1 ⟨rfl, hR, hG⟩
  have R1 := Lib.hid hR; have G1 := Lib.hid hG; clear hR hG
  go_wp2_with fail
  refine (scan_rest _ s p _ _ _ R1.out hp).mono ?_
  rintro e w2 ⟨rfl, hR, hB⟩
  have R2 := Lib.hid hR; have G2 := Lib.hid (grownBy_trans G1.out (grownBy_below hB _)); clear hR hB
  go_wp2_with fail
  go_ret2
  exact ⟨rfl, R2.out, G2.out⟩

set_option maxHeartbeats 1000000 in
theorem esc_code_two (b : Nat) (s : ByteArray) (p : Nat) (x y : UInt8) (r : List UInt8) (rest : List Value) (t : TypeId) (w : World) (h : Rd w b s p rest t) (hp : p + 2 ≤ s.size) (hs : s.size ≤ 140737488355328) (c1 : stands s p [123] = false) (hxy : s.data.toList.drop p = x :: y :: r) :
    Calls Tryz.prog 78 #[.pointer (some ⟨b, 0, none⟩)] w fun e w' =>
      (hexs.contains x = true ∧ hexs.contains y = true → e = .returned (.tuple #[.int .i32 (hexN [x, y]), .bool true]) ∧ Rd w' b s (p + 2) rest t) ∧
      (¬ (hexs.contains x = true ∧ hexs.contains y = true) → e = .returned (.tuple #[.int .i32 0, .bool false]) ∧ Rd w' b s p rest t) ∧ w.grownBy w' (some b) := by
  have HR := Lib.hid h; clear h
  have hts := tail_size s p
  have hlen : ¬ ((tail s p).size : Int) < 2 := by omega
  have h2 : ((tail s p).extract 0 2).data.toList = [x, y] := by
    simp [ByteArray.data_extract, tail_toList, hxy]
  obtain ⟨z, hz⟩ : ∃ z, (tail s p).extract 0 2 = z := ⟨_, rfl⟩
  have HZ := Lib.hid hz
  rw [hz] at h2
  have hzs : z.size = 2 := by rw [Lib.size_eq, h2]; rfl
  have H2 := Lib.hid h2
  clear hz h2
  have hq : (2 : Int) ≤ ((tail s p).size : Int) := by omega
  have hq2 : 2 ≤ (tail s p).size := by omega
  by_cases hh : hexs.contains x = true ∧ hexs.contains y = true
  · have ht : Lib.trimS z.data.toList hexs = [] := by rw [H2.out]; exact (trim_two x y hexs).2 hh
    have HT := Lib.hid ht; have HH := Lib.hid hh
    clear ht hh
    go_enter Tryz.func78, Tryz.ntmps78
    go_wp2_with fail
    refine (scan_has_no _ s ⟨#[123]⟩ p _ _ _ HR.out (by omega) c1).mono ?_
    rintro e w1 ⟨rfl, hR, hG⟩
    have R1 := Lib.hid hR; have G1 := Lib.hid hG; clear hR hG
    go_wp2_with fail
    refine (scan_rest _ s p _ _ _ R1.out (by omega)).mono ?_
    rintro e w2 ⟨rfl, hR, hB⟩
    have R2 := Lib.hid hR; have G2 := Lib.hid (grownBy_trans G1.out (grownBy_below hB _)); clear hR hB
    go_wp2_with fail
    refine (scan_rest _ s p _ _ _ R2.out (by omega)).mono ?_
    rintro e w3 ⟨rfl, hR, hB⟩
    have R3 := Lib.hid hR; have G3 := Lib.hid (grownBy_trans G2.out (grownBy_below hB _)); clear hR hB
    go_wp2_with fail
    rw [HZ.out]
    refine (trim_hexs z _ (by omega)).mono ?_
    rintro e w4 ⟨rfl, hB⟩
    rw [HT.out]
    have R4 := Lib.hid (Blk.below R3.out hB R3.out.lt); have G4 := Lib.hid (grownBy_trans G3.out (grownBy_below hB _)); clear hB
    go_wp2_with fail
    refine (scan_rest _ s p _ _ _ R4.out (by omega)).mono ?_
    rintro e w5 ⟨rfl, hR, hB⟩
    have R5 := Lib.hid hR; have G5 := Lib.hid (grownBy_trans G4.out (grownBy_below hB _))
    have g1 := hR.c1; have f1 := hR.f1
    clear hR hB
    have hx : ∀ c ∈ [x, y], hexs.contains c = true := fun c hc => by simp only [List.mem_cons, List.not_mem_nil, or_false] at hc; exact hc.elim (fun e => e ▸ HH.out.1) (fun e => e ▸ HH.out.2)
    have hbd := hexN_bd hx
    have HX := Lib.hid hx; clear hx
    have hzq : z = ⟨[x, y].toArray⟩ := by
      have := H2.out
      cases z with | mk d => simp only at this; rw [← this]
    have HZQ := Lib.hid hzq; clear hzq
    go_wp2_with fail
    rw [HZ.out, HZQ.out]
    have R6 := Lib.hid (R5.out.move (p + 2))
    have G6 := Lib.hid (grownBy_trans G5.out (grownBy_setCell w5 b 1 (.int .i64 ((p + 2 : Nat) : Int))))
    refine (scan_number_hex [x, y] _ (by simp) HX.out).mono ?_
    rintro e w7 ⟨rfl, hB⟩
    have R7 := Lib.hid (Blk.below R6.out hB R6.out.lt); have G7 := Lib.hid (grownBy_trans G6.out (grownBy_below hB _)); clear hB
    clear g1 f1
    have hwr : IntKind.i32.wrap (hexN [x, y]) = hexN [x, y] := IntWalk.i32_in _ (by omega)
    go_wp2_with fail
    go_ret2
    exact ⟨fun _ => ⟨rfl, R7.out⟩, fun h => absurd HH.out h, G7.out⟩
  · have ht : Lib.trimS z.data.toList hexs ≠ [] := by rw [H2.out]; exact fun h => hh ((trim_two x y hexs).1 h)
    obtain ⟨u, hu⟩ : ∃ u, u = Lib.trimS z.data.toList hexs := ⟨_, rfl⟩
    have HU := Lib.hid hu
    rw [← hu] at ht
    have hne : ((⟨u.toArray⟩ : ByteArray).toList == []) = false := by
      rw [ByteArray.toList_eq]; simpa using ht
    have HH := Lib.hid hh
    clear ht hh hu
    go_enter Tryz.func78, Tryz.ntmps78
    go_wp2_with fail
    refine (scan_has_no _ s ⟨#[123]⟩ p _ _ _ HR.out (by omega) c1).mono ?_
    rintro e w1 ⟨rfl, hR, hG⟩
    have R1 := Lib.hid hR; have G1 := Lib.hid hG; clear hR hG
    go_wp2_with fail
    refine (scan_rest _ s p _ _ _ R1.out (by omega)).mono ?_
    rintro e w2 ⟨rfl, hR, hB⟩
    have R2 := Lib.hid hR; have G2 := Lib.hid (grownBy_trans G1.out (grownBy_below hB _)); clear hR hB
    go_wp2_with fail
    refine (scan_rest _ s p _ _ _ R2.out (by omega)).mono ?_
    rintro e w3 ⟨rfl, hR, hB⟩
    have R3 := Lib.hid hR; have G3 := Lib.hid (grownBy_trans G2.out (grownBy_below hB _)); clear hR hB
    go_wp2_with fail
    rw [HZ.out]
    refine (trim_hexs z _ (by omega)).mono ?_
    rintro e w4 ⟨rfl, hB⟩
    rw [← HU.out]
    have R4 := Lib.hid (Blk.below R3.out hB R3.out.lt); have G4 := Lib.hid (grownBy_trans G3.out (grownBy_below hB _)); clear hB
    obtain ⟨U, hU⟩ : ∃ U : ByteArray, U = ⟨u.toArray⟩ := ⟨_, rfl⟩
    rw [← hU] at hne ⊢
    clear hU
    go_wp2_with fail
    go_ret2
    exact ⟨fun h => absurd h HH.out, fun _ => ⟨rfl, R4.out⟩, G4.out⟩
end Go.Proofs.YtnafemcholkmlaaGreatDoor

namespace Go.Proofs.YtnafemcholkmlaaGreatDoor
open Go Go.RowKit Go.Proofs

/-- A hexadecimal digit's number. -/
def hexI (c : Int) : Int := if 48 ≤ c ∧ c ≤ 57 then c - 48 else if 97 ≤ c ∧ c ≤ 102 then c - 87 else if 65 ≤ c ∧ c ≤ 70 then c - 55 else -1

theorem retI {a b : Int} (h : a = b) : Ending.returned (.int .i64 a) = .returned (.int .i64 b) := by rw [h]
set_option maxHeartbeats 1000000 in
theorem ref06_hex (c : Int) (w : World) (h0 : 0 ≤ c) (h1 : c ≤ 255) : Calls Tryz.prog 132 #[.int .u8 c] w fun e w' => e = .returned (.int .i64 (hexI c)) ∧ w' = w := by
  have HH := Lib.hid (show c < 48 ∨ (48 ≤ c ∧ c ≤ 57) ∨ (58 ≤ c ∧ c ≤ 64) ∨ (65 ≤ c ∧ c ≤ 70) ∨ (71 ≤ c ∧ c ≤ 96) ∨ (97 ≤ c ∧ c ≤ 102) ∨ 102 < c by omega)
  have w1 : 48 ≤ c → c ≤ 57 → IntKind.u8.wrap (c - 48) = c - 48 := fun _ _ => by simp only [IntKind.wrap, IntKind.bits, IntKind.signed]; simp; omega
  have w2 : 97 ≤ c → c ≤ 102 → IntKind.u8.wrap (c - 97) = c - 97 := fun _ _ => by simp only [IntKind.wrap, IntKind.bits, IntKind.signed]; simp; omega
  have w3 : 65 ≤ c → c ≤ 70 → IntKind.u8.wrap (c - 65) = c - 65 := fun _ _ => by simp only [IntKind.wrap, IntKind.bits, IntKind.signed]; simp; omega
  rcases HH.out with h | ⟨h, h'⟩ | ⟨h, h'⟩ | ⟨h, h'⟩ | ⟨h, h'⟩ | ⟨h, h'⟩ | h
  · have a1 : decide (48 ≤ c) = false := by simp; omega
    have a2 : decide (97 ≤ c) = false := by simp; omega
    have a3 : decide (65 ≤ c) = false := by simp; omega
    go_enter Tryz.func132, Tryz.ntmps132
    go_wp2_with fail
    go_ret
    exact ⟨retI (by unfold hexI; rw [if_neg (by omega), if_neg (by omega), if_neg (by omega)]), rfl⟩
  · have w4 := w1 h h'
    clear w1 w2 w3
    go_enter Tryz.func132, Tryz.ntmps132
    go_wp2_with fail
    go_ret
    exact ⟨retI (by unfold hexI; rw [if_pos (by omega)]), rfl⟩
  · have a1 : 48 ≤ c := by omega
    have a2 : decide (c ≤ 57) = false := by simp; omega
    have a3 : decide (97 ≤ c) = false := by simp; omega
    have a4 : decide (65 ≤ c) = false := by simp; omega
    clear w1 w2 w3
    go_enter Tryz.func132, Tryz.ntmps132
    go_wp2_with fail
    go_ret
    exact ⟨retI (by unfold hexI; rw [if_neg (by omega), if_neg (by omega), if_neg (by omega)]), rfl⟩
  · have a1 : 48 ≤ c := by omega
    have a2 : decide (c ≤ 57) = false := by simp; omega
    have a3 : decide (97 ≤ c) = false := by simp; omega
    have w4 := w3 h h'
    have w5 : wrap64 (c - 65 + 10) = c - 55 := by unfold wrap64; omega
    clear w1 w2 w3
    go_enter Tryz.func132, Tryz.ntmps132
    go_wp2_with fail
    go_ret
    exact ⟨retI (by unfold hexI; rw [if_neg (by omega), if_neg (by omega), if_pos (by omega)]; omega), rfl⟩
  · have a1 : 48 ≤ c := by omega
    have a2 : decide (c ≤ 57) = false := by simp; omega
    have a3 : decide (97 ≤ c) = false := by simp; omega
    have a4 : 65 ≤ c := by omega
    have a5 : decide (c ≤ 70) = false := by simp; omega
    clear w1 w2 w3
    go_enter Tryz.func132, Tryz.ntmps132
    go_wp2_with fail
    go_ret
    exact ⟨retI (by unfold hexI; rw [if_neg (by omega), if_neg (by omega), if_neg (by omega)]), rfl⟩
  · have a1 : 48 ≤ c := by omega
    have a2 : decide (c ≤ 57) = false := by simp; omega
    have w4 := w2 h h'
    clear w1 w2 w3
    go_enter Tryz.func132, Tryz.ntmps132
    go_wp2_with fail
    go_ret
    exact ⟨retI (by unfold hexI; rw [if_neg (by omega), if_pos (by omega)]; omega), rfl⟩
  · have a1 : 48 ≤ c := by omega
    have a2 : decide (c ≤ 57) = false := by simp; omega
    have a3 : 97 ≤ c := by omega
    have a4 : decide (c ≤ 102) = false := by simp; omega
    have a5 : 65 ≤ c := by omega
    have a6 : decide (c ≤ 70) = false := by simp; omega
    clear w1 w2 w3
    go_enter Tryz.func132, Tryz.ntmps132
    go_wp2_with fail
    go_ret
    exact ⟨retI (by unfold hexI; rw [if_neg (by omega), if_neg (by omega), if_neg (by omega)]), rfl⟩

theorem hexI_in (x : UInt8) (h : hexs.contains x = true) : 0 ≤ hexI x.toNat ∧ hexI x.toNat ≤ 15 ∧ hexI x.toNat = (if (Lib.lowerB x).toNat > 57 then ((Lib.lowerB x).toNat : Int) - 87 else ((Lib.lowerB x).toNat : Int) - 48) := by
  have key : ∀ k : Fin 256, hexs.contains (UInt8.ofNat k.val) = true → 0 ≤ hexI (UInt8.ofNat k.val).toNat ∧ hexI (UInt8.ofNat k.val).toNat ≤ 15 ∧ hexI (UInt8.ofNat k.val).toNat = (if (Lib.lowerB (UInt8.ofNat k.val)).toNat > 57 then ((Lib.lowerB (UInt8.ofNat k.val)).toNat : Int) - 87 else ((Lib.lowerB (UInt8.ofNat k.val)).toNat : Int) - 48) := by decide +kernel
  have := key ⟨x.toNat, x.toNat_lt⟩
  simp only [UInt8.ofNat_toNat] at this
  exact this h
theorem hexI_out (x : UInt8) (h : hexs.contains x = false) : hexI x.toNat = -1 := by
  have key : ∀ k : Fin 256, hexs.contains (UInt8.ofNat k.val) = false → hexI (UInt8.ofNat k.val).toNat = -1 := by decide +kernel
  have := key ⟨x.toNat, x.toNat_lt⟩
  simp only [UInt8.ofNat_toNat] at this
  exact this h

def signI (c : Int) : Bool := (33 ≤ c ∧ c ≤ 47) ∨ (58 ≤ c ∧ c ≤ 64) ∨ (91 ≤ c ∧ c ≤ 96) ∨ (123 ≤ c ∧ c ≤ 126)
theorem ref06_SignI (c : Int) (w : World) : Calls Tryz.prog 92 #[.int .i32 c] w fun e w' => e = .returned (.bool (signI c)) ∧ w' = w := by
  go_enter Tryz.func92, Tryz.ntmps92
  go_wp2_with fail
  all_goals
    go_ret
    refine ⟨congrArg (fun z => Ending.returned (Value.bool z)) (?_ : _ = signI c), rfl⟩
    first
      | (refine Bool.eq_iff_iff.2 ?_
         simp only [signI, decide_eq_true_eq, Bool.or_eq_true, reduceCtorEq, true_iff, false_iff]
         omega)
      | (refine Bool.eq_iff_iff.2 ?_
         simp only [signI, decide_eq_true_eq, Bool.or_eq_true, reduceCtorEq]
         omega)

def letterI (c : Int) : Int := if c = 97 then 7 else if c = 102 then 12 else if c = 110 then 10 else if c = 114 then 13 else if c = 116 then 9 else if c = 118 then 11 else -1
theorem ref06_letter (c : Int) (w : World) : Calls Tryz.prog 93 #[.int .i32 c] w fun e w' => e = .returned (.int .i32 (letterI c)) ∧ w' = w := by
  go_enter Tryz.func93, Tryz.ntmps93
  go_wp2_with fail
  all_goals
    go_ret
    refine ⟨?_, rfl⟩
    simp only [beq_iff_eq, beq_eq_false_iff_ne, ne_eq] at *
    unfold letterI
    simp [*]
def placeI (c : Int) : Int := if c = 65 then 1 else if c = 122 then 2 else if c = 98 then 16 else if c = 66 then 32 else 0
theorem ref06_place (c : Int) (w : World) : Calls Tryz.prog 134 #[.int .i32 c] w fun e w' => e = .returned (.int .i64 (placeI c)) ∧ w' = w := by
  go_enter Tryz.func134, Tryz.ntmps134
  go_wp2_with fail
  all_goals
    go_ret
    refine ⟨?_, rfl⟩
    simp only [beq_iff_eq, beq_eq_false_iff_ne, ne_eq] at *
    unfold placeI
    simp [*]
end Go.Proofs.YtnafemcholkmlaaGreatDoor
