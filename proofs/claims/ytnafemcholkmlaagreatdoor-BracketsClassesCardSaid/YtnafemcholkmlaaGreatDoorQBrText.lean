/- The reader of layer 7: what is left, what is next. The reader of layer 7: giving up; a rune, or an escape. The reader of layer 7: a name between colons, where there is none. -/
import Derived.Test.YtnafemcholkmlaaGreatDoorQScan1
import Derived.Test.YtnafemcholkmlaaGreatDoorQBrSpec
import Derived.RegionDies
namespace Go.Proofs.YtnafemcholkmlaaGreatDoor
open Go Go.RowKit Go.Proofs

set_option maxHeartbeats 400000 in
theorem br_rest_q (b : Nat) (s : ByteArray) (p : Nat) (rest : List Value) (t : TypeId) (w : World) (h : Rd w b s p rest t) (hp : p ≤ s.size) :
    Calls Tryz.prog 31 #[.pointer (some ⟨b, 0, none⟩)] w fun e w' => e = .returned (.string (tail s p)) ∧ ∃ n, w' = w.drewN n := by
  have h0 := h.c0
  have h1 := h.c1
  clear h
  have hq : (p : Int) ≤ (s.size : Int) := by omega
  go_enter Tryz.func31, Tryz.ntmps31
  go_wp2_with fail
  go_quiet (fail)
  go_wp2_with fail
  go_ret
  exact ⟨rfl, _, rfl⟩

theorem br_rest (b : Nat) (s : ByteArray) (p : Nat) (rest : List Value) (t : TypeId) (w : World) (h : Rd w b s p rest t) (hp : p ≤ s.size) :
    Calls Tryz.prog 31 #[.pointer (some ⟨b, 0, none⟩)] w fun e w' => e = .returned (.string (tail s p)) ∧ Rd w' b s p rest t ∧ Below w.heap.size w w' :=
  (br_rest_q b s p rest t w h hp).mono fun _ _ ⟨he, n, hw⟩ => ⟨he, by rw [hw]; exact Blk.drewN h n, by rw [hw]; exact below_drewN (Below.refl _ _) n⟩

set_option maxHeartbeats 400000 in
theorem br_has_yes (b : Nat) (s p : ByteArray) (i : Nat) (rest : List Value) (t : TypeId) (w : World) (h : Rd w b s i rest t) (hi : i ≤ s.size) (hs : s.size ≤ 1000000000000000)
    (hy : stands s i p.data.toList = true) :
    Calls Tryz.prog 18 #[.pointer (some ⟨b, 0, none⟩), .string p] w fun e w' => e = .returned (.bool true) ∧ Rd w' b s (i + p.size) rest t ∧ w.grownBy w' (some b) := by
  have hp := stands_le hi hy
  have HY := Lib.hid hy; clear hy
  have HR := Lib.hid h; clear h
  go_enter Tryz.func18, Tryz.ntmps18
  go_wp2_with fail
  refine (br_rest b s i rest t _ HR.out hi).mono ?_
  rintro e w1 ⟨rfl, hR, hB⟩
  have HR1 := Lib.hid hR; clear hR
  have HB := Lib.hid hB; clear hB
  go_wp2_with fail
  refine (Tryz.strings_HasPrefix _ _ _).mono ?_
  rintro e w1 ⟨rfl, rfl⟩
  rw [tail_toList, show Lib.hasPrefix (List.drop i s.data.toList) p.data.toList = true from HY.out]
  have h1 := HR1.out.c1
  have f1 := HR1.out.f1
  go_wp2_with fail
  go_ret
  refine ⟨rfl, ?_, grownBy_trans (grownBy_below HB.out _) (grownBy_setCell _ _ _ _)⟩
  rw [← Int.natCast_add]
  exact Rd.move HR1.out _

set_option maxHeartbeats 400000 in
theorem br_has_no (b : Nat) (s p : ByteArray) (i : Nat) (rest : List Value) (t : TypeId) (w : World) (h : Rd w b s i rest t) (hi : i ≤ s.size)
    (hy : stands s i p.data.toList = false) :
    Calls Tryz.prog 18 #[.pointer (some ⟨b, 0, none⟩), .string p] w fun e w' => e = .returned (.bool false) ∧ Rd w' b s i rest t ∧ w.grownBy w' (some b) := by
  have HY := Lib.hid hy; clear hy
  have HR := Lib.hid h; clear h
  go_enter Tryz.func18, Tryz.ntmps18
  go_wp2_with fail
  refine (br_rest b s i rest t _ HR.out hi).mono ?_
  rintro e w1 ⟨rfl, hR, hB⟩
  have HR1 := Lib.hid hR; clear hR
  have HB := Lib.hid hB; clear hB
  go_wp2_with fail
  refine (Tryz.strings_HasPrefix _ _ _).mono ?_
  rintro e w1 ⟨rfl, rfl⟩
  rw [tail_toList, show Lib.hasPrefix (List.drop i s.data.toList) p.data.toList = false from HY.out]
  go_wp2_with fail
  go_ret
  exact ⟨rfl, HR1.out, grownBy_below HB.out _⟩
end Go.Proofs.YtnafemcholkmlaaGreatDoor

namespace Go.Proofs.YtnafemcholkmlaaGreatDoor
open Go Go.RowKit Go.Proofs Go.Shelf

/-- What is wrong, as a panic bears it. -/
abbrev wrongV (e f t : Int) : Value := .agg #[.int .i64 e, .int .i64 f, .int .i64 t]
abbrev wrongE (e f t : Int) : Ending := .panicked [{ v := .iface 27 (wrongV e f t), recovered := false }]

theorem br_stop (e f t : Int) (w : World) : Calls Tryz.prog 34 #[.int .i64 e, .int .i64 f, .int .i64 t] w fun en w' => en = wrongE e f t ∧ w' = w := by
  go_enter Tryz.func34, Tryz.ntmps34
  go_wp2
  exact ⟨rfl, rfl, rfl⟩

theorem tail_nil {s : ByteArray} {p : Nat} (h : s.size ≤ p) : tail s p = ⟨#[]⟩ := by
  apply ByteArray.ext
  apply Array.toList_inj.1
  rw [tail_toList, List.drop_eq_nil_of_le (by simpa using h)]
theorem tail_some {s : ByteArray} {p : Nat} (h : p < s.size) : ¬ tail s p = ⟨#[]⟩ := by
  intro e
  have := congrArg ByteArray.size e
  rw [tail_size] at this
  have h0 : (⟨#[]⟩ : ByteArray).size = 0 := rfl
  omega

/-- The reader of a class, in its block. -/
abbrev BrR (w : World) (b : Nat) (s : ByteArray) (p : Nat) (fr : Int) (perl : Bool) : Prop := Rd w b s p [.int .i64 fr, .bool perl] 48

set_option maxHeartbeats 1000000 in
theorem one_end (b : Nat) (s : ByteArray) (p : Nat) (fr : Int) (perl : Bool) (w : World) (h : BrR w b s p fr perl) (hp : p = s.size) :
    Calls Tryz.prog 33 #[.pointer (some ⟨b, 0, none⟩)] w fun e w' => e = wrongE 71 fr s.size ∧ w.grownBy w' (some b) := by
  have HR := Lib.hid (show BrR (w.alloc (.cells #[.int .i64 0, .int .i32 0, .slice none 0 0, .int .i64 0] 64)) b s p fr perl from Blk.alloc h _)
  have ht := tail_nil (s := s) (p := p) (by omega)
  clear h
  go_enter Tryz.func33, Tryz.ntmps33
  go_wp2_with fail
  refine (br_rest b s p _ _ _ HR.out (by omega)).mono ?_
  rintro e w1 ⟨rfl, hR, hB⟩
  have R1 := Lib.hid hR; have B1 := Lib.hid hB; clear hR hB
  rw [ht]
  have g0 := Rd.c0 R1.out
  have g1 : w1.cell? ⟨b, 2, none⟩ = some (.int .i64 fr) := Blk.cell R1.out rfl
  go_wp2_with fail
  go_region_dies
  all_goals
    go_at_call 34
    refine (br_stop _ _ _ _).mono ?_
    rintro e w9 ⟨rfl, rfl⟩
    exact ⟨rfl, rfl, grownBy_trans (grownBy_alloc w _ _) (grownBy_trans (grownBy_below B1.out _) (grownBy_drew _ _))⟩
end Go.Proofs.YtnafemcholkmlaaGreatDoor

namespace Go.Proofs.YtnafemcholkmlaaGreatDoor
open Go Go.RowKit Go.Proofs Go.Shelf

theorem cut_toList (s : ByteArray) (p : Nat) (x : List UInt8) (h : stands s p x = true) : (⟨(Lib.trimPrefix (tail s p).data.toList x).toArray⟩ : ByteArray) = tail s (p + x.length) := by
  apply ByteArray.ext
  apply Array.toList_inj.1
  rw [tail_toList, tail_toList]
  unfold stands at h
  simp only [Lib.trimPrefix, h, if_true, List.drop_drop]
theorem trim_tail (s : ByteArray) (p : Nat) (cs : List UInt8) : (⟨(Lib.trimLeftS (tail s p).data.toList cs).toArray⟩ : ByteArray) = tail s (p + (runP s p cs).length) := by
  apply ByteArray.ext
  apply Array.toList_inj.1
  rw [tail_toList, tail_toList]
  unfold Lib.trimLeftS runP
  have h := List.takeWhile_append_dropWhile (p := fun x => cs.contains x) (l := s.data.toList.drop p)
  have h2 : (s.data.toList.drop p).drop ((s.data.toList.drop p).takeWhile (fun x => cs.contains x)).length = (s.data.toList.drop p).dropWhile (fun x => cs.contains x) := by
    conv => lhs; arg 2; rw [← h]
    exact List.drop_left
  rw [List.drop_drop] at h2
  simpa using h2.symm
theorem nmL_ascii : ∀ (j : Nat) (c : UInt8), nmL[j]? = some c → c.toNat < 128 := by
  intro j c h
  have hm := List.mem_of_getElem? h
  exact (show ∀ c ∈ nmL, c.toNat < 128 by decide) c hm

set_option maxHeartbeats 1000000 in
theorem named_not (b : Nat) (s : ByteArray) (p : Nat) (fr : Int) (perl : Bool) (w : World) (h : BrR w b s p fr perl) (hp : p ≤ s.size) (hn : stands s p [91, 58] = false) :
    Calls Tryz.prog 32 #[.pointer (some ⟨b, 0, none⟩)] w fun e w' => e = .returned (.tuple #[.slice none 0 0, .bool false]) ∧ BrR w' b s p fr perl ∧ w.grownBy w' (some b) := by
  have HR := Lib.hid h
  have HN := Lib.hid hn
  clear h hn
  go_enter Tryz.func32, Tryz.ntmps32
  go_wp2_with fail
  refine (br_rest b s p _ _ _ HR.out hp).mono ?_
  rintro e w1 ⟨rfl, hR, hB⟩
  have R1 := Lib.hid hR; have B1 := Lib.hid hB; clear hR hB
  go_wp2_with fail
  refine (Tryz.strings_CutPrefix (tail s p) ⟨#[91, 58]⟩ _).mono ?_
  rintro e w2 ⟨rfl, rfl⟩
  rw [show Lib.hasPrefix (tail s p).data.toList (⟨#[91, 58]⟩ : ByteArray).data.toList = false by rw [tail_toList]; exact HN.out]
  go_wp2_with fail
  refine (Any.strings_TrimLeft_laid Tryz.lays161 (by kernel_rfl) _ ⟨#[97, 98, 99, 100, 101, 102, 103, 104, 105, 106, 107, 108, 109, 110, 111, 112, 113, 114, 115, 116, 117, 118, 119, 120, 121, 122, 94]⟩ _ (by decide) nmL_ascii).mono ?_
  rintro e w3 ⟨rfl, hB⟩
  have R3 := Lib.hid (Rd.below R1.out hB R1.out.lt); have B3 := Lib.hid (below_then B1.out hB); clear hB
  go_wp2_with fail
  go_ret2
  exact ⟨rfl, R3.out, grownBy_below B3.out _⟩
set_option maxHeartbeats 1000000 in
theorem named_open (b : Nat) (s : ByteArray) (p : Nat) (fr : Int) (perl : Bool) (w : World) (h : BrR w b s p fr perl) (hp : p ≤ s.size) (hn : stands s p [91, 58] = true)
    (he : stands s (p + 2 + (runP s (p + 2) nmL).length) [58, 93] = false) :
    Calls Tryz.prog 32 #[.pointer (some ⟨b, 0, none⟩)] w fun e w' => e = .returned (.tuple #[.slice none 0 0, .bool false]) ∧ BrR w' b s p fr perl ∧ w.grownBy w' (some b) := by
  have HR := Lib.hid h
  have HN := Lib.hid hn
  have HE := Lib.hid he
  clear h hn he
  go_enter Tryz.func32, Tryz.ntmps32
  go_wp2_with fail
  refine (br_rest b s p _ _ _ HR.out hp).mono ?_
  rintro e w1 ⟨rfl, hR, hB⟩
  have R1 := Lib.hid hR; have B1 := Lib.hid hB; clear hR hB
  go_wp2_with fail
  refine (Tryz.strings_CutPrefix (tail s p) ⟨#[91, 58]⟩ _).mono ?_
  rintro e w2 ⟨rfl, rfl⟩
  rw [show Lib.hasPrefix (tail s p).data.toList (⟨#[91, 58]⟩ : ByteArray).data.toList = true by rw [tail_toList]; exact HN.out, show (⟨#[91, 58]⟩ : ByteArray).data.toList = [91, 58] from rfl, cut_toList s p _ HN.out]
  go_wp2_with fail
  refine (Any.strings_TrimLeft_laid Tryz.lays161 (by kernel_rfl) _ ⟨#[97, 98, 99, 100, 101, 102, 103, 104, 105, 106, 107, 108, 109, 110, 111, 112, 113, 114, 115, 116, 117, 118, 119, 120, 121, 122, 94]⟩ _ (by decide) nmL_ascii).mono ?_
  rintro e w3 ⟨rfl, hB⟩
  have R3 := Lib.hid (Rd.below R1.out hB R1.out.lt); have B3 := Lib.hid (below_then B1.out hB); clear hB
  rw [show (⟨#[97, 98, 99, 100, 101, 102, 103, 104, 105, 106, 107, 108, 109, 110, 111, 112, 113, 114, 115, 116, 117, 118, 119, 120, 121, 122, 94]⟩ : ByteArray).data.toList = nmL from rfl, trim_tail]
  go_wp2_with fail
  refine (Tryz.strings_HasPrefix _ _ _).mono ?_
  rintro e w4 ⟨rfl, rfl⟩
  rw [tail_toList, show Lib.hasPrefix (List.drop (p + 2 + (runP s (p + 2) nmL).length) s.data.toList) (⟨#[58, 93]⟩ : ByteArray).data.toList = false from HE.out]
  go_wp2_with fail
  go_ret2
  exact ⟨rfl, R3.out, grownBy_below B3.out _⟩
theorem named_no (b : Nat) (s : ByteArray) (p : Nat) (fr : Int) (perl : Bool) (w : World) (h : BrR w b s p fr perl) (hp : p ≤ s.size) (hn : namedP s p = none) :
    Calls Tryz.prog 32 #[.pointer (some ⟨b, 0, none⟩)] w fun e w' => e = .returned (.tuple #[.slice none 0 0, .bool false]) ∧ BrR w' b s p fr perl ∧ w.grownBy w' (some b) := by
  unfold namedP at hn
  by_cases c1 : stands s p [91, 58] = true
  · rw [if_pos c1] at hn
    by_cases c2 : stands s (p + 2 + (runP s (p + 2) nmL).length) [58, 93] = true
    · rw [if_pos c2] at hn; cases hn
    · exact named_open b s p fr perl w h hp c1 (Bool.eq_false_iff.2 c2)
  · exact named_not b s p fr perl w h hp (Bool.eq_false_iff.2 c1)
end Go.Proofs.YtnafemcholkmlaaGreatDoor
