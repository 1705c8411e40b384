/- The reader of layer 7: an item, first part. -/
import Derived.Test.YtnafemcholkmlaaGreatDoorQBrText
namespace Go.Proofs.YtnafemcholkmlaaGreatDoor
open Go Go.RowKit Go.Proofs Go.Shelf

/-- An escape, as a value. -/
def escV (k r : Int) (v : Value) (a : Int) : Value := .agg #[.int .i64 k, .int .i32 r, v, .int .i64 a]
/-- What the reader's one hands back. -/
def OneOut (w : World) (b : Nat) (s : ByteArray) (fr : Int) (perl : Bool) (r : EscR) (e : Ending) (w' : World) : Prop :=
  w.grownBy w' (some b) ∧ match r with
  | .wrong x f t => e = wrongE x f t
  | .lit k r a q => e = .returned (escV k r (.slice none 0 0) a) ∧ BrR w' b s q.toNat fr perl
  | .set f q => ∃ v out, e = .returned (escV 2 0 v 0) ∧ Laid w w' out v ∧ IsSet out f ∧ out.length ≤ 1000 ∧ BrR w' b s q.toNat fr perl
/-- What the reader's item hands back. -/
def ItemOut (w : World) (b : Nat) (s : ByteArray) (fr : Int) (perl : Bool) (r : ItemR) (e : Ending) (w' : World) : Prop :=
  w.grownBy w' (some b) ∧ match r with
  | .wrong x f t => e = wrongE x f t
  | .ok f q => ∃ v out, e = .returned v ∧ Laid w w' out v ∧ (∀ c, 0 ≤ c → c ≤ 1114111 → memR out c = f c) ∧ out.length ≤ 1000 ∧ BrR w' b s q fr perl

theorem bne_of_tail {s : ByteArray} {p : Nat} (h : p < s.size) : (tail s p).toList.isEmpty = false := by
  rw [ByteArray.toList_eq, tail_toList]
  exact List.isEmpty_eq_false_iff.2 (fun e => by have := congrArg List.length e; simp at this; omega)
theorem tail_pos {s : ByteArray} {p : Nat} (k : Nat) (h : p + k < s.size) : k < (tail s p).size := by rw [tail_size]; omega
theorem tail_at {s : ByteArray} {p : Nat} (k : Nat) (h : p + k < s.size) : (tail s p)[k]'(tail_pos k h) = s[p + k] := by
  have h1 := getElem_toList (tail s p) k (tail_pos k h)
  rw [tail_toList, List.getElem?_drop, getElem_toList s (p + k) h] at h1
  exact (Option.some.inj h1).symm
/-- The byte at a place of what is left, against a sign. -/
theorem tail_is {s : ByteArray} {p : Nat} (k : Nat) (c : UInt8) (h : p + k < s.size) : ((((tail s p)[k]'(tail_pos k h)).toNat : Int) == (c.toNat : Int)) = stands s (p + k) [c] := by
  rw [tail_at k h]
  cases hs : stands s (p + k) [c] with
  | true =>
    obtain ⟨_, e⟩ := (stands_one s (p + k) c).1 hs
    rw [e]; simp
  | false =>
    rw [beq_eq_false_iff_ne]
    intro e
    have : stands s (p + k) [c] = true := (stands_one s (p + k) c).2 ⟨h, UInt8.toNat_inj.1 (by omega)⟩
    rw [hs] at this; cases this
theorem grownBy_new {a b : World} {row : Option Nat} (h : a.grownBy b row) {k : Nat} (hk : a.heap.size ≤ k) (j : Nat) (v : Value) : a.grownBy (b.setCell ⟨k, j, none⟩ v) row :=
  ⟨h.os, h.tape, h.output, by have := h.size; simpa [World.setCell] using this, fun i hi hne => (Below.heap_setCell b ⟨k, j, none⟩ v i (by show i ≠ k; omega)).trans (h.block i hi hne)⟩
theorem grownBy_new4 {a b : World} {row : Option Nat} (h : a.grownBy b row) {k : Nat} (hk : a.heap.size ≤ k) (v0 v1 v2 v3 : Value) : a.grownBy (World.set4 b k v0 v1 v2 v3) row :=
  grownBy_new (grownBy_new (grownBy_new (grownBy_new h hk 0 v0) hk 1 v1) hk 2 v2) hk 3 v3

set_option maxHeartbeats 1000000 in
theorem one_rune (b : Nat) (s : ByteArray) (p : Nat) (fr : Int) (perl : Bool) (w : World) (h : BrR w b s p fr perl) (hT : Tabs w) (hp : p < s.size) (hs : s.size ≤ 140737488355328) (hn : stands s p [92] = false) :
    Calls Tryz.prog 33 #[.pointer (some ⟨b, 0, none⟩)] w (OneOut w b s fr perl (.lit 1 (nextC s p) 0 (nextW s p))) := by
  have HR := Lib.hid (show BrR (w.alloc (.cells #[.int .i64 0, .int .i32 0, .slice none 0 0, .int .i64 0] 64)) b s p fr perl from Blk.alloc h _)
  have HE := Lib.hid (Blk.new w [.int .i64 0, .int .i32 0, .slice none 0 0, .int .i64 0] 64)
  have HT := Lib.hid (hT.alloc (.cells #[.int .i64 0, .int .i32 0, .slice none 0 0, .int .i64 0] 64))
  have ht := bne_of_tail hp
  have HF := Lib.hid (show nextC s p = ((Utf8.decode s p).1 : Int) ∧ nextW s p = p + (Utf8.decode s p).2 by unfold nextC nextW; rw [if_pos hp, if_pos hp]; exact ⟨rfl, rfl⟩)
  have hle := decode_le_size s p hp
  have hbt := Lib.hid h.lt
  clear h
  go_enter Tryz.func33, Tryz.ntmps33
  go_wp2_with fail
  refine (br_rest b s p _ _ _ HR.out (by omega)).mono ?_
  rintro e w1 ⟨rfl, hR, hB⟩
  have R1 := Lib.hid hR; have T1 := Lib.hid (HT.out.below hB); have E1 := Lib.hid (Blk.below HE.out hB HE.out.lt); have B1 := Lib.hid hB; clear hR hB
  go_wp2_with fail
  refine (br_rest b s p _ _ _ R1.out (by omega)).mono ?_
  rintro e w2 ⟨rfl, hR, hB⟩
  have R2 := Lib.hid hR; have T2 := Lib.hid (T1.out.below hB); have E2 := Lib.hid (Blk.below E1.out hB E1.out.lt); have B2 := Lib.hid (below_then B1.out hB); clear hR hB
  have hz : 0 < (tail s p).size := tail_pos 0 hp
  have hz' : (0 : Int) < ((tail s p).size : Int) := by omega
  have h92 : ((((tail s p)[0]'hz).toNat : Int) == 92) = false := (tail_is 0 92 hp).trans hn
  go_wp2_with fail
  refine (br_rest b s p _ _ _ R2.out (by omega)).mono ?_
  rintro e w3 ⟨rfl, hR, hB⟩
  have R3 := Lib.hid hR; have T3 := Lib.hid (T2.out.below hB); have E3 := Lib.hid (Blk.below E2.out hB E2.out.lt); have B3 := Lib.hid (below_then B2.out hB); clear hR hB
  go_wp2_with fail
  refine (Tryz.utf8_DecodeRuneInString _ _ T3.out).mono ?_
  rintro e w4 ⟨rfl, hB⟩
  rw [decodeGo_tail s p hp]
  have R4 := Lib.hid (Rd.below R3.out hB R3.out.lt); have E4 := Lib.hid (Blk.below E3.out hB E3.out.lt); have B4 := Lib.hid (below_then B3.out hB); clear hB
  have g1 := Rd.c1 R4.out
  have f1 := Rd.f1 R4.out
  clear hz' h92
  have e0 := Blk.cell E4.out (j := 0) rfl; have e1 := Blk.cell E4.out (j := 1) rfl; have e2 := Blk.cell E4.out (j := 2) rfl; have e3 := Blk.cell E4.out (j := 3) rfl
  have p0 := E4.out.frozen 0; have p1 := E4.out.frozen 1; have p2 := E4.out.frozen 2; have p3 := E4.out.frozen 3
  have hbw : b ≠ w.heap.size := by have := hbt.out; omega
  have hwb : w.heap.size ≠ b := by have := hbt.out; omega
  go_wp2_with fail
  change bodyPost _ _ _ _ _ (World.set4 (w4.setCell ⟨b, 1, none⟩ (.int .i64 (p + (Utf8.decode s p).2))) w.heap.size (.int .i64 1) (.int .i32 (Utf8.decode s p).1) (.slice none 0 0) (.int .i64 0))
  have O := (E4.out.setCell_other (a := ⟨b, 1, none⟩) hwb (.int .i64 (p + (Utf8.decode s p).2))).set4 (.int .i64 1) (.int .i32 (Utf8.decode s p).1) (.slice none 0 0) (.int .i64 0)
  have o0 := Blk.cell O (j := 0) rfl; have o1 := Blk.cell O (j := 1) rfl; have o2 := Blk.cell O (j := 2) rfl; have o3 := Blk.cell O (j := 3) rfl
  refine bodyPost_ret (v := escV 1 (Utf8.decode s p).1 (.slice none 0 0) 0) ?_ rfl ⟨?_, ?_, ?_⟩
  · simp [results, Tryz.results33, go_sem, o0, o1, o2, o3, escV]
  · exact grownBy_new4 (grownBy_trans (grownBy_alloc w _ _) (grownBy_trans (grownBy_below B4.out _) (grownBy_setCell _ _ _ _))) (Nat.le_refl _) _ _ _ _
  · rw [HF.out.1]
  · rw [HF.out.2]
    exact Blk.set4_other (b := w.heap.size) (Rd.move R4.out (p + (Utf8.decode s p).2)) hbw _ _ _ _
end Go.Proofs.YtnafemcholkmlaaGreatDoor
