/- The reader of layer 7: an item of one rune with no - behind. The reader of layer 7: an item whose first rune is none: wrong, a set, a place. (Printed by gen_britem.py.) -/
import Derived.Test.YtnafemcholkmlaaGreatDoorQBrItem1
namespace Go.Proofs.YtnafemcholkmlaaGreatDoor
open Go Go.RowKit Go.Proofs Go.Shelf

set_option maxHeartbeats 1000000 in
theorem item_alone (b : Nat) (s : ByteArray) (p : Nat) (fr : Int) (perl : Bool) (w : World) (h : BrR w b s p fr perl) (hp : p < s.size) (hn : namedP s p = none) (r a : Int) (q : Nat)
    (HO : ∀ W, BrR W b s p fr perl → w.grownBy W (some b) → Calls Tryz.prog 33 #[.pointer (some ⟨b, 0, none⟩)] W (OneOut W b s fr perl (.lit 1 r a q))) (hq : q ≤ s.size) (hl : q + 1 < s.size) (h93 : stands s (q + 1) [93] = false) (h45 : stands s q [45] = false) :
    Calls Tryz.prog 20 #[.pointer (some ⟨b, 0, none⟩)] w (ItemOut w b s fr perl (.ok (fun c => decide (r ≤ c) && decide (c ≤ r)) q)) := by
  have HR := Lib.hid h
  have HO' := Lib.hid HO; clear HO
  have hbt := Lib.hid h.lt
  have c1 := Rd.c1 h
  have hz : 1 < (tail s q).size := tail_pos 1 hl
  have hz' : (1 : Int) < ((tail s q).size : Int) := by omega
  have h93' : ((((tail s q)[1]'hz).toNat : Int) == 93) = false := (tail_is 1 93 hl).trans h93
  have h93n : ((((tail s q)[1]'hz).toNat : Int) != 93) = true := by rw [bne, h93']; rfl
  clear h
  go_enter Tryz.func20, Tryz.ntmps20
  go_wp2_with fail
  refine (named_no b s p fr perl _ HR.out (by omega) hn).mono ?_
  rintro e w1 ⟨rfl, hR, hG⟩
  have R1 := Lib.hid hR; have G1 := Lib.hid hG; clear hR hG c1
  go_wp2_with fail
  refine (HO'.out _ R1.out G1.out).mono ?_
  rintro e w2 ⟨hG, rfl, hR⟩
  have R2 := Lib.hid (show BrR w2 b s q fr perl from hR); have G2 := Lib.hid (grownBy_trans G1.out hG); clear hR hG
  unfold escV
  go_wp2_with fail
  refine (br_rest b s q _ _ _ ((R2.out.alloc _).alloc _) hq).mono ?_
  rintro e w3 ⟨rfl, hR, hB⟩
  have K0 := Lib.hid (Blk.below ((Blk.new w2 [.int .i64 1, .int .i32 r, .slice none 0 0, .int .i64 a] 64).alloc _) hB (by simp; omega))
  have K1 := Lib.hid (Blk.below (Blk.new (w2.alloc (.cells #[.int .i64 1, .int .i32 r, .slice none 0 0, .int .i64 a] 64)) [.int .i64 1, .int .i32 r, .slice none 0 0, .int .i64 a] 64) hB (by simp))
  have R3 := Lib.hid hR; have B3 := Lib.hid hB; clear hR hB
  have k0 := Blk.cell K0.out (j := 0) rfl; have k1 := Blk.cell K0.out (j := 1) rfl
  have m0 : w3.cell? ⟨w2.heap.size + 1, 0, none⟩ = some (.int .i64 1) := by have := Blk.cell K1.out (j := 0) rfl; simpa using this
  have m1 : w3.cell? ⟨w2.heap.size + 1, 1, none⟩ = some (.int .i32 r) := by have := Blk.cell K1.out (j := 1) rfl; simpa using this
  go_wp2_with fail
  refine (br_rest b s q _ _ _ R3.out hq).mono ?_
  rintro e w4 ⟨rfl, hR, hB⟩
  have M0 := Lib.hid (Blk.below K0.out hB K0.out.lt); have M1 := Lib.hid (Blk.below K1.out hB K1.out.lt)
  have R4 := Lib.hid hR; have B4 := Lib.hid (below_then B3.out hB); clear hR hB k0 k1 m0 m1
  have k0 := Blk.cell M0.out (j := 0) rfl; have k1 := Blk.cell M0.out (j := 1) rfl
  have m0 : w4.cell? ⟨w2.heap.size + 1, 0, none⟩ = some (.int .i64 1) := by have := Blk.cell M1.out (j := 0) rfl; simpa using this
  have m1 : w4.cell? ⟨w2.heap.size + 1, 1, none⟩ = some (.int .i32 r) := by have := Blk.cell M1.out (j := 1) rfl; simpa using this
  go_wp2_with fail
  refine (br_has_no b s ⟨#[45]⟩ q _ _ _ R4.out hq h45).mono ?_
  rintro e w5 ⟨rfl, hR, hG⟩
  have hbw := hbt.out; have hgs := G2.out.size; have hbs := B4.out.size
  have N0 := Lib.hid (M0.out.grown hG (ne_some (by omega))); have N1 := Lib.hid (M1.out.grown hG (ne_some (by simp; omega)))
  have R5 := Lib.hid hR; have G5 := Lib.hid hG; clear hR hG k0 k1 m0 m1 hbw hgs hbs
  have k0 := Blk.cell N0.out (j := 0) rfl; have k1 := Blk.cell N0.out (j := 1) rfl
  have m0 : w5.cell? ⟨w2.heap.size + 1, 0, none⟩ = some (.int .i64 1) := by have := Blk.cell N1.out (j := 0) rfl; simpa using this
  have m1 : w5.cell? ⟨w2.heap.size + 1, 1, none⟩ = some (.int .i32 r) := by have := Blk.cell N1.out (j := 1) rfl; simpa using this
  go_wp2_with fail
  refine bodyPost_ret (v := .slice (some ⟨w5.heap.size, 0, none⟩) 1 1) ?_ rfl ⟨?_, ?_⟩
  · simp [results, Tryz.results20]
  · exact grownBy_trans G2.out (grownBy_trans (grownBy_trans (grownBy_trans (grownBy_alloc _ _ _) (grownBy_alloc _ _ _)) (grownBy_trans (grownBy_below B4.out _) G5.out)) (grownBy_alloc _ _ _))
  · refine ⟨_, [(r, r)], rfl, ?_, fun c _ _ => by simp [memR], by simp, Blk.alloc R5.out _⟩
    have h1 := G2.out.size; have h2 := B4.out.size; have h3 := G5.out.size
    exact Joins.ownsRow_le (Laid.lit w5 [(r, r)] (flatR [(r, r)]).toArray rfl (by show 1 ≤ maxLen; decide)) (by simp at h2; omega)
end Go.Proofs.YtnafemcholkmlaaGreatDoor

namespace Go.Proofs.YtnafemcholkmlaaGreatDoor
open Go Go.RowKit Go.Proofs Go.Shelf

set_option maxHeartbeats 2000000 in
theorem item_wrong (b : Nat) (s : ByteArray) (p : Nat) (fr : Int) (perl : Bool) (w : World) (h : BrR w b s p fr perl) (hp : p < s.size) (hn : namedP s p = none) (x f t : Int) (HO : ∀ W, BrR W b s p fr perl → w.grownBy W (some b) → Calls Tryz.prog 33 #[.pointer (some ⟨b, 0, none⟩)] W (OneOut W b s fr perl (.wrong x f t))) :
    Calls Tryz.prog 20 #[.pointer (some ⟨b, 0, none⟩)] w (ItemOut w b s fr perl (.wrong x f t)) := by
  have HR := Lib.hid h
  have HO' := Lib.hid HO; clear HO
  have hbt := Lib.hid h.lt
  have c1 := Rd.c1 h
  clear h
  go_enter Tryz.func20, Tryz.ntmps20
  go_wp2_with fail
  refine (named_no b s p fr perl _ HR.out (by omega) hn).mono ?_
  rintro e w1 ⟨rfl, hR, hG⟩
  have R1 := Lib.hid hR; have G1 := Lib.hid hG; clear hR hG c1
  go_wp2_with fail
  refine (HO'.out _ R1.out G1.out).mono ?_
  rintro e w2 ⟨hG, rfl⟩
  exact ⟨rfl, grownBy_trans G1.out hG, rfl⟩
set_option maxHeartbeats 2000000 in
theorem item_set (b : Nat) (s : ByteArray) (p : Nat) (fr : Int) (perl : Bool) (w : World) (h : BrR w b s p fr perl) (hp : p < s.size) (hn : namedP s p = none) (f : Int → Bool) (q : Int) (HO : ∀ W, BrR W b s p fr perl → w.grownBy W (some b) → Calls Tryz.prog 33 #[.pointer (some ⟨b, 0, none⟩)] W (OneOut W b s fr perl (.set f q))) :
    Calls Tryz.prog 20 #[.pointer (some ⟨b, 0, none⟩)] w (ItemOut w b s fr perl (.ok f q.toNat)) := by
  have HR := Lib.hid h
  have HO' := Lib.hid HO; clear HO
  have hbt := Lib.hid h.lt
  have c1 := Rd.c1 h
  clear h
  go_enter Tryz.func20, Tryz.ntmps20
  go_wp2_with fail
  refine (named_no b s p fr perl _ HR.out (by omega) hn).mono ?_
  rintro e w1 ⟨rfl, hR, hG⟩
  have R1 := Lib.hid hR; have G1 := Lib.hid hG; clear hR hG c1
  go_wp2_with fail
  refine (HO'.out _ R1.out G1.out).mono ?_
  rintro e w2 ⟨hG, v, out, rfl, hL, hI, hN, hR⟩
  obtain ⟨sa, sc, rfl, _, _⟩ := Laid.ranges hL (by omega)
  have R2 := Lib.hid (show BrR w2 b s q.toNat fr perl from hR); have G2 := Lib.hid (grownBy_trans G1.out hG); have HL := Lib.hid hL; have HI := Lib.hid hI; have HN := Lib.hid hN; have Z := Lib.hid G1.out.size; clear hR hG hL hI hN
  unfold escV
  go_wp2_with fail
  refine bodyPost_ret (v := .slice sa out.length sc) ?_ rfl ⟨?_, _, out, rfl, ?_, ?_, HN.out, ?_⟩
  · simp [results, Tryz.results20]
  · exact grownBy_trans G2.out (grownBy_alloc _ _ _)
  · exact World.ownsRow.alloc (Joins.ownsRow_le HL.out Z.out) _
  · intro c h0 h1; rw [HI.out.2 c]; simp [h0, h1]
  · exact Blk.alloc R2.out _
set_option maxHeartbeats 2000000 in
theorem item_kind (b : Nat) (s : ByteArray) (p : Nat) (fr : Int) (perl : Bool) (w : World) (h : BrR w b s p fr perl) (hp : p < s.size) (hn : namedP s p = none) (k r a q : Int) (Q : Nat) (hQ : q = Q) (hk1 : k ≠ 1) (hk2 : k ≠ 2) (HO : ∀ W, BrR W b s p fr perl → w.grownBy W (some b) → Calls Tryz.prog 33 #[.pointer (some ⟨b, 0, none⟩)] W (OneOut W b s fr perl (.lit k r a q))) :
    Calls Tryz.prog 20 #[.pointer (some ⟨b, 0, none⟩)] w (ItemOut w b s fr perl (.wrong 72 p q)) := by
  subst hQ
  have HR := Lib.hid h
  have HO' := Lib.hid HO; clear HO
  have hbt := Lib.hid h.lt
  have c1 := Rd.c1 h
  have k1 : (k == 1) = false := by simpa using hk1
  have k2 : (k == 2) = false := by simpa using hk2
  have k3 : (k != 1) = true := by simpa using hk1
  clear hk1 hk2
  clear h
  go_enter Tryz.func20, Tryz.ntmps20
  go_wp2_with fail
  refine (named_no b s p fr perl _ HR.out (by omega) hn).mono ?_
  rintro e w1 ⟨rfl, hR, hG⟩
  have R1 := Lib.hid hR; have G1 := Lib.hid hG; clear hR hG c1
  go_wp2_with fail
  refine (HO'.out _ R1.out G1.out).mono ?_
  rintro e w2 ⟨hG, rfl, hR⟩
  have R2 := Lib.hid (show BrR w2 b s Q fr perl from hR); have G2 := Lib.hid (grownBy_trans G1.out hG); clear hR hG
  have g1 : (w2.alloc (.cells #[.int .i64 k, .int .i32 r, .slice none 0 0, .int .i64 a] 64)).cell? ⟨b, 1, none⟩ = some (.int .i64 Q) := Rd.c1 (Blk.alloc R2.out _)
  unfold escV
  go_wp2_with fail
  refine (br_stop _ _ _ _).mono ?_
  rintro e w9 ⟨rfl, rfl⟩
  exact ⟨rfl, grownBy_trans G2.out (grownBy_alloc _ _ _), rfl⟩
end Go.Proofs.YtnafemcholkmlaaGreatDoor
