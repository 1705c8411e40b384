/- The reader of layer 7: an item at the end of the text. The reader of layer 7: an item of one rune at the end. (Begun.) The reader of layer 7: an item of one rune ahead of a ]. -/
import Derived.Test.YtnafemcholkmlaaGreatDoorQBrItem0
namespace Go.Proofs.YtnafemcholkmlaaGreatDoor
open Go Go.RowKit Go.Proofs Go.Shelf

set_option maxHeartbeats 1000000 in
theorem item_end (b : Nat) (s : ByteArray) (p : Nat) (fr : Int) (perl : Bool) (w : World) (h : BrR w b s p fr perl) (hp : p = s.size) (hn : namedP s p = none) :
    Calls Tryz.prog 20 #[.pointer (some ⟨b, 0, none⟩)] w fun e w' => e = wrongE 71 fr s.size ∧ w.grownBy w' (some b) := by
  have HR := Lib.hid h
  have c1 := Rd.c1 h
  clear h
  go_enter Tryz.func20, Tryz.ntmps20
  go_wp2_with fail
  refine (named_no b s p fr perl _ HR.out (by omega) hn).mono ?_
  rintro e w1 ⟨rfl, hR, hG⟩
  have R1 := Lib.hid hR; have G1 := Lib.hid hG; clear hR hG c1
  go_wp2_with fail
  refine (one_end b s p fr perl _ R1.out hp).mono ?_
  rintro e w2 ⟨rfl, hG⟩
  exact ⟨rfl, rfl, grownBy_trans G1.out hG⟩
end Go.Proofs.YtnafemcholkmlaaGreatDoor

namespace Go.Proofs.YtnafemcholkmlaaGreatDoor
open Go Go.RowKit Go.Proofs Go.Shelf

set_option maxHeartbeats 1000000 in
theorem item_last (b : Nat) (s : ByteArray) (p : Nat) (fr : Int) (perl : Bool) (w : World) (h : BrR w b s p fr perl) (hp : p < s.size) (hn : namedP s p = none) (r a : Int) (q : Nat)
    (HO : ∀ W, BrR W b s p fr perl → w.grownBy W (some b) → Calls Tryz.prog 33 #[.pointer (some ⟨b, 0, none⟩)] W (OneOut W b s fr perl (.lit 1 r a q))) (hq : q ≤ s.size) (hl : s.size ≤ q + 1) :
    Calls Tryz.prog 20 #[.pointer (some ⟨b, 0, none⟩)] w (ItemOut w b s fr perl (.ok (fun c => decide (r ≤ c) && decide (c ≤ r)) q)) := by
  have HR := Lib.hid h
  have HO' := Lib.hid HO; clear HO
  have hbt := Lib.hid h.lt
  have c1 := Rd.c1 h
  have hz : (tail s q).size ≤ 1 := by rw [tail_size]; omega
  have hz' : ¬ (1 : Int) < ((tail s q).size : Int) := by omega
  clear h
  go_enter Tryz.func20, Tryz.ntmps20
  go_wp2_with fail
  refine (named_no b s p fr perl _ HR.out (by omega) hn).mono ?_
  rintro e w1 ⟨rfl, hR, hG⟩
  have R1 := Lib.hid hR; have G1 := Lib.hid hG; clear hR hG c1
  go_wp2_with fail
  refine (HO'.out _ R1.out G1.out).mono ?_
  rintro e w2 ⟨hG, rfl, hR⟩
  have R2 := Lib.hid (show BrR w2 b s q fr perl from hR); have G2 := Lib.hid (grownBy_trans G1.out hG); clear hR hG
  unfold escV
  go_wp2_with fail
  refine (br_rest b s q _ _ _ ((R2.out.alloc _).alloc _) hq).mono ?_
  rintro e w3 ⟨rfl, hR, hB⟩
  have K0 := Lib.hid (Blk.below ((Blk.new w2 [.int .i64 1, .int .i32 r, .slice none 0 0, .int .i64 a] 64).alloc _) hB (by simp; omega))
  have K1 := Lib.hid (Blk.below (Blk.new (w2.alloc (.cells #[.int .i64 1, .int .i32 r, .slice none 0 0, .int .i64 a] 64)) [.int .i64 1, .int .i32 r, .slice none 0 0, .int .i64 a] 64) hB (by simp))
  have R3 := Lib.hid hR; have B3 := Lib.hid hB; clear hR hB
  have k0 := Blk.cell K0.out (j := 0) rfl; have k1 := Blk.cell K0.out (j := 1) rfl
  have m0 : w3.cell? ⟨w2.heap.size + 1, 0, none⟩ = some (.int .i64 1) := by have := Blk.cell K1.out (j := 0) rfl; simpa using this
  have m1 : w3.cell? ⟨w2.heap.size + 1, 1, none⟩ = some (.int .i32 r) := by have := Blk.cell K1.out (j := 1) rfl; simpa using this
  go_wp2_with fail
  refine bodyPost_ret (v := .slice (some ⟨w3.heap.size, 0, none⟩) 1 1) ?_ rfl ⟨?_, ?_⟩
  · simp [results, Tryz.results20]
  · exact grownBy_trans G2.out (grownBy_trans (grownBy_trans (grownBy_trans (grownBy_alloc _ _ _) (grownBy_alloc _ _ _)) (grownBy_below B3.out _)) (grownBy_alloc _ _ _))
  · refine ⟨_, [(r, r)], rfl, ?_, fun c _ _ => by simp [memR], by simp, Blk.alloc R3.out _⟩
    have h1 := G2.out.size; have h2 := B3.out.size
    exact Joins.ownsRow_le (Laid.lit w3 [(r, r)] (flatR [(r, r)]).toArray rfl (by show 1 ≤ maxLen; decide)) (by simp at h2; omega)
end Go.Proofs.YtnafemcholkmlaaGreatDoor

namespace Go.Proofs.YtnafemcholkmlaaGreatDoor
open Go Go.RowKit Go.Proofs Go.Shelf

set_option maxHeartbeats 1000000 in
theorem item_shut (b : Nat) (s : ByteArray) (p : Nat) (fr : Int) (perl : Bool) (w : World) (h : BrR w b s p fr perl) (hp : p < s.size) (hn : namedP s p = none) (r a : Int) (q : Nat)
    (HO : ∀ W, BrR W b s p fr perl → w.grownBy W (some b) → Calls Tryz.prog 33 #[.pointer (some ⟨b, 0, none⟩)] W (OneOut W b s fr perl (.lit 1 r a q))) (hq : q ≤ s.size) (hl : q + 1 < s.size) (h93 : stands s (q + 1) [93] = true) :
    Calls Tryz.prog 20 #[.pointer (some ⟨b, 0, none⟩)] w (ItemOut w b s fr perl (.ok (fun c => decide (r ≤ c) && decide (c ≤ r)) q)) := by
  have HR := Lib.hid h
  have HO' := Lib.hid HO; clear HO
  have hbt := Lib.hid h.lt
  have c1 := Rd.c1 h
  have hz : 1 < (tail s q).size := tail_pos 1 hl
  have hz' : (1 : Int) < ((tail s q).size : Int) := by omega
  have h93' : ((((tail s q)[1]'hz).toNat : Int) == 93) = true := (tail_is 1 93 hl).trans h93
  have h93n : ((((tail s q)[1]'hz).toNat : Int) != 93) = false := by rw [bne, h93']; rfl
  clear h
  go_enter Tryz.func20, Tryz.ntmps20
  go_wp2_with fail
  refine (named_no b s p fr perl _ HR.out (by omega) hn).mono ?_
  rintro e w1 ⟨rfl, hR, hG⟩
  have R1 := Lib.hid hR; have G1 := Lib.hid hG; clear hR hG c1
  go_wp2_with fail
  refine (HO'.out _ R1.out G1.out).mono ?_
  rintro e w2 ⟨hG, rfl, hR⟩
  have R2 := Lib.hid (show BrR w2 b s q fr perl from hR); have G2 := Lib.hid (grownBy_trans G1.out hG); clear hR hG
  unfold escV
  go_wp2_with fail
  refine (br_rest b s q _ _ _ ((R2.out.alloc _).alloc _) hq).mono ?_
  rintro e w3 ⟨rfl, hR, hB⟩
  have K0 := Lib.hid (Blk.below ((Blk.new w2 [.int .i64 1, .int .i32 r, .slice none 0 0, .int .i64 a] 64).alloc _) hB (by simp; omega))
  have K1 := Lib.hid (Blk.below (Blk.new (w2.alloc (.cells #[.int .i64 1, .int .i32 r, .slice none 0 0, .int .i64 a] 64)) [.int .i64 1, .int .i32 r, .slice none 0 0, .int .i64 a] 64) hB (by simp))
  have R3 := Lib.hid hR; have B3 := Lib.hid hB; clear hR hB
  have k0 := Blk.cell K0.out (j := 0) rfl; have k1 := Blk.cell K0.out (j := 1) rfl
  have m0 : w3.cell? ⟨w2.heap.size + 1, 0, none⟩ = some (.int .i64 1) := by have := Blk.cell K1.out (j := 0) rfl; simpa using this
  have m1 : w3.cell? ⟨w2.heap.size + 1, 1, none⟩ = some (.int .i32 r) := by have := Blk.cell K1.out (j := 1) rfl; simpa using this
  go_wp2_with fail
  refine (br_rest b s q _ _ _ R3.out hq).mono ?_
  rintro e w4 ⟨rfl, hR, hB⟩
  have M0 := Lib.hid (Blk.below K0.out hB K0.out.lt); have M1 := Lib.hid (Blk.below K1.out hB K1.out.lt)
  have R4 := Lib.hid hR; have B4 := Lib.hid (below_then B3.out hB); clear hR hB k0 k1 m0 m1
  have k0 := Blk.cell M0.out (j := 0) rfl; have k1 := Blk.cell M0.out (j := 1) rfl
  have m0 : w4.cell? ⟨w2.heap.size + 1, 0, none⟩ = some (.int .i64 1) := by have := Blk.cell M1.out (j := 0) rfl; simpa using this
  have m1 : w4.cell? ⟨w2.heap.size + 1, 1, none⟩ = some (.int .i32 r) := by have := Blk.cell M1.out (j := 1) rfl; simpa using this
  go_wp2_with fail
  refine bodyPost_ret (v := .slice (some ⟨w4.heap.size, 0, none⟩) 1 1) ?_ rfl ⟨?_, ?_⟩
  · simp [results, Tryz.results20]
  · exact grownBy_trans G2.out (grownBy_trans (grownBy_trans (grownBy_trans (grownBy_alloc _ _ _) (grownBy_alloc _ _ _)) (grownBy_below B4.out _)) (grownBy_alloc _ _ _))
  · refine ⟨_, [(r, r)], rfl, ?_, fun c _ _ => by simp [memR], by simp, Blk.alloc R4.out _⟩
    have h1 := G2.out.size; have h2 := B4.out.size
    exact Joins.ownsRow_le (Laid.lit w4 [(r, r)] (flatR [(r, r)]).toArray rfl (by show 1 ≤ maxLen; decide)) (by simp at h2; omega)
end Go.Proofs.YtnafemcholkmlaaGreatDoor
