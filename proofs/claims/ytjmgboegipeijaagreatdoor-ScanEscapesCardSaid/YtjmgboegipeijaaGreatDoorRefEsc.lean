/- The document's escape: martelloref06.Escape. (Printed by gen_refesc.py.) -/
import Derived.Test.YtjmgboegipeijaaGreatDoorRefPerls
namespace Go.Proofs.YtjmgboegipeijaaGreatDoor
open Go Go.RowKit Go.Proofs Go.Shelf

theorem ref06_wrongR (a b c : Int) (w : World) : Calls Tryz.prog 30 #[.int .i64 a, .int .i64 b, .int .i64 c] w fun e w' => e = .returned (.agg #[.int .i64 a, .int .i64 b, .int .i64 c]) ∧ Below w.heap.size w w' := by
  go_enter Tryz.func30, Tryz.ntmps30
  go_wp2_with fail
  have k := Blk.new w [.int .i64 a, .int .i64 b, .int .i64 c] 30
  have k0 := Blk.cell k (j := 0) rfl; have k1 := Blk.cell k (j := 1) rfl; have k2 := Blk.cell k (j := 2) rfl
  exact bodyPost_ret (v := .agg #[.int .i64 a, .int .i64 b, .int .i64 c]) (by simp [results, Tryz.results30, go_sem, k0, k1, k2]) rfl ⟨rfl, (Below.refl _ w).alloc (Nat.le_refl _) _⟩
theorem refesc_blocks (w : World) :
    let W := (w.alloc (.cells #[.int .i64 0, .int .i32 0, .slice none 0 0, .int .i64 0] 27)).alloc (.cells #[.int .i64 0, .int .i64 0, .int .i64 0] 30)
    Blk W w.heap.size esc0R 27 ∧ Blk W (w.heap.size + 1) wrong0R 30 ∧ Below w.heap.size w W ∧ w.heap.size + 1 < W.heap.size := by
  have a := Blk.new w esc0R 27
  have b := Blk.new (w.alloc (.cells esc0R.toArray 27)) wrong0R 30
  simp only [World.size_alloc] at b
  exact ⟨a.alloc _, b, ((Below.refl _ w).alloc (Nat.le_refl _) _).alloc (by simp) _, by simp⟩

set_option maxRecDepth 100000 in
set_option maxHeartbeats 4000000 in
theorem refesc_end (s : ByteArray) (p : Nat) (b : Bool) (w : World) (_ : s.size ≤ 140737488355328) (h0 : s.size ≤ p) :
    Calls Tryz.prog 12 #[.string s, .int .i64 p, .bool b] w (fun e w' => e = .returned (escT 0 0 (.slice none 0 0) 0 0 1 p p) ∧ Below w.heap.size w w') := by
  obtain ⟨bA, bC, bB, bZ⟩ := refesc_blocks w
  have A0 := Lib.hid bA; have C0 := Lib.hid bC; have B0 := Lib.hid bB; have Z0 := Lib.hid bZ
  clear bA bC bB bZ
  have h0' : (s.size : Int) ≤ (p : Int) := by omega
  go_enter Tryz.func12, Tryz.ntmps12
  go_wp2_with fail
  refine (ref06_wrongR _ _ _ _).mono ?_
  rintro e w1 ⟨rfl, hB⟩
  have A1 := Lib.hid (A0.out.below hB A0.out.lt); have C1 := Lib.hid (C0.out.below hB C0.out.lt); have B1 := Lib.hid (B0.out.trans (hB.mono B0.out.size))
  clear hB
  have a0 := Blk.cell A1.out (j := 0) rfl; have a1 := Blk.cell A1.out (j := 1) rfl; have a2 := Blk.cell A1.out (j := 2) rfl; have a3 := Blk.cell A1.out (j := 3) rfl
  have b0 := A1.out.frozen 0; have b1 := A1.out.frozen 1; have b2 := A1.out.frozen 2; have b3 := A1.out.frozen 3
  have d0' := Blk.cell C1.out (j := 0) rfl; have d1' := Blk.cell C1.out (j := 1) rfl; have d2' := Blk.cell C1.out (j := 2) rfl
  have d0 := C1.out.frozen 0; have d1 := C1.out.frozen 1; have d2 := C1.out.frozen 2
  go_wp2_with fail
  refine bodyPost_ret (v := escT 0 0 (.slice none 0 0) 0 0 1 p p) ?_ rfl ⟨rfl, ?_⟩
  · simp [results, Tryz.results12, escT, go_sem, a0, a1, a2, a3, d0', d1', d2']
  · exact (((((((B1.out.setCell (by simp) _).setCell (by simp) _).setCell (by simp) _).setCell (by simp) _).setCell (by simp) _).setCell (by simp) _).setCell (by simp) _)

set_option maxRecDepth 100000 in
set_option maxHeartbeats 4000000 in
theorem refesc_nob (s : ByteArray) (p : Nat) (b : Bool) (w : World) (_ : s.size ≤ 140737488355328) (h0 : p < s.size) (hc : ((s[p].toNat : Int) != 92) = true) :
    Calls Tryz.prog 12 #[.string s, .int .i64 p, .bool b] w (fun e w' => e = .returned (escT 0 0 (.slice none 0 0) 0 0 1 p p) ∧ Below w.heap.size w w') := by
  obtain ⟨bA, bC, bB, bZ⟩ := refesc_blocks w
  have A0 := Lib.hid bA; have C0 := Lib.hid bC; have B0 := Lib.hid bB; have Z0 := Lib.hid bZ
  clear bA bC bB bZ
  have h0' : (p : Int) < (s.size : Int) := by omega
  go_enter Tryz.func12, Tryz.ntmps12
  go_wp2_with fail
  refine (ref06_wrongR _ _ _ _).mono ?_
  rintro e w1 ⟨rfl, hB⟩
  have A1 := Lib.hid (A0.out.below hB A0.out.lt); have C1 := Lib.hid (C0.out.below hB C0.out.lt); have B1 := Lib.hid (B0.out.trans (hB.mono B0.out.size))
  clear hB
  have a0 := Blk.cell A1.out (j := 0) rfl; have a1 := Blk.cell A1.out (j := 1) rfl; have a2 := Blk.cell A1.out (j := 2) rfl; have a3 := Blk.cell A1.out (j := 3) rfl
  have b0 := A1.out.frozen 0; have b1 := A1.out.frozen 1; have b2 := A1.out.frozen 2; have b3 := A1.out.frozen 3
  have d0' := Blk.cell C1.out (j := 0) rfl; have d1' := Blk.cell C1.out (j := 1) rfl; have d2' := Blk.cell C1.out (j := 2) rfl
  have d0 := C1.out.frozen 0; have d1 := C1.out.frozen 1; have d2 := C1.out.frozen 2
  go_wp2_with fail
  refine bodyPost_ret (v := escT 0 0 (.slice none 0 0) 0 0 1 p p) ?_ rfl ⟨rfl, ?_⟩
  · simp [results, Tryz.results12, escT, go_sem, a0, a1, a2, a3, d0', d1', d2']
  · exact (((((((B1.out.setCell (by simp) _).setCell (by simp) _).setCell (by simp) _).setCell (by simp) _).setCell (by simp) _).setCell (by simp) _).setCell (by simp) _)

set_option maxRecDepth 100000 in
set_option maxHeartbeats 4000000 in
theorem refesc_trail (s : ByteArray) (p : Nat) (b : Bool) (w : World) (hs : s.size ≤ 140737488355328) (h0 : p < s.size) (hc : ((s[p].toNat : Int) != 92) = false) (h1 : p + 1 = s.size) :
    Calls Tryz.prog 12 #[.string s, .int .i64 p, .bool b] w (fun e w' => e = .returned (escT 0 0 (.slice none 0 0) 0 0 62 p ((p : Int) + 1)) ∧ Below w.heap.size w w') := by
  obtain ⟨bA, bC, bB, bZ⟩ := refesc_blocks w
  have A0 := Lib.hid bA; have C0 := Lib.hid bC; have B0 := Lib.hid bB; have Z0 := Lib.hid bZ
  clear bA bC bB bZ
  have h0' : (p : Int) < (s.size : Int) := by omega
  have h1' : (p : Int) + 1 = (s.size : Int) := by omega
  have h2 : ((p : Int) + 1 == (s.size : Int)) = true := by simp; omega
  have HH := Lib.hid h1'
  clear h1' h1
  go_enter Tryz.func12, Tryz.ntmps12
  go_wp2_with fail
  refine (ref06_wrongR _ _ _ _).mono ?_
  rintro e w1 ⟨rfl, hB⟩
  have A1 := Lib.hid (A0.out.below hB A0.out.lt); have C1 := Lib.hid (C0.out.below hB C0.out.lt); have B1 := Lib.hid (B0.out.trans (hB.mono B0.out.size))
  clear hB
  have a0 := Blk.cell A1.out (j := 0) rfl; have a1 := Blk.cell A1.out (j := 1) rfl; have a2 := Blk.cell A1.out (j := 2) rfl; have a3 := Blk.cell A1.out (j := 3) rfl
  have b0 := A1.out.frozen 0; have b1 := A1.out.frozen 1; have b2 := A1.out.frozen 2; have b3 := A1.out.frozen 3
  have d0' := Blk.cell C1.out (j := 0) rfl; have d1' := Blk.cell C1.out (j := 1) rfl; have d2' := Blk.cell C1.out (j := 2) rfl
  have d0 := C1.out.frozen 0; have d1 := C1.out.frozen 1; have d2 := C1.out.frozen 2
  go_wp2_with fail
  refine bodyPost_ret (v := escT 0 0 (.slice none 0 0) 0 0 62 p ((p : Int) + 1)) ?_ rfl ⟨rfl, ?_⟩
  · simp [results, Tryz.results12, escT, go_sem, a0, a1, a2, a3, d0', d1', d2']
  · exact (((((((B1.out.setCell (by simp) _).setCell (by simp) _).setCell (by simp) _).setCell (by simp) _).setCell (by simp) _).setCell (by simp) _).setCell (by simp) _)

set_option maxRecDepth 100000 in
set_option maxHeartbeats 4000000 in
theorem refesc_sign (s : ByteArray) (p : Nat) (b : Bool) (w : World) (hs : s.size ≤ 140737488355328) (h0 : p < s.size) (hc : ((s[p].toNat : Int) != 92) = false) (h1 : p + 1 < s.size) (hT : Tabs w) (C : Int) (Q : Nat) (hC : nextC s (p + 1) = C) (hQ : nextW s (p + 1) = Q) (_ : 0 ≤ C) (_ : C ≤ 1114111) (hsg : signI C = true)  :
    Calls Tryz.prog 12 #[.string s, .int .i64 p, .bool b] w (fun e w' => e = .returned (escT 1 C (.slice none 0 0) 0 Q 0 0 0) ∧ Below w.heap.size w w') := by
  obtain ⟨bA, bC, bB, bZ⟩ := refesc_blocks w
  have A0 := Lib.hid bA; have C0 := Lib.hid bC; have B0 := Lib.hid bB; have Z0 := Lib.hid bZ
  clear bA bC bB bZ
  have HSG := Lib.hid hsg; clear hsg
  have h0' : (p : Int) < (s.size : Int) := by omega
  have h1' : (p : Int) + 1 < (s.size : Int) := by omega
  have h12 : ((p : Int) + 1 == (s.size : Int)) = false := by simp; omega
  have T0 := Lib.hid ((hT.alloc (.cells #[.int .i64 0, .int .i32 0, .slice none 0 0, .int .i64 0] 27)).alloc (.cells #[.int .i64 0, .int .i64 0, .int .i64 0] 30))
  clear hT
  have HQS := Lib.hid (show Q ≤ s.size by rw [← hQ]; exact nextW_le s (p + 1) (by omega))
  have HDC := Lib.hid (show ((Lib.decodeGo (tail s (p + 1))).1 : Int) = C by rw [← hC, decodeGo_tail s (p + 1) h1]; unfold nextC; rw [if_pos h1])
  have HDW := Lib.hid (show p + 1 + (Lib.decodeGo (tail s (p + 1))).2 = Q by rw [← hQ, decodeGo_tail s (p + 1) h1]; unfold nextW; rw [if_pos h1])
  clear hC hQ
  go_enter Tryz.func12, Tryz.ntmps12
  go_wp2_with fail
  refine (Tryz.utf8_DecodeRuneInString (tail s (p + 1)) _ T0.out).mono ?_
  rintro e w1 ⟨rfl, hB1⟩
  have A1 := Lib.hid (A0.out.below hB1 A0.out.lt); have C1 := Lib.hid (C0.out.below hB1 C0.out.lt); have B1 := Lib.hid (B0.out.trans (hB1.mono B0.out.size)); have T1 := Lib.hid (T0.out.below hB1)
  clear hB1
  rw [HDC.out]
  generalize Lib.decodeGo (tail s (p + 1)) = D at HDC HDW ⊢
  obtain ⟨d1, d2⟩ := D
  have hq : (p : Int) + 1 + (d2 : Int) = (Q : Int) := by have := HDW.out; simp only at this; omega
  have hqb : (Q : Int) ≤ 140737488355328 := by have := HQS.out; omega
  simp only
  clear HDC HDW
  go_wp2_with fail
  refine (ref06_wrongR _ _ _ _).mono ?_
  rintro e w2 ⟨rfl, hB2⟩
  obtain ⟨W3, hW3⟩ : ∃ W3, W3 = w2.alloc (.cells #[.int .i64 61, .int .i64 p, .int .i64 Q] 30) := ⟨_, rfl⟩
  have A3 := Lib.hid (show Blk W3 w.heap.size esc0R 27 by rw [hW3]; exact (A1.out.below hB2 A1.out.lt).alloc _)
  have C3 := Lib.hid (show Blk W3 (w.heap.size + 1) wrong0R 30 by rw [hW3]; exact (C1.out.below hB2 C1.out.lt).alloc _)
  have T3 := Lib.hid (show Tabs W3 by rw [hW3]; exact (T1.out.below hB2).alloc _)
  have hz2 := (B1.out.trans (hB2.mono B1.out.size)).size
  have B3 := Lib.hid (show Below w.heap.size w W3 by rw [hW3]; exact (B1.out.trans (hB2.mono B1.out.size)).alloc hz2 _)
  obtain ⟨DB, hDB⟩ : ∃ DB, DB = w2.heap.size := ⟨_, rfl⟩
  have D3 := Lib.hid (show Blk W3 DB [.int .i64 61, .int .i64 p, .int .i64 Q] 30 by rw [hW3, hDB]; exact Blk.new _ _ _)
  have hdb : w.heap.size + 1 < DB := by rw [hDB]; exact (C1.out.below hB2 C1.out.lt).lt
  have hd1 : ¬ w.heap.size = DB := by omega
  have hd2 : ¬ DB = w.heap.size := by omega
  have hd3 : ¬ w.heap.size + 1 = DB := by omega
  have hd4 : ¬ DB = w.heap.size + 1 := by omega
  clear hdb
  clear hB2 hz2 A1 C1 B1 T1 T0 A0 C0 B0 Z0
  go_wp2_with fail
  rw [← hW3, ← hDB]
  clear hW3 hDB
  refine (ref06_SignI C _).mono ?_
  rintro e w4 ⟨rfl, rfl⟩
  rw [HSG.out]
  have a0 := Blk.cell A3.out (j := 0) rfl; have a1 := Blk.cell A3.out (j := 1) rfl; have a2 := Blk.cell A3.out (j := 2) rfl; have a3 := Blk.cell A3.out (j := 3) rfl
  have b0 := A3.out.frozen 0; have b1 := A3.out.frozen 1; have b2 := A3.out.frozen 2; have b3 := A3.out.frozen 3
  have d0' := Blk.cell C3.out (j := 0) rfl; have d1' := Blk.cell C3.out (j := 1) rfl; have d2' := Blk.cell C3.out (j := 2) rfl
  have d0 := C3.out.frozen 0; have d1 := C3.out.frozen 1; have d2 := C3.out.frozen 2
  go_wp2_with fail
  refine bodyPost_ret (v := escT 1 C (.slice none 0 0) 0 Q 0 0 0) ?_ rfl ⟨rfl, ?_⟩
  · simp [results, Tryz.results12, escT, go_sem, a0, a1, a2, a3, d0', d1', d2']
  · exact (((((((B3.out.setCell (by simp) _).setCell (by simp) _).setCell (by simp) _).setCell (by simp) _).setCell (by simp) _).setCell (by simp) _).setCell (by simp) _)

set_option maxRecDepth 100000 in
set_option maxHeartbeats 4000000 in
theorem refesc_letter (s : ByteArray) (p : Nat) (b : Bool) (w : World) (hs : s.size ≤ 140737488355328) (h0 : p < s.size) (hc : ((s[p].toNat : Int) != 92) = false) (h1 : p + 1 < s.size) (hT : Tabs w) (C : Int) (Q : Nat) (hC : nextC s (p + 1) = C) (hQ : nextW s (p + 1) = Q) (_ : 0 ≤ C) (_ : C ≤ 1114111) (hsg : signI C = false) (hl : 0 ≤ letterI C) :
    Calls Tryz.prog 12 #[.string s, .int .i64 p, .bool b] w (fun e w' => e = .returned (escT 1 (letterI C) (.slice none 0 0) 0 Q 0 0 0) ∧ Below w.heap.size w w') := by
  obtain ⟨bA, bC, bB, bZ⟩ := refesc_blocks w
  have A0 := Lib.hid bA; have C0 := Lib.hid bC; have B0 := Lib.hid bB; have Z0 := Lib.hid bZ
  clear bA bC bB bZ
  obtain ⟨lv, hlv⟩ : ∃ lv, letterI C = lv := ⟨_, rfl⟩
  have HLE := Lib.hid (ref06_letter C)
  simp only [hlv] at HLE
  rw [hlv] at hl
  rw [hlv]
  clear hlv
  have HSG := Lib.hid hsg; clear hsg
  have h0' : (p : Int) < (s.size : Int) := by omega
  have h1' : (p : Int) + 1 < (s.size : Int) := by omega
  have h12 : ((p : Int) + 1 == (s.size : Int)) = false := by simp; omega
  have T0 := Lib.hid ((hT.alloc (.cells #[.int .i64 0, .int .i32 0, .slice none 0 0, .int .i64 0] 27)).alloc (.cells #[.int .i64 0, .int .i64 0, .int .i64 0] 30))
  clear hT
  have HQS := Lib.hid (show Q ≤ s.size by rw [← hQ]; exact nextW_le s (p + 1) (by omega))
  have HDC := Lib.hid (show ((Lib.decodeGo (tail s (p + 1))).1 : Int) = C by rw [← hC, decodeGo_tail s (p + 1) h1]; unfold nextC; rw [if_pos h1])
  have HDW := Lib.hid (show p + 1 + (Lib.decodeGo (tail s (p + 1))).2 = Q by rw [← hQ, decodeGo_tail s (p + 1) h1]; unfold nextW; rw [if_pos h1])
  clear hC hQ
  go_enter Tryz.func12, Tryz.ntmps12
  go_wp2_with fail
  refine (Tryz.utf8_DecodeRuneInString (tail s (p + 1)) _ T0.out).mono ?_
  rintro e w1 ⟨rfl, hB1⟩
  have A1 := Lib.hid (A0.out.below hB1 A0.out.lt); have C1 := Lib.hid (C0.out.below hB1 C0.out.lt); have B1 := Lib.hid (B0.out.trans (hB1.mono B0.out.size)); have T1 := Lib.hid (T0.out.below hB1)
  clear hB1
  rw [HDC.out]
  generalize Lib.decodeGo (tail s (p + 1)) = D at HDC HDW ⊢
  obtain ⟨d1, d2⟩ := D
  have hq : (p : Int) + 1 + (d2 : Int) = (Q : Int) := by have := HDW.out; simp only at this; omega
  have hqb : (Q : Int) ≤ 140737488355328 := by have := HQS.out; omega
  simp only
  clear HDC HDW
  go_wp2_with fail
  refine (ref06_wrongR _ _ _ _).mono ?_
  rintro e w2 ⟨rfl, hB2⟩
  obtain ⟨W3, hW3⟩ : ∃ W3, W3 = w2.alloc (.cells #[.int .i64 61, .int .i64 p, .int .i64 Q] 30) := ⟨_, rfl⟩
  have A3 := Lib.hid (show Blk W3 w.heap.size esc0R 27 by rw [hW3]; exact (A1.out.below hB2 A1.out.lt).alloc _)
  have C3 := Lib.hid (show Blk W3 (w.heap.size + 1) wrong0R 30 by rw [hW3]; exact (C1.out.below hB2 C1.out.lt).alloc _)
  have T3 := Lib.hid (show Tabs W3 by rw [hW3]; exact (T1.out.below hB2).alloc _)
  have hz2 := (B1.out.trans (hB2.mono B1.out.size)).size
  have B3 := Lib.hid (show Below w.heap.size w W3 by rw [hW3]; exact (B1.out.trans (hB2.mono B1.out.size)).alloc hz2 _)
  obtain ⟨DB, hDB⟩ : ∃ DB, DB = w2.heap.size := ⟨_, rfl⟩
  have D3 := Lib.hid (show Blk W3 DB [.int .i64 61, .int .i64 p, .int .i64 Q] 30 by rw [hW3, hDB]; exact Blk.new _ _ _)
  have hdb : w.heap.size + 1 < DB := by rw [hDB]; exact (C1.out.below hB2 C1.out.lt).lt
  have hd1 : ¬ w.heap.size = DB := by omega
  have hd2 : ¬ DB = w.heap.size := by omega
  have hd3 : ¬ w.heap.size + 1 = DB := by omega
  have hd4 : ¬ DB = w.heap.size + 1 := by omega
  clear hdb
  clear hB2 hz2 A1 C1 B1 T1 T0 A0 C0 B0 Z0
  go_wp2_with fail
  rw [← hW3, ← hDB]
  clear hW3 hDB
  refine (ref06_SignI C _).mono ?_
  rintro e w4 ⟨rfl, rfl⟩
  rw [HSG.out]
  have a0 := Blk.cell A3.out (j := 0) rfl; have a1 := Blk.cell A3.out (j := 1) rfl; have a2 := Blk.cell A3.out (j := 2) rfl; have a3 := Blk.cell A3.out (j := 3) rfl
  have b0 := A3.out.frozen 0; have b1 := A3.out.frozen 1; have b2 := A3.out.frozen 2; have b3 := A3.out.frozen 3
  have d0' := Blk.cell C3.out (j := 0) rfl; have d1' := Blk.cell C3.out (j := 1) rfl; have d2' := Blk.cell C3.out (j := 2) rfl
  have d0 := C3.out.frozen 0; have d1 := C3.out.frozen 1; have d2 := C3.out.frozen 2
  go_wp2_with fail
  refine (HLE.out _).mono ?_
  rintro e w5 ⟨rfl, rfl⟩
  go_wp2_with fail
  refine (HLE.out _).mono ?_
  rintro e w5 ⟨rfl, rfl⟩
  go_wp2_with fail
  refine bodyPost_ret (v := escT 1 lv (.slice none 0 0) 0 Q 0 0 0) ?_ rfl ⟨rfl, ?_⟩
  · simp [results, Tryz.results12, escT, go_sem, a0, a1, a2, a3, d0', d1', d2']
  · exact (((((((B3.out.setCell (by simp) _).setCell (by simp) _).setCell (by simp) _).setCell (by simp) _).setCell (by simp) _).setCell (by simp) _).setCell (by simp) _)

set_option maxRecDepth 100000 in
set_option maxHeartbeats 4000000 in
theorem refesc_x_yes (s : ByteArray) (p : Nat) (b : Bool) (w : World) (hs : s.size ≤ 140737488355328) (h0 : p < s.size) (hc : ((s[p].toNat : Int) != 92) = false) (h1 : p + 1 < s.size) (hT : Tabs w) (C : Int) (Q : Nat) (hC : nextC s (p + 1) = C) (hQ : nextW s (p + 1) = Q) (_ : 0 ≤ C) (_ : C ≤ 1114111) (hsg : signI C = false) (hl : letterI C = -1) (hx : C = 120) (n : Int) (r : Nat) (hcd : codeP s Q = some (n, r)) :
    Calls Tryz.prog 12 #[.string s, .int .i64 p, .bool b] w (fun e w' => e = .returned (escT 1 n (.slice none 0 0) 0 r 0 0 0) ∧ Below w.heap.size w w') := by
  obtain ⟨bA, bC, bB, bZ⟩ := refesc_blocks w
  have A0 := Lib.hid bA; have C0 := Lib.hid bC; have B0 := Lib.hid bB; have Z0 := Lib.hid bZ
  clear bA bC bB bZ
  have hlv : letterI C = -1 := hl
  have HLE := Lib.hid (ref06_letter C)
  simp only [hlv] at HLE
  clear hlv hl
  have nx : (C == 120) = true := by simp; omega
  clear hx
  have HCD := Lib.hid hcd; clear hcd
  have HSG := Lib.hid hsg; clear hsg
  have h0' : (p : Int) < (s.size : Int) := by omega
  have h1' : (p : Int) + 1 < (s.size : Int) := by omega
  have h12 : ((p : Int) + 1 == (s.size : Int)) = false := by simp; omega
  have T0 := Lib.hid ((hT.alloc (.cells #[.int .i64 0, .int .i32 0, .slice none 0 0, .int .i64 0] 27)).alloc (.cells #[.int .i64 0, .int .i64 0, .int .i64 0] 30))
  clear hT
  have HQS := Lib.hid (show Q ≤ s.size by rw [← hQ]; exact nextW_le s (p + 1) (by omega))
  have HDC := Lib.hid (show ((Lib.decodeGo (tail s (p + 1))).1 : Int) = C by rw [← hC, decodeGo_tail s (p + 1) h1]; unfold nextC; rw [if_pos h1])
  have HDW := Lib.hid (show p + 1 + (Lib.decodeGo (tail s (p + 1))).2 = Q by rw [← hQ, decodeGo_tail s (p + 1) h1]; unfold nextW; rw [if_pos h1])
  clear hC hQ
  go_enter Tryz.func12, Tryz.ntmps12
  go_wp2_with fail
  refine (Tryz.utf8_DecodeRuneInString (tail s (p + 1)) _ T0.out).mono ?_
  rintro e w1 ⟨rfl, hB1⟩
  have A1 := Lib.hid (A0.out.below hB1 A0.out.lt); have C1 := Lib.hid (C0.out.below hB1 C0.out.lt); have B1 := Lib.hid (B0.out.trans (hB1.mono B0.out.size)); have T1 := Lib.hid (T0.out.below hB1)
  clear hB1
  rw [HDC.out]
  generalize Lib.decodeGo (tail s (p + 1)) = D at HDC HDW ⊢
  obtain ⟨d1, d2⟩ := D
  have hq : (p : Int) + 1 + (d2 : Int) = (Q : Int) := by have := HDW.out; simp only at this; omega
  have hqb : (Q : Int) ≤ 140737488355328 := by have := HQS.out; omega
  simp only
  clear HDC HDW
  go_wp2_with fail
  refine (ref06_wrongR _ _ _ _).mono ?_
  rintro e w2 ⟨rfl, hB2⟩
  obtain ⟨W3, hW3⟩ : ∃ W3, W3 = w2.alloc (.cells #[.int .i64 61, .int .i64 p, .int .i64 Q] 30) := ⟨_, rfl⟩
  have A3 := Lib.hid (show Blk W3 w.heap.size esc0R 27 by rw [hW3]; exact (A1.out.below hB2 A1.out.lt).alloc _)
  have C3 := Lib.hid (show Blk W3 (w.heap.size + 1) wrong0R 30 by rw [hW3]; exact (C1.out.below hB2 C1.out.lt).alloc _)
  have T3 := Lib.hid (show Tabs W3 by rw [hW3]; exact (T1.out.below hB2).alloc _)
  have hz2 := (B1.out.trans (hB2.mono B1.out.size)).size
  have B3 := Lib.hid (show Below w.heap.size w W3 by rw [hW3]; exact (B1.out.trans (hB2.mono B1.out.size)).alloc hz2 _)
  obtain ⟨DB, hDB⟩ : ∃ DB, DB = w2.heap.size := ⟨_, rfl⟩
  have D3 := Lib.hid (show Blk W3 DB [.int .i64 61, .int .i64 p, .int .i64 Q] 30 by rw [hW3, hDB]; exact Blk.new _ _ _)
  have hdb : w.heap.size + 1 < DB := by rw [hDB]; exact (C1.out.below hB2 C1.out.lt).lt
  have hd1 : ¬ w.heap.size = DB := by omega
  have hd2 : ¬ DB = w.heap.size := by omega
  have hd3 : ¬ w.heap.size + 1 = DB := by omega
  have hd4 : ¬ DB = w.heap.size + 1 := by omega
  clear hdb
  clear hB2 hz2 A1 C1 B1 T1 T0 A0 C0 B0 Z0
  go_wp2_with fail
  rw [← hW3, ← hDB]
  clear hW3 hDB
  refine (ref06_SignI C _).mono ?_
  rintro e w4 ⟨rfl, rfl⟩
  rw [HSG.out]
  go_wp2_with fail
  refine (HLE.out _).mono ?_
  rintro e w5 ⟨rfl, rfl⟩
  go_wp2_with fail
  refine (ref06_number s Q _ HQS.out hs).mono ?_
  rintro e w6 ⟨rfl, hB⟩
  rw [HCD.out]
  have A6 := Lib.hid (A3.out.below hB A3.out.lt); have C6 := Lib.hid (C3.out.below hB C3.out.lt); have D6 := Lib.hid (D3.out.below hB D3.out.lt); have B6 := Lib.hid (B3.out.trans (hB.mono B3.out.size))
  clear hB
  simp only [codeV]
  have a0 := Blk.cell A6.out (j := 0) rfl; have a1 := Blk.cell A6.out (j := 1) rfl; have a2 := Blk.cell A6.out (j := 2) rfl; have a3 := Blk.cell A6.out (j := 3) rfl
  have b0 := A6.out.frozen 0; have b1 := A6.out.frozen 1; have b2 := A6.out.frozen 2; have b3 := A6.out.frozen 3
  have d0' := Blk.cell C6.out (j := 0) rfl; have d1' := Blk.cell C6.out (j := 1) rfl; have d2' := Blk.cell C6.out (j := 2) rfl
  have d0 := C6.out.frozen 0; have d1 := C6.out.frozen 1; have d2 := C6.out.frozen 2
  go_wp2_with fail
  refine bodyPost_ret (v := escT 1 n (.slice none 0 0) 0 r 0 0 0) ?_ rfl ⟨rfl, ?_⟩
  · simp [results, Tryz.results12, escT, go_sem, a0, a1, a2, a3, d0', d1', d2']
  · exact (((((((B6.out.setCell (by simp) _).setCell (by simp) _).setCell (by simp) _).setCell (by simp) _).setCell (by simp) _).setCell (by simp) _).setCell (by simp) _)

set_option maxRecDepth 100000 in
set_option maxHeartbeats 4000000 in
theorem refesc_x_no (s : ByteArray) (p : Nat) (b : Bool) (w : World) (hs : s.size ≤ 140737488355328) (h0 : p < s.size) (hc : ((s[p].toNat : Int) != 92) = false) (h1 : p + 1 < s.size) (hT : Tabs w) (C : Int) (Q : Nat) (hC : nextC s (p + 1) = C) (hQ : nextW s (p + 1) = Q) (_ : 0 ≤ C) (_ : C ≤ 1114111) (hsg : signI C = false) (hl : letterI C = -1) (hx : C = 120) (hcd : codeP s Q = none) :
    Calls Tryz.prog 12 #[.string s, .int .i64 p, .bool b] w (fun e w' => e = .returned (escT 0 0 (.slice none 0 0) 0 0 61 p Q) ∧ Below w.heap.size w w') := by
  obtain ⟨bA, bC, bB, bZ⟩ := refesc_blocks w
  have A0 := Lib.hid bA; have C0 := Lib.hid bC; have B0 := Lib.hid bB; have Z0 := Lib.hid bZ
  clear bA bC bB bZ
  have hlv : letterI C = -1 := hl
  have HLE := Lib.hid (ref06_letter C)
  simp only [hlv] at HLE
  clear hlv hl
  have nx : (C == 120) = true := by simp; omega
  clear hx
  have HCD := Lib.hid hcd; clear hcd
  have HSG := Lib.hid hsg; clear hsg
  have h0' : (p : Int) < (s.size : Int) := by omega
  have h1' : (p : Int) + 1 < (s.size : Int) := by omega
  have h12 : ((p : Int) + 1 == (s.size : Int)) = false := by simp; omega
  have T0 := Lib.hid ((hT.alloc (.cells #[.int .i64 0, .int .i32 0, .slice none 0 0, .int .i64 0] 27)).alloc (.cells #[.int .i64 0, .int .i64 0, .int .i64 0] 30))
  clear hT
  have HQS := Lib.hid (show Q ≤ s.size by rw [← hQ]; exact nextW_le s (p + 1) (by omega))
  have HDC := Lib.hid (show ((Lib.decodeGo (tail s (p + 1))).1 : Int) = C by rw [← hC, decodeGo_tail s (p + 1) h1]; unfold nextC; rw [if_pos h1])
  have HDW := Lib.hid (show p + 1 + (Lib.decodeGo (tail s (p + 1))).2 = Q by rw [← hQ, decodeGo_tail s (p + 1) h1]; unfold nextW; rw [if_pos h1])
  clear hC hQ
  go_enter Tryz.func12, Tryz.ntmps12
  go_wp2_with fail
  refine (Tryz.utf8_DecodeRuneInString (tail s (p + 1)) _ T0.out).mono ?_
  rintro e w1 ⟨rfl, hB1⟩
  have A1 := Lib.hid (A0.out.below hB1 A0.out.lt); have C1 := Lib.hid (C0.out.below hB1 C0.out.lt); have B1 := Lib.hid (B0.out.trans (hB1.mono B0.out.size)); have T1 := Lib.hid (T0.out.below hB1)
  clear hB1
  rw [HDC.out]
  generalize Lib.decodeGo (tail s (p + 1)) = D at HDC HDW ⊢
  obtain ⟨d1, d2⟩ := D
  have hq : (p : Int) + 1 + (d2 : Int) = (Q : Int) := by have := HDW.out; simp only at this; omega
  have hqb : (Q : Int) ≤ 140737488355328 := by have := HQS.out; omega
  simp only
  clear HDC HDW
  go_wp2_with fail
  refine (ref06_wrongR _ _ _ _).mono ?_
  rintro e w2 ⟨rfl, hB2⟩
  obtain ⟨W3, hW3⟩ : ∃ W3, W3 = w2.alloc (.cells #[.int .i64 61, .int .i64 p, .int .i64 Q] 30) := ⟨_, rfl⟩
  have A3 := Lib.hid (show Blk W3 w.heap.size esc0R 27 by rw [hW3]; exact (A1.out.below hB2 A1.out.lt).alloc _)
  have C3 := Lib.hid (show Blk W3 (w.heap.size + 1) wrong0R 30 by rw [hW3]; exact (C1.out.below hB2 C1.out.lt).alloc _)
  have T3 := Lib.hid (show Tabs W3 by rw [hW3]; exact (T1.out.below hB2).alloc _)
  have hz2 := (B1.out.trans (hB2.mono B1.out.size)).size
  have B3 := Lib.hid (show Below w.heap.size w W3 by rw [hW3]; exact (B1.out.trans (hB2.mono B1.out.size)).alloc hz2 _)
  obtain ⟨DB, hDB⟩ : ∃ DB, DB = w2.heap.size := ⟨_, rfl⟩
  have D3 := Lib.hid (show Blk W3 DB [.int .i64 61, .int .i64 p, .int .i64 Q] 30 by rw [hW3, hDB]; exact Blk.new _ _ _)
  have hdb : w.heap.size + 1 < DB := by rw [hDB]; exact (C1.out.below hB2 C1.out.lt).lt
  have hd1 : ¬ w.heap.size = DB := by omega
  have hd2 : ¬ DB = w.heap.size := by omega
  have hd3 : ¬ w.heap.size + 1 = DB := by omega
  have hd4 : ¬ DB = w.heap.size + 1 := by omega
  clear hdb
  clear hB2 hz2 A1 C1 B1 T1 T0 A0 C0 B0 Z0
  go_wp2_with fail
  rw [← hW3, ← hDB]
  clear hW3 hDB
  refine (ref06_SignI C _).mono ?_
  rintro e w4 ⟨rfl, rfl⟩
  rw [HSG.out]
  go_wp2_with fail
  refine (HLE.out _).mono ?_
  rintro e w5 ⟨rfl, rfl⟩
  go_wp2_with fail
  refine (ref06_number s Q _ HQS.out hs).mono ?_
  rintro e w6 ⟨rfl, hB⟩
  rw [HCD.out]
  have A6 := Lib.hid (A3.out.below hB A3.out.lt); have C6 := Lib.hid (C3.out.below hB C3.out.lt); have D6 := Lib.hid (D3.out.below hB D3.out.lt); have B6 := Lib.hid (B3.out.trans (hB.mono B3.out.size))
  clear hB
  simp only [codeV]
  have a0 := Blk.cell A6.out (j := 0) rfl; have a1 := Blk.cell A6.out (j := 1) rfl; have a2 := Blk.cell A6.out (j := 2) rfl; have a3 := Blk.cell A6.out (j := 3) rfl
  have b0 := A6.out.frozen 0; have b1 := A6.out.frozen 1; have b2 := A6.out.frozen 2; have b3 := A6.out.frozen 3
  have d0' := Blk.cell C6.out (j := 0) rfl; have d1' := Blk.cell C6.out (j := 1) rfl; have d2' := Blk.cell C6.out (j := 2) rfl
  have d0 := C6.out.frozen 0; have d1 := C6.out.frozen 1; have d2 := C6.out.frozen 2
  have e0 := Blk.cell D6.out (j := 0) rfl; have e1 := Blk.cell D6.out (j := 1) rfl; have e2 := Blk.cell D6.out (j := 2) rfl
  go_wp2_with fail
  go_region
  go_wp2_with fail
  refine bodyPost_ret (v := escT 0 0 (.slice none 0 0) 0 0 61 p Q) ?_ rfl ⟨rfl, ?_⟩
  · simp [results, Tryz.results12, escT, go_sem, a0, a1, a2, a3, d0', d1', d2']
  · exact (((((((B6.out.setCell (by simp) _).setCell (by simp) _).setCell (by simp) _).setCell (by simp) _).setCell (by simp) _).setCell (by simp) _).setCell (by simp) _).drew

set_option maxRecDepth 100000 in
set_option maxHeartbeats 4000000 in
theorem refesc_p112_no (s : ByteArray) (p : Nat) (b : Bool) (w : World) (hs : s.size ≤ 140737488355328) (h0 : p < s.size) (hc : ((s[p].toNat : Int) != 92) = false) (h1 : p + 1 < s.size) (hT : Tabs w) (C : Int) (Q : Nat) (hC : nextC s (p + 1) = C) (hQ : nextW s (p + 1) = Q) (_ : 0 ≤ C) (_ : C ≤ 1114111) (hsg : signI C = false) (hl : letterI C = -1) (hx : C = 112) (hcd : propP s Q = none) :
    Calls Tryz.prog 12 #[.string s, .int .i64 p, .bool b] w (fun e w' => e = .returned (escT 0 0 (.slice none 0 0) 0 0 61 p Q) ∧ Below w.heap.size w w') := by
  obtain ⟨bA, bC, bB, bZ⟩ := refesc_blocks w
  have A0 := Lib.hid bA; have C0 := Lib.hid bC; have B0 := Lib.hid bB; have Z0 := Lib.hid bZ
  clear bA bC bB bZ
  have hlv : letterI C = -1 := hl
  have HLE := Lib.hid (ref06_letter C)
  simp only [hlv] at HLE
  clear hlv hl
  have nx : (C == 120) = false := by simp; omega
  have ny : (C == 112) = true := by simp; omega
  have nz : (C == 80) = false := by simp; omega
  clear hx
  have HCD := Lib.hid hcd; clear hcd
  have HSG := Lib.hid hsg; clear hsg
  have h0' : (p : Int) < (s.size : Int) := by omega
  have h1' : (p : Int) + 1 < (s.size : Int) := by omega
  have h12 : ((p : Int) + 1 == (s.size : Int)) = false := by simp; omega
  have T0 := Lib.hid ((hT.alloc (.cells #[.int .i64 0, .int .i32 0, .slice none 0 0, .int .i64 0] 27)).alloc (.cells #[.int .i64 0, .int .i64 0, .int .i64 0] 30))
  clear hT
  have HQS := Lib.hid (show Q ≤ s.size by rw [← hQ]; exact nextW_le s (p + 1) (by omega))
  have HDC := Lib.hid (show ((Lib.decodeGo (tail s (p + 1))).1 : Int) = C by rw [← hC, decodeGo_tail s (p + 1) h1]; unfold nextC; rw [if_pos h1])
  have HDW := Lib.hid (show p + 1 + (Lib.decodeGo (tail s (p + 1))).2 = Q by rw [← hQ, decodeGo_tail s (p + 1) h1]; unfold nextW; rw [if_pos h1])
  clear hC hQ
  go_enter Tryz.func12, Tryz.ntmps12
  go_wp2_with fail
  refine (Tryz.utf8_DecodeRuneInString (tail s (p + 1)) _ T0.out).mono ?_
  rintro e w1 ⟨rfl, hB1⟩
  have A1 := Lib.hid (A0.out.below hB1 A0.out.lt); have C1 := Lib.hid (C0.out.below hB1 C0.out.lt); have B1 := Lib.hid (B0.out.trans (hB1.mono B0.out.size)); have T1 := Lib.hid (T0.out.below hB1)
  clear hB1
  rw [HDC.out]
  generalize Lib.decodeGo (tail s (p + 1)) = D at HDC HDW ⊢
  obtain ⟨d1, d2⟩ := D
  have hq : (p : Int) + 1 + (d2 : Int) = (Q : Int) := by have := HDW.out; simp only at this; omega
  have hqb : (Q : Int) ≤ 140737488355328 := by have := HQS.out; omega
  simp only
  clear HDC HDW
  go_wp2_with fail
  refine (ref06_wrongR _ _ _ _).mono ?_
  rintro e w2 ⟨rfl, hB2⟩
  obtain ⟨W3, hW3⟩ : ∃ W3, W3 = w2.alloc (.cells #[.int .i64 61, .int .i64 p, .int .i64 Q] 30) := ⟨_, rfl⟩
  have A3 := Lib.hid (show Blk W3 w.heap.size esc0R 27 by rw [hW3]; exact (A1.out.below hB2 A1.out.lt).alloc _)
  have C3 := Lib.hid (show Blk W3 (w.heap.size + 1) wrong0R 30 by rw [hW3]; exact (C1.out.below hB2 C1.out.lt).alloc _)
  have T3 := Lib.hid (show Tabs W3 by rw [hW3]; exact (T1.out.below hB2).alloc _)
  have hz2 := (B1.out.trans (hB2.mono B1.out.size)).size
  have B3 := Lib.hid (show Below w.heap.size w W3 by rw [hW3]; exact (B1.out.trans (hB2.mono B1.out.size)).alloc hz2 _)
  obtain ⟨DB, hDB⟩ : ∃ DB, DB = w2.heap.size := ⟨_, rfl⟩
  have D3 := Lib.hid (show Blk W3 DB [.int .i64 61, .int .i64 p, .int .i64 Q] 30 by rw [hW3, hDB]; exact Blk.new _ _ _)
  have hdb : w.heap.size + 1 < DB := by rw [hDB]; exact (C1.out.below hB2 C1.out.lt).lt
  have hd1 : ¬ w.heap.size = DB := by omega
  have hd2 : ¬ DB = w.heap.size := by omega
  have hd3 : ¬ w.heap.size + 1 = DB := by omega
  have hd4 : ¬ DB = w.heap.size + 1 := by omega
  clear hdb
  clear hB2 hz2 A1 C1 B1 T1 T0 A0 C0 B0 Z0
  go_wp2_with fail
  rw [← hW3, ← hDB]
  clear hW3 hDB
  refine (ref06_SignI C _).mono ?_
  rintro e w4 ⟨rfl, rfl⟩
  rw [HSG.out]
  go_wp2_with fail
  refine (HLE.out _).mono ?_
  rintro e w5 ⟨rfl, rfl⟩
  go_wp2_with fail
  refine (ref06_property s Q _ T3.out HQS.out hs).mono ?_
  rintro e w6 ⟨rfl, hB⟩
  rw [HCD.out]
  have A6 := Lib.hid (A3.out.below hB A3.out.lt); have C6 := Lib.hid (C3.out.below hB C3.out.lt); have D6 := Lib.hid (D3.out.below hB D3.out.lt); have B6 := Lib.hid (B3.out.trans (hB.mono B3.out.size))
  clear hB
  simp only [propV]
  have a0 := Blk.cell A6.out (j := 0) rfl; have a1 := Blk.cell A6.out (j := 1) rfl; have a2 := Blk.cell A6.out (j := 2) rfl; have a3 := Blk.cell A6.out (j := 3) rfl
  have b0 := A6.out.frozen 0; have b1 := A6.out.frozen 1; have b2 := A6.out.frozen 2; have b3 := A6.out.frozen 3
  have d0' := Blk.cell C6.out (j := 0) rfl; have d1' := Blk.cell C6.out (j := 1) rfl; have d2' := Blk.cell C6.out (j := 2) rfl
  have d0 := C6.out.frozen 0; have d1 := C6.out.frozen 1; have d2 := C6.out.frozen 2
  have e0 := Blk.cell D6.out (j := 0) rfl; have e1 := Blk.cell D6.out (j := 1) rfl; have e2 := Blk.cell D6.out (j := 2) rfl
  go_wp2_with fail
  go_region
  go_wp2_with fail
  refine bodyPost_ret (v := escT 0 0 (.slice none 0 0) 0 0 61 p Q) ?_ rfl ⟨rfl, ?_⟩
  · simp [results, Tryz.results12, escT, go_sem, a0, a1, a2, a3, d0', d1', d2']
  · exact (((((((B6.out.setCell (by simp) _).setCell (by simp) _).setCell (by simp) _).setCell (by simp) _).setCell (by simp) _).setCell (by simp) _).setCell (by simp) _).drew

set_option maxRecDepth 100000 in
set_option maxHeartbeats 4000000 in
theorem refesc_p112_unknown (s : ByteArray) (p : Nat) (b : Bool) (w : World) (hs : s.size ≤ 140737488355328) (h0 : p < s.size) (hc : ((s[p].toNat : Int) != 92) = false) (h1 : p + 1 < s.size) (hT : Tabs w) (C : Int) (Q : Nat) (hC : nextC s (p + 1) = C) (hQ : nextW s (p + 1) = Q) (_ : 0 ≤ C) (_ : C ≤ 1114111) (hsg : signI C = false) (hl : letterI C = -1) (hx : C = 112) (nm : ByteArray) (r : Nat) (hcd : propP s Q = some (nm, r)) (hpr : propSpec nm.data.toList false = none) :
    Calls Tryz.prog 12 #[.string s, .int .i64 p, .bool b] w (fun e w' => e = .returned (escT 0 0 (.slice none 0 0) 0 0 63 p r) ∧ Below w.heap.size w w') := by
  obtain ⟨bA, bC, bB, bZ⟩ := refesc_blocks w
  have A0 := Lib.hid bA; have C0 := Lib.hid bC; have B0 := Lib.hid bB; have Z0 := Lib.hid bZ
  clear bA bC bB bZ
  have hlv : letterI C = -1 := hl
  have HLE := Lib.hid (ref06_letter C)
  simp only [hlv] at HLE
  clear hlv hl
  have nx : (C == 120) = false := by simp; omega
  have ny : (C == 112) = true := by simp; omega
  have nz : (C == 80) = false := by simp; omega
  clear hx
  have HCD := Lib.hid hcd; clear hcd
  have HP := Lib.hid hpr; clear hpr
  have HSG := Lib.hid hsg; clear hsg
  have h0' : (p : Int) < (s.size : Int) := by omega
  have h1' : (p : Int) + 1 < (s.size : Int) := by omega
  have h12 : ((p : Int) + 1 == (s.size : Int)) = false := by simp; omega
  have T0 := Lib.hid ((hT.alloc (.cells #[.int .i64 0, .int .i32 0, .slice none 0 0, .int .i64 0] 27)).alloc (.cells #[.int .i64 0, .int .i64 0, .int .i64 0] 30))
  clear hT
  have HQS := Lib.hid (show Q ≤ s.size by rw [← hQ]; exact nextW_le s (p + 1) (by omega))
  have HDC := Lib.hid (show ((Lib.decodeGo (tail s (p + 1))).1 : Int) = C by rw [← hC, decodeGo_tail s (p + 1) h1]; unfold nextC; rw [if_pos h1])
  have HDW := Lib.hid (show p + 1 + (Lib.decodeGo (tail s (p + 1))).2 = Q by rw [← hQ, decodeGo_tail s (p + 1) h1]; unfold nextW; rw [if_pos h1])
  clear hC hQ
  go_enter Tryz.func12, Tryz.ntmps12
  go_wp2_with fail
  refine (Tryz.utf8_DecodeRuneInString (tail s (p + 1)) _ T0.out).mono ?_
  rintro e w1 ⟨rfl, hB1⟩
  have A1 := Lib.hid (A0.out.below hB1 A0.out.lt); have C1 := Lib.hid (C0.out.below hB1 C0.out.lt); have B1 := Lib.hid (B0.out.trans (hB1.mono B0.out.size)); have T1 := Lib.hid (T0.out.below hB1)
  clear hB1
  rw [HDC.out]
  generalize Lib.decodeGo (tail s (p + 1)) = D at HDC HDW ⊢
  obtain ⟨d1, d2⟩ := D
  have hq : (p : Int) + 1 + (d2 : Int) = (Q : Int) := by have := HDW.out; simp only at this; omega
  have hqb : (Q : Int) ≤ 140737488355328 := by have := HQS.out; omega
  simp only
  clear HDC HDW
  go_wp2_with fail
  refine (ref06_wrongR _ _ _ _).mono ?_
  rintro e w2 ⟨rfl, hB2⟩
  obtain ⟨W3, hW3⟩ : ∃ W3, W3 = w2.alloc (.cells #[.int .i64 61, .int .i64 p, .int .i64 Q] 30) := ⟨_, rfl⟩
  have A3 := Lib.hid (show Blk W3 w.heap.size esc0R 27 by rw [hW3]; exact (A1.out.below hB2 A1.out.lt).alloc _)
  have C3 := Lib.hid (show Blk W3 (w.heap.size + 1) wrong0R 30 by rw [hW3]; exact (C1.out.below hB2 C1.out.lt).alloc _)
  have T3 := Lib.hid (show Tabs W3 by rw [hW3]; exact (T1.out.below hB2).alloc _)
  have hz2 := (B1.out.trans (hB2.mono B1.out.size)).size
  have B3 := Lib.hid (show Below w.heap.size w W3 by rw [hW3]; exact (B1.out.trans (hB2.mono B1.out.size)).alloc hz2 _)
  obtain ⟨DB, hDB⟩ : ∃ DB, DB = w2.heap.size := ⟨_, rfl⟩
  have D3 := Lib.hid (show Blk W3 DB [.int .i64 61, .int .i64 p, .int .i64 Q] 30 by rw [hW3, hDB]; exact Blk.new _ _ _)
  have hdb : w.heap.size + 1 < DB := by rw [hDB]; exact (C1.out.below hB2 C1.out.lt).lt
  have hd1 : ¬ w.heap.size = DB := by omega
  have hd2 : ¬ DB = w.heap.size := by omega
  have hd3 : ¬ w.heap.size + 1 = DB := by omega
  have hd4 : ¬ DB = w.heap.size + 1 := by omega
  clear hdb
  clear hB2 hz2 A1 C1 B1 T1 T0 A0 C0 B0 Z0
  go_wp2_with fail
  rw [← hW3, ← hDB]
  clear hW3 hDB
  refine (ref06_SignI C _).mono ?_
  rintro e w4 ⟨rfl, rfl⟩
  rw [HSG.out]
  go_wp2_with fail
  refine (HLE.out _).mono ?_
  rintro e w5 ⟨rfl, rfl⟩
  go_wp2_with fail
  refine (ref06_property s Q _ T3.out HQS.out hs).mono ?_
  rintro e w6 ⟨rfl, hB⟩
  rw [HCD.out]
  have A6 := Lib.hid (A3.out.below hB A3.out.lt); have C6 := Lib.hid (C3.out.below hB C3.out.lt); have D6 := Lib.hid (D3.out.below hB D3.out.lt); have B6 := Lib.hid (B3.out.trans (hB.mono B3.out.size))
  clear hB
  simp only [propV]
  go_wp2_with fail
  refine (ref04_Property nm false _).mono ?_
  rintro e w7 ⟨v, out, rfl, p1, p2, p3, p4⟩
  rw [HP.out] at p2 ⊢
  obtain ⟨sa, sc, rfl, hr, _⟩ := p1.ranges (by omega)
  have HLD := Lib.hid p1; have HST := Lib.hid p2; have HLN := Lib.hid p3
  have A7 := Lib.hid (A6.out.below p4 A6.out.lt); have C7 := Lib.hid (C6.out.below p4 C6.out.lt); have B7 := Lib.hid (B6.out.trans (p4.mono B6.out.size))
  have hz6 := Lib.hid (show w.heap.size + 1 < w6.heap.size from C6.out.lt)
  clear hr p1 p2 p3 p4
  go_wp2_with fail
  refine (ref06_wrongR _ _ _ _).mono ?_
  rintro e w8 ⟨rfl, hB⟩
  have A8 := Lib.hid (A7.out.below hB A7.out.lt); have C8 := Lib.hid (C7.out.below hB C7.out.lt); have B8 := Lib.hid (B7.out.trans (hB.mono B7.out.size))
  clear hB
  have a0 := Blk.cell A8.out (j := 0) rfl; have a1 := Blk.cell A8.out (j := 1) rfl; have a2 := Blk.cell A8.out (j := 2) rfl; have a3 := Blk.cell A8.out (j := 3) rfl
  have b0 := A8.out.frozen 0; have b1 := A8.out.frozen 1; have b2 := A8.out.frozen 2; have b3 := A8.out.frozen 3
  have d0' := Blk.cell C8.out (j := 0) rfl; have d1' := Blk.cell C8.out (j := 1) rfl; have d2' := Blk.cell C8.out (j := 2) rfl
  have d0 := C8.out.frozen 0; have d1 := C8.out.frozen 1; have d2 := C8.out.frozen 2
  go_wp2_with fail
  refine bodyPost_ret (v := escT 0 0 (.slice none 0 0) 0 0 63 p r) ?_ rfl ⟨rfl, ?_⟩
  · simp [results, Tryz.results12, escT, go_sem, a0, a1, a2, a3, d0', d1', d2']
  · exact (((((((B8.out.setCell (by simp) _).setCell (by simp) _).setCell (by simp) _).setCell (by simp) _).setCell (by simp) _).setCell (by simp) _).setCell (by simp) _)

set_option maxRecDepth 100000 in
set_option maxHeartbeats 4000000 in
theorem refesc_p112_set (s : ByteArray) (p : Nat) (b : Bool) (w : World) (hs : s.size ≤ 140737488355328) (h0 : p < s.size) (hc : ((s[p].toNat : Int) != 92) = false) (h1 : p + 1 < s.size) (hT : Tabs w) (C : Int) (Q : Nat) (hC : nextC s (p + 1) = C) (hQ : nextW s (p + 1) = Q) (_ : 0 ≤ C) (_ : C ≤ 1114111) (hsg : signI C = false) (hl : letterI C = -1) (hx : C = 112) (nm : ByteArray) (r : Nat) (hcd : propP s Q = some (nm, r)) (f : Int → Bool) (hpr : propSpec nm.data.toList false = some f) :
    Calls Tryz.prog 12 #[.string s, .int .i64 p, .bool b] w (EscOut w (.set f r)) := by
  obtain ⟨bA, bC, bB, bZ⟩ := refesc_blocks w
  have A0 := Lib.hid bA; have C0 := Lib.hid bC; have B0 := Lib.hid bB; have Z0 := Lib.hid bZ
  clear bA bC bB bZ
  have hlv : letterI C = -1 := hl
  have HLE := Lib.hid (ref06_letter C)
  simp only [hlv] at HLE
  clear hlv hl
  have nx : (C == 120) = false := by simp; omega
  have ny : (C == 112) = true := by simp; omega
  have nz : (C == 80) = false := by simp; omega
  clear hx
  have HCD := Lib.hid hcd; clear hcd
  have HP := Lib.hid hpr; clear hpr
  have HSG := Lib.hid hsg; clear hsg
  have h0' : (p : Int) < (s.size : Int) := by omega
  have h1' : (p : Int) + 1 < (s.size : Int) := by omega
  have h12 : ((p : Int) + 1 == (s.size : Int)) = false := by simp; omega
  have T0 := Lib.hid ((hT.alloc (.cells #[.int .i64 0, .int .i32 0, .slice none 0 0, .int .i64 0] 27)).alloc (.cells #[.int .i64 0, .int .i64 0, .int .i64 0] 30))
  clear hT
  have HQS := Lib.hid (show Q ≤ s.size by rw [← hQ]; exact nextW_le s (p + 1) (by omega))
  have HDC := Lib.hid (show ((Lib.decodeGo (tail s (p + 1))).1 : Int) = C by rw [← hC, decodeGo_tail s (p + 1) h1]; unfold nextC; rw [if_pos h1])
  have HDW := Lib.hid (show p + 1 + (Lib.decodeGo (tail s (p + 1))).2 = Q by rw [← hQ, decodeGo_tail s (p + 1) h1]; unfold nextW; rw [if_pos h1])
  clear hC hQ
  go_enter Tryz.func12, Tryz.ntmps12
  go_wp2_with fail
  refine (Tryz.utf8_DecodeRuneInString (tail s (p + 1)) _ T0.out).mono ?_
  rintro e w1 ⟨rfl, hB1⟩
  have A1 := Lib.hid (A0.out.below hB1 A0.out.lt); have C1 := Lib.hid (C0.out.below hB1 C0.out.lt); have B1 := Lib.hid (B0.out.trans (hB1.mono B0.out.size)); have T1 := Lib.hid (T0.out.below hB1)
  clear hB1
  rw [HDC.out]
  generalize Lib.decodeGo (tail s (p + 1)) = D at HDC HDW ⊢
  obtain ⟨d1, d2⟩ := D
  have hq : (p : Int) + 1 + (d2 : Int) = (Q : Int) := by have := HDW.out; simp only at this; omega
  have hqb : (Q : Int) ≤ 140737488355328 := by have := HQS.out; omega
  simp only
  clear HDC HDW
  go_wp2_with fail
  refine (ref06_wrongR _ _ _ _).mono ?_
  rintro e w2 ⟨rfl, hB2⟩
  obtain ⟨W3, hW3⟩ : ∃ W3, W3 = w2.alloc (.cells #[.int .i64 61, .int .i64 p, .int .i64 Q] 30) := ⟨_, rfl⟩
  have A3 := Lib.hid (show Blk W3 w.heap.size esc0R 27 by rw [hW3]; exact (A1.out.below hB2 A1.out.lt).alloc _)
  have C3 := Lib.hid (show Blk W3 (w.heap.size + 1) wrong0R 30 by rw [hW3]; exact (C1.out.below hB2 C1.out.lt).alloc _)
  have T3 := Lib.hid (show Tabs W3 by rw [hW3]; exact (T1.out.below hB2).alloc _)
  have hz2 := (B1.out.trans (hB2.mono B1.out.size)).size
  have B3 := Lib.hid (show Below w.heap.size w W3 by rw [hW3]; exact (B1.out.trans (hB2.mono B1.out.size)).alloc hz2 _)
  obtain ⟨DB, hDB⟩ : ∃ DB, DB = w2.heap.size := ⟨_, rfl⟩
  have D3 := Lib.hid (show Blk W3 DB [.int .i64 61, .int .i64 p, .int .i64 Q] 30 by rw [hW3, hDB]; exact Blk.new _ _ _)
  have hdb : w.heap.size + 1 < DB := by rw [hDB]; exact (C1.out.below hB2 C1.out.lt).lt
  have hd1 : ¬ w.heap.size = DB := by omega
  have hd2 : ¬ DB = w.heap.size := by omega
  have hd3 : ¬ w.heap.size + 1 = DB := by omega
  have hd4 : ¬ DB = w.heap.size + 1 := by omega
  clear hdb
  clear hB2 hz2 A1 C1 B1 T1 T0 A0 C0 B0 Z0
  go_wp2_with fail
  rw [← hW3, ← hDB]
  clear hW3 hDB
  refine (ref06_SignI C _).mono ?_
  rintro e w4 ⟨rfl, rfl⟩
  rw [HSG.out]
  go_wp2_with fail
  refine (HLE.out _).mono ?_
  rintro e w5 ⟨rfl, rfl⟩
  go_wp2_with fail
  refine (ref06_property s Q _ T3.out HQS.out hs).mono ?_
  rintro e w6 ⟨rfl, hB⟩
  rw [HCD.out]
  have A6 := Lib.hid (A3.out.below hB A3.out.lt); have C6 := Lib.hid (C3.out.below hB C3.out.lt); have D6 := Lib.hid (D3.out.below hB D3.out.lt); have B6 := Lib.hid (B3.out.trans (hB.mono B3.out.size))
  clear hB
  simp only [propV]
  go_wp2_with fail
  refine (ref04_Property nm false _).mono ?_
  rintro e w7 ⟨v, out, rfl, p1, p2, p3, p4⟩
  rw [HP.out] at p2 ⊢
  obtain ⟨sa, sc, rfl, hr, _⟩ := p1.ranges (by omega)
  have HLD := Lib.hid p1; have HST := Lib.hid p2; have HLN := Lib.hid p3
  have A7 := Lib.hid (A6.out.below p4 A6.out.lt); have C7 := Lib.hid (C6.out.below p4 C6.out.lt); have B7 := Lib.hid (B6.out.trans (p4.mono B6.out.size))
  have hz6 := Lib.hid (show w.heap.size + 1 < w6.heap.size from C6.out.lt)
  clear hr p1 p2 p3 p4
  have a0 := Blk.cell A7.out (j := 0) rfl; have a1 := Blk.cell A7.out (j := 1) rfl; have a2 := Blk.cell A7.out (j := 2) rfl; have a3 := Blk.cell A7.out (j := 3) rfl
  have b0 := A7.out.frozen 0; have b1 := A7.out.frozen 1; have b2 := A7.out.frozen 2; have b3 := A7.out.frozen 3
  have d0' := Blk.cell C7.out (j := 0) rfl; have d1' := Blk.cell C7.out (j := 1) rfl; have d2' := Blk.cell C7.out (j := 2) rfl
  have d0 := C7.out.frozen 0; have d1 := C7.out.frozen 1; have d2 := C7.out.frozen 2
  go_wp2_with fail
  refine bodyPost_ret (v := escT 2 0 (.slice sa out.length sc) 0 r 0 0 0) ?_ rfl ⟨_, out, rfl, ?_, HST.out, HLN.out, ?_⟩
  · simp [results, Tryz.results12, escT, go_sem, a0, a1, a2, a3, d0', d1', d2']
  · have l1 := hz6.out
    refine Joins.ownsRow_le ?_ (show w.heap.size ≤ w6.heap.size by omega)
    exact (ownsRow_setCellR (ownsRow_setCellR (ownsRow_setCellR (ownsRow_setCellR (ownsRow_setCellR (ownsRow_setCellR (ownsRow_setCellR HLD.out (by omega) _ _) (by omega) _ _) (by omega) _ _) (by omega) _ _) (by omega) _ _) (by omega) _ _) (by omega) _ _)
  · exact (((((((B7.out.setCell (by simp) _).setCell (by simp) _).setCell (by simp) _).setCell (by simp) _).setCell (by simp) _).setCell (by simp) _).setCell (by simp) _)

set_option maxRecDepth 100000 in
set_option maxHeartbeats 4000000 in
theorem refesc_p80_no (s : ByteArray) (p : Nat) (b : Bool) (w : World) (hs : s.size ≤ 140737488355328) (h0 : p < s.size) (hc : ((s[p].toNat : Int) != 92) = false) (h1 : p + 1 < s.size) (hT : Tabs w) (C : Int) (Q : Nat) (hC : nextC s (p + 1) = C) (hQ : nextW s (p + 1) = Q) (_ : 0 ≤ C) (_ : C ≤ 1114111) (hsg : signI C = false) (hl : letterI C = -1) (hx : C = 80) (hcd : propP s Q = none) :
    Calls Tryz.prog 12 #[.string s, .int .i64 p, .bool b] w (fun e w' => e = .returned (escT 0 0 (.slice none 0 0) 0 0 61 p Q) ∧ Below w.heap.size w w') := by
  obtain ⟨bA, bC, bB, bZ⟩ := refesc_blocks w
  have A0 := Lib.hid bA; have C0 := Lib.hid bC; have B0 := Lib.hid bB; have Z0 := Lib.hid bZ
  clear bA bC bB bZ
  have hlv : letterI C = -1 := hl
  have HLE := Lib.hid (ref06_letter C)
  simp only [hlv] at HLE
  clear hlv hl
  have nx : (C == 120) = false := by simp; omega
  have ny : (C == 112) = false := by simp; omega
  have nz : (C == 80) = true := by simp; omega
  clear hx
  have HCD := Lib.hid hcd; clear hcd
  have HSG := Lib.hid hsg; clear hsg
  have h0' : (p : Int) < (s.size : Int) := by omega
  have h1' : (p : Int) + 1 < (s.size : Int) := by omega
  have h12 : ((p : Int) + 1 == (s.size : Int)) = false := by simp; omega
  have T0 := Lib.hid ((hT.alloc (.cells #[.int .i64 0, .int .i32 0, .slice none 0 0, .int .i64 0] 27)).alloc (.cells #[.int .i64 0, .int .i64 0, .int .i64 0] 30))
  clear hT
  have HQS := Lib.hid (show Q ≤ s.size by rw [← hQ]; exact nextW_le s (p + 1) (by omega))
  have HDC := Lib.hid (show ((Lib.decodeGo (tail s (p + 1))).1 : Int) = C by rw [← hC, decodeGo_tail s (p + 1) h1]; unfold nextC; rw [if_pos h1])
  have HDW := Lib.hid (show p + 1 + (Lib.decodeGo (tail s (p + 1))).2 = Q by rw [← hQ, decodeGo_tail s (p + 1) h1]; unfold nextW; rw [if_pos h1])
  clear hC hQ
  go_enter Tryz.func12, Tryz.ntmps12
  go_wp2_with fail
  refine (Tryz.utf8_DecodeRuneInString (tail s (p + 1)) _ T0.out).mono ?_
  rintro e w1 ⟨rfl, hB1⟩
  have A1 := Lib.hid (A0.out.below hB1 A0.out.lt); have C1 := Lib.hid (C0.out.below hB1 C0.out.lt); have B1 := Lib.hid (B0.out.trans (hB1.mono B0.out.size)); have T1 := Lib.hid (T0.out.below hB1)
  clear hB1
  rw [HDC.out]
  generalize Lib.decodeGo (tail s (p + 1)) = D at HDC HDW ⊢
  obtain ⟨d1, d2⟩ := D
  have hq : (p : Int) + 1 + (d2 : Int) = (Q : Int) := by have := HDW.out; simp only at this; omega
  have hqb : (Q : Int) ≤ 140737488355328 := by have := HQS.out; omega
  simp only
  clear HDC HDW
  go_wp2_with fail
  refine (ref06_wrongR _ _ _ _).mono ?_
  rintro e w2 ⟨rfl, hB2⟩
  obtain ⟨W3, hW3⟩ : ∃ W3, W3 = w2.alloc (.cells #[.int .i64 61, .int .i64 p, .int .i64 Q] 30) := ⟨_, rfl⟩
  have A3 := Lib.hid (show Blk W3 w.heap.size esc0R 27 by rw [hW3]; exact (A1.out.below hB2 A1.out.lt).alloc _)
  have C3 := Lib.hid (show Blk W3 (w.heap.size + 1) wrong0R 30 by rw [hW3]; exact (C1.out.below hB2 C1.out.lt).alloc _)
  have T3 := Lib.hid (show Tabs W3 by rw [hW3]; exact (T1.out.below hB2).alloc _)
  have hz2 := (B1.out.trans (hB2.mono B1.out.size)).size
  have B3 := Lib.hid (show Below w.heap.size w W3 by rw [hW3]; exact (B1.out.trans (hB2.mono B1.out.size)).alloc hz2 _)
  obtain ⟨DB, hDB⟩ : ∃ DB, DB = w2.heap.size := ⟨_, rfl⟩
  have D3 := Lib.hid (show Blk W3 DB [.int .i64 61, .int .i64 p, .int .i64 Q] 30 by rw [hW3, hDB]; exact Blk.new _ _ _)
  have hdb : w.heap.size + 1 < DB := by rw [hDB]; exact (C1.out.below hB2 C1.out.lt).lt
  have hd1 : ¬ w.heap.size = DB := by omega
  have hd2 : ¬ DB = w.heap.size := by omega
  have hd3 : ¬ w.heap.size + 1 = DB := by omega
  have hd4 : ¬ DB = w.heap.size + 1 := by omega
  clear hdb
  clear hB2 hz2 A1 C1 B1 T1 T0 A0 C0 B0 Z0
  go_wp2_with fail
  rw [← hW3, ← hDB]
  clear hW3 hDB
  refine (ref06_SignI C _).mono ?_
  rintro e w4 ⟨rfl, rfl⟩
  rw [HSG.out]
  go_wp2_with fail
  refine (HLE.out _).mono ?_
  rintro e w5 ⟨rfl, rfl⟩
  go_wp2_with fail
  refine (ref06_property s Q _ T3.out HQS.out hs).mono ?_
  rintro e w6 ⟨rfl, hB⟩
  rw [HCD.out]
  have A6 := Lib.hid (A3.out.below hB A3.out.lt); have C6 := Lib.hid (C3.out.below hB C3.out.lt); have D6 := Lib.hid (D3.out.below hB D3.out.lt); have B6 := Lib.hid (B3.out.trans (hB.mono B3.out.size))
  clear hB
  simp only [propV]
  have a0 := Blk.cell A6.out (j := 0) rfl; have a1 := Blk.cell A6.out (j := 1) rfl; have a2 := Blk.cell A6.out (j := 2) rfl; have a3 := Blk.cell A6.out (j := 3) rfl
  have b0 := A6.out.frozen 0; have b1 := A6.out.frozen 1; have b2 := A6.out.frozen 2; have b3 := A6.out.frozen 3
  have d0' := Blk.cell C6.out (j := 0) rfl; have d1' := Blk.cell C6.out (j := 1) rfl; have d2' := Blk.cell C6.out (j := 2) rfl
  have d0 := C6.out.frozen 0; have d1 := C6.out.frozen 1; have d2 := C6.out.frozen 2
  have e0 := Blk.cell D6.out (j := 0) rfl; have e1 := Blk.cell D6.out (j := 1) rfl; have e2 := Blk.cell D6.out (j := 2) rfl
  go_wp2_with fail
  go_region
  go_wp2_with fail
  refine bodyPost_ret (v := escT 0 0 (.slice none 0 0) 0 0 61 p Q) ?_ rfl ⟨rfl, ?_⟩
  · simp [results, Tryz.results12, escT, go_sem, a0, a1, a2, a3, d0', d1', d2']
  · exact (((((((B6.out.setCell (by simp) _).setCell (by simp) _).setCell (by simp) _).setCell (by simp) _).setCell (by simp) _).setCell (by simp) _).setCell (by simp) _).drew

set_option maxRecDepth 100000 in
set_option maxHeartbeats 4000000 in
theorem refesc_p80_unknown (s : ByteArray) (p : Nat) (b : Bool) (w : World) (hs : s.size ≤ 140737488355328) (h0 : p < s.size) (hc : ((s[p].toNat : Int) != 92) = false) (h1 : p + 1 < s.size) (hT : Tabs w) (C : Int) (Q : Nat) (hC : nextC s (p + 1) = C) (hQ : nextW s (p + 1) = Q) (_ : 0 ≤ C) (_ : C ≤ 1114111) (hsg : signI C = false) (hl : letterI C = -1) (hx : C = 80) (nm : ByteArray) (r : Nat) (hcd : propP s Q = some (nm, r)) (hpr : propSpec nm.data.toList true = none) :
    Calls Tryz.prog 12 #[.string s, .int .i64 p, .bool b] w (fun e w' => e = .returned (escT 0 0 (.slice none 0 0) 0 0 63 p r) ∧ Below w.heap.size w w') := by
  obtain ⟨bA, bC, bB, bZ⟩ := refesc_blocks w
  have A0 := Lib.hid bA; have C0 := Lib.hid bC; have B0 := Lib.hid bB; have Z0 := Lib.hid bZ
  clear bA bC bB bZ
  have hlv : letterI C = -1 := hl
  have HLE := Lib.hid (ref06_letter C)
  simp only [hlv] at HLE
  clear hlv hl
  have nx : (C == 120) = false := by simp; omega
  have ny : (C == 112) = false := by simp; omega
  have nz : (C == 80) = true := by simp; omega
  clear hx
  have HCD := Lib.hid hcd; clear hcd
  have HP := Lib.hid hpr; clear hpr
  have HSG := Lib.hid hsg; clear hsg
  have h0' : (p : Int) < (s.size : Int) := by omega
  have h1' : (p : Int) + 1 < (s.size : Int) := by omega
  have h12 : ((p : Int) + 1 == (s.size : Int)) = false := by simp; omega
  have T0 := Lib.hid ((hT.alloc (.cells #[.int .i64 0, .int .i32 0, .slice none 0 0, .int .i64 0] 27)).alloc (.cells #[.int .i64 0, .int .i64 0, .int .i64 0] 30))
  clear hT
  have HQS := Lib.hid (show Q ≤ s.size by rw [← hQ]; exact nextW_le s (p + 1) (by omega))
  have HDC := Lib.hid (show ((Lib.decodeGo (tail s (p + 1))).1 : Int) = C by rw [← hC, decodeGo_tail s (p + 1) h1]; unfold nextC; rw [if_pos h1])
  have HDW := Lib.hid (show p + 1 + (Lib.decodeGo (tail s (p + 1))).2 = Q by rw [← hQ, decodeGo_tail s (p + 1) h1]; unfold nextW; rw [if_pos h1])
  clear hC hQ
  go_enter Tryz.func12, Tryz.ntmps12
  go_wp2_with fail
  refine (Tryz.utf8_DecodeRuneInString (tail s (p + 1)) _ T0.out).mono ?_
  rintro e w1 ⟨rfl, hB1⟩
  have A1 := Lib.hid (A0.out.below hB1 A0.out.lt); have C1 := Lib.hid (C0.out.below hB1 C0.out.lt); have B1 := Lib.hid (B0.out.trans (hB1.mono B0.out.size)); have T1 := Lib.hid (T0.out.below hB1)
  clear hB1
  rw [HDC.out]
  generalize Lib.decodeGo (tail s (p + 1)) = D at HDC HDW ⊢
  obtain ⟨d1, d2⟩ := D
  have hq : (p : Int) + 1 + (d2 : Int) = (Q : Int) := by have := HDW.out; simp only at this; omega
  have hqb : (Q : Int) ≤ 140737488355328 := by have := HQS.out; omega
  simp only
  clear HDC HDW
  go_wp2_with fail
  refine (ref06_wrongR _ _ _ _).mono ?_
  rintro e w2 ⟨rfl, hB2⟩
  obtain ⟨W3, hW3⟩ : ∃ W3, W3 = w2.alloc (.cells #[.int .i64 61, .int .i64 p, .int .i64 Q] 30) := ⟨_, rfl⟩
  have A3 := Lib.hid (show Blk W3 w.heap.size esc0R 27 by rw [hW3]; exact (A1.out.below hB2 A1.out.lt).alloc _)
  have C3 := Lib.hid (show Blk W3 (w.heap.size + 1) wrong0R 30 by rw [hW3]; exact (C1.out.below hB2 C1.out.lt).alloc _)
  have T3 := Lib.hid (show Tabs W3 by rw [hW3]; exact (T1.out.below hB2).alloc _)
  have hz2 := (B1.out.trans (hB2.mono B1.out.size)).size
  have B3 := Lib.hid (show Below w.heap.size w W3 by rw [hW3]; exact (B1.out.trans (hB2.mono B1.out.size)).alloc hz2 _)
  obtain ⟨DB, hDB⟩ : ∃ DB, DB = w2.heap.size := ⟨_, rfl⟩
  have D3 := Lib.hid (show Blk W3 DB [.int .i64 61, .int .i64 p, .int .i64 Q] 30 by rw [hW3, hDB]; exact Blk.new _ _ _)
  have hdb : w.heap.size + 1 < DB := by rw [hDB]; exact (C1.out.below hB2 C1.out.lt).lt
  have hd1 : ¬ w.heap.size = DB := by omega
  have hd2 : ¬ DB = w.heap.size := by omega
  have hd3 : ¬ w.heap.size + 1 = DB := by omega
  have hd4 : ¬ DB = w.heap.size + 1 := by omega
  clear hdb
  clear hB2 hz2 A1 C1 B1 T1 T0 A0 C0 B0 Z0
  go_wp2_with fail
  rw [← hW3, ← hDB]
  clear hW3 hDB
  refine (ref06_SignI C _).mono ?_
  rintro e w4 ⟨rfl, rfl⟩
  rw [HSG.out]
  go_wp2_with fail
  refine (HLE.out _).mono ?_
  rintro e w5 ⟨rfl, rfl⟩
  go_wp2_with fail
  refine (ref06_property s Q _ T3.out HQS.out hs).mono ?_
  rintro e w6 ⟨rfl, hB⟩
  rw [HCD.out]
  have A6 := Lib.hid (A3.out.below hB A3.out.lt); have C6 := Lib.hid (C3.out.below hB C3.out.lt); have D6 := Lib.hid (D3.out.below hB D3.out.lt); have B6 := Lib.hid (B3.out.trans (hB.mono B3.out.size))
  clear hB
  simp only [propV]
  go_wp2_with fail
  refine (ref04_Property nm true _).mono ?_
  rintro e w7 ⟨v, out, rfl, p1, p2, p3, p4⟩
  rw [HP.out] at p2 ⊢
  obtain ⟨sa, sc, rfl, hr, _⟩ := p1.ranges (by omega)
  have HLD := Lib.hid p1; have HST := Lib.hid p2; have HLN := Lib.hid p3
  have A7 := Lib.hid (A6.out.below p4 A6.out.lt); have C7 := Lib.hid (C6.out.below p4 C6.out.lt); have B7 := Lib.hid (B6.out.trans (p4.mono B6.out.size))
  have hz6 := Lib.hid (show w.heap.size + 1 < w6.heap.size from C6.out.lt)
  clear hr p1 p2 p3 p4
  go_wp2_with fail
  refine (ref06_wrongR _ _ _ _).mono ?_
  rintro e w8 ⟨rfl, hB⟩
  have A8 := Lib.hid (A7.out.below hB A7.out.lt); have C8 := Lib.hid (C7.out.below hB C7.out.lt); have B8 := Lib.hid (B7.out.trans (hB.mono B7.out.size))
  clear hB
  have a0 := Blk.cell A8.out (j := 0) rfl; have a1 := Blk.cell A8.out (j := 1) rfl; have a2 := Blk.cell A8.out (j := 2) rfl; have a3 := Blk.cell A8.out (j := 3) rfl
  have b0 := A8.out.frozen 0; have b1 := A8.out.frozen 1; have b2 := A8.out.frozen 2; have b3 := A8.out.frozen 3
  have d0' := Blk.cell C8.out (j := 0) rfl; have d1' := Blk.cell C8.out (j := 1) rfl; have d2' := Blk.cell C8.out (j := 2) rfl
  have d0 := C8.out.frozen 0; have d1 := C8.out.frozen 1; have d2 := C8.out.frozen 2
  go_wp2_with fail
  refine bodyPost_ret (v := escT 0 0 (.slice none 0 0) 0 0 63 p r) ?_ rfl ⟨rfl, ?_⟩
  · simp [results, Tryz.results12, escT, go_sem, a0, a1, a2, a3, d0', d1', d2']
  · exact (((((((B8.out.setCell (by simp) _).setCell (by simp) _).setCell (by simp) _).setCell (by simp) _).setCell (by simp) _).setCell (by simp) _).setCell (by simp) _)

set_option maxRecDepth 100000 in
set_option maxHeartbeats 4000000 in
theorem refesc_p80_set (s : ByteArray) (p : Nat) (b : Bool) (w : World) (hs : s.size ≤ 140737488355328) (h0 : p < s.size) (hc : ((s[p].toNat : Int) != 92) = false) (h1 : p + 1 < s.size) (hT : Tabs w) (C : Int) (Q : Nat) (hC : nextC s (p + 1) = C) (hQ : nextW s (p + 1) = Q) (_ : 0 ≤ C) (_ : C ≤ 1114111) (hsg : signI C = false) (hl : letterI C = -1) (hx : C = 80) (nm : ByteArray) (r : Nat) (hcd : propP s Q = some (nm, r)) (f : Int → Bool) (hpr : propSpec nm.data.toList true = some f) :
    Calls Tryz.prog 12 #[.string s, .int .i64 p, .bool b] w (EscOut w (.set f r)) := by
  obtain ⟨bA, bC, bB, bZ⟩ := refesc_blocks w
  have A0 := Lib.hid bA; have C0 := Lib.hid bC; have B0 := Lib.hid bB; have Z0 := Lib.hid bZ
  clear bA bC bB bZ
  have hlv : letterI C = -1 := hl
  have HLE := Lib.hid (ref06_letter C)
  simp only [hlv] at HLE
  clear hlv hl
  have nx : (C == 120) = false := by simp; omega
  have ny : (C == 112) = false := by simp; omega
  have nz : (C == 80) = true := by simp; omega
  clear hx
  have HCD := Lib.hid hcd; clear hcd
  have HP := Lib.hid hpr; clear hpr
  have HSG := Lib.hid hsg; clear hsg
  have h0' : (p : Int) < (s.size : Int) := by omega
  have h1' : (p : Int) + 1 < (s.size : Int) := by omega
  have h12 : ((p : Int) + 1 == (s.size : Int)) = false := by simp; omega
  have T0 := Lib.hid ((hT.alloc (.cells #[.int .i64 0, .int .i32 0, .slice none 0 0, .int .i64 0] 27)).alloc (.cells #[.int .i64 0, .int .i64 0, .int .i64 0] 30))
  clear hT
  have HQS := Lib.hid (show Q ≤ s.size by rw [← hQ]; exact nextW_le s (p + 1) (by omega))
  have HDC := Lib.hid (show ((Lib.decodeGo (tail s (p + 1))).1 : Int) = C by rw [← hC, decodeGo_tail s (p + 1) h1]; unfold nextC; rw [if_pos h1])
  have HDW := Lib.hid (show p + 1 + (Lib.decodeGo (tail s (p + 1))).2 = Q by rw [← hQ, decodeGo_tail s (p + 1) h1]; unfold nextW; rw [if_pos h1])
  clear hC hQ
  go_enter Tryz.func12, Tryz.ntmps12
  go_wp2_with fail
  refine (Tryz.utf8_DecodeRuneInString (tail s (p + 1)) _ T0.out).mono ?_
  rintro e w1 ⟨rfl, hB1⟩
  have A1 := Lib.hid (A0.out.below hB1 A0.out.lt); have C1 := Lib.hid (C0.out.below hB1 C0.out.lt); have B1 := Lib.hid (B0.out.trans (hB1.mono B0.out.size)); have T1 := Lib.hid (T0.out.below hB1)
  clear hB1
  rw [HDC.out]
  generalize Lib.decodeGo (tail s (p + 1)) = D at HDC HDW ⊢
  obtain ⟨d1, d2⟩ := D
  have hq : (p : Int) + 1 + (d2 : Int) = (Q : Int) := by have := HDW.out; simp only at this; omega
  have hqb : (Q : Int) ≤ 140737488355328 := by have := HQS.out; omega
  simp only
  clear HDC HDW
  go_wp2_with fail
  refine (ref06_wrongR _ _ _ _).mono ?_
  rintro e w2 ⟨rfl, hB2⟩
  obtain ⟨W3, hW3⟩ : ∃ W3, W3 = w2.alloc (.cells #[.int .i64 61, .int .i64 p, .int .i64 Q] 30) := ⟨_, rfl⟩
  have A3 := Lib.hid (show Blk W3 w.heap.size esc0R 27 by rw [hW3]; exact (A1.out.below hB2 A1.out.lt).alloc _)
  have C3 := Lib.hid (show Blk W3 (w.heap.size + 1) wrong0R 30 by rw [hW3]; exact (C1.out.below hB2 C1.out.lt).alloc _)
  have T3 := Lib.hid (show Tabs W3 by rw [hW3]; exact (T1.out.below hB2).alloc _)
  have hz2 := (B1.out.trans (hB2.mono B1.out.size)).size
  have B3 := Lib.hid (show Below w.heap.size w W3 by rw [hW3]; exact (B1.out.trans (hB2.mono B1.out.size)).alloc hz2 _)
  obtain ⟨DB, hDB⟩ : ∃ DB, DB = w2.heap.size := ⟨_, rfl⟩
  have D3 := Lib.hid (show Blk W3 DB [.int .i64 61, .int .i64 p, .int .i64 Q] 30 by rw [hW3, hDB]; exact Blk.new _ _ _)
  have hdb : w.heap.size + 1 < DB := by rw [hDB]; exact (C1.out.below hB2 C1.out.lt).lt
  have hd1 : ¬ w.heap.size = DB := by omega
  have hd2 : ¬ DB = w.heap.size := by omega
  have hd3 : ¬ w.heap.size + 1 = DB := by omega
  have hd4 : ¬ DB = w.heap.size + 1 := by omega
  clear hdb
  clear hB2 hz2 A1 C1 B1 T1 T0 A0 C0 B0 Z0
  go_wp2_with fail
  rw [← hW3, ← hDB]
  clear hW3 hDB
  refine (ref06_SignI C _).mono ?_
  rintro e w4 ⟨rfl, rfl⟩
  rw [HSG.out]
  go_wp2_with fail
  refine (HLE.out _).mono ?_
  rintro e w5 ⟨rfl, rfl⟩
  go_wp2_with fail
  refine (ref06_property s Q _ T3.out HQS.out hs).mono ?_
  rintro e w6 ⟨rfl, hB⟩
  rw [HCD.out]
  have A6 := Lib.hid (A3.out.below hB A3.out.lt); have C6 := Lib.hid (C3.out.below hB C3.out.lt); have D6 := Lib.hid (D3.out.below hB D3.out.lt); have B6 := Lib.hid (B3.out.trans (hB.mono B3.out.size))
  clear hB
  simp only [propV]
  go_wp2_with fail
  refine (ref04_Property nm true _).mono ?_
  rintro e w7 ⟨v, out, rfl, p1, p2, p3, p4⟩
  rw [HP.out] at p2 ⊢
  obtain ⟨sa, sc, rfl, hr, _⟩ := p1.ranges (by omega)
  have HLD := Lib.hid p1; have HST := Lib.hid p2; have HLN := Lib.hid p3
  have A7 := Lib.hid (A6.out.below p4 A6.out.lt); have C7 := Lib.hid (C6.out.below p4 C6.out.lt); have B7 := Lib.hid (B6.out.trans (p4.mono B6.out.size))
  have hz6 := Lib.hid (show w.heap.size + 1 < w6.heap.size from C6.out.lt)
  clear hr p1 p2 p3 p4
  have a0 := Blk.cell A7.out (j := 0) rfl; have a1 := Blk.cell A7.out (j := 1) rfl; have a2 := Blk.cell A7.out (j := 2) rfl; have a3 := Blk.cell A7.out (j := 3) rfl
  have b0 := A7.out.frozen 0; have b1 := A7.out.frozen 1; have b2 := A7.out.frozen 2; have b3 := A7.out.frozen 3
  have d0' := Blk.cell C7.out (j := 0) rfl; have d1' := Blk.cell C7.out (j := 1) rfl; have d2' := Blk.cell C7.out (j := 2) rfl
  have d0 := C7.out.frozen 0; have d1 := C7.out.frozen 1; have d2 := C7.out.frozen 2
  go_wp2_with fail
  refine bodyPost_ret (v := escT 2 0 (.slice sa out.length sc) 0 r 0 0 0) ?_ rfl ⟨_, out, rfl, ?_, HST.out, HLN.out, ?_⟩
  · simp [results, Tryz.results12, escT, go_sem, a0, a1, a2, a3, d0', d1', d2']
  · have l1 := hz6.out
    refine Joins.ownsRow_le ?_ (show w.heap.size ≤ w6.heap.size by omega)
    exact (ownsRow_setCellR (ownsRow_setCellR (ownsRow_setCellR (ownsRow_setCellR (ownsRow_setCellR (ownsRow_setCellR (ownsRow_setCellR HLD.out (by omega) _ _) (by omega) _ _) (by omega) _ _) (by omega) _ _) (by omega) _ _) (by omega) _ _) (by omega) _ _)
  · exact (((((((B7.out.setCell (by simp) _).setCell (by simp) _).setCell (by simp) _).setCell (by simp) _).setCell (by simp) _).setCell (by simp) _).setCell (by simp) _)

set_option maxRecDepth 100000 in
set_option maxHeartbeats 4000000 in
theorem refesc_pl_none (s : ByteArray) (p : Nat) (b : Bool) (w : World) (hs : s.size ≤ 140737488355328) (h0 : p < s.size) (hc : ((s[p].toNat : Int) != 92) = false) (h1 : p + 1 < s.size) (hT : Tabs w) (C : Int) (Q : Nat) (hC : nextC s (p + 1) = C) (hQ : nextW s (p + 1) = Q) (_ : 0 ≤ C) (_ : C ≤ 1114111) (hsg : signI C = false) (hl : letterI C = -1) (hx : C ≠ 120 ∧ C ≠ 112 ∧ C ≠ 80) (hpl : ∀ W : World, Calls Tryz.prog 36 #[.int .i32 C, .int .i64 Q] W fun e w' => e = .returned (perlsT 0 0 (.slice none 0 0) 0 0 false) ∧ Below W.heap.size W w') :
    Calls Tryz.prog 12 #[.string s, .int .i64 p, .bool b] w (fun e w' => e = .returned (escT 0 0 (.slice none 0 0) 0 0 61 p Q) ∧ Below w.heap.size w w') := by
  obtain ⟨bA, bC, bB, bZ⟩ := refesc_blocks w
  have A0 := Lib.hid bA; have C0 := Lib.hid bC; have B0 := Lib.hid bB; have Z0 := Lib.hid bZ
  clear bA bC bB bZ
  have hlv : letterI C = -1 := hl
  have HLE := Lib.hid (ref06_letter C)
  simp only [hlv] at HLE
  clear hlv hl
  have nx : (C == 120) = false := by simp; omega
  have ny : (C == 112) = false := by simp; omega
  have nz : (C == 80) = false := by simp; omega
  clear hx
  have HPL := Lib.hid hpl; clear hpl
  have HSG := Lib.hid hsg; clear hsg
  have h0' : (p : Int) < (s.size : Int) := by omega
  have h1' : (p : Int) + 1 < (s.size : Int) := by omega
  have h12 : ((p : Int) + 1 == (s.size : Int)) = false := by simp; omega
  have T0 := Lib.hid ((hT.alloc (.cells #[.int .i64 0, .int .i32 0, .slice none 0 0, .int .i64 0] 27)).alloc (.cells #[.int .i64 0, .int .i64 0, .int .i64 0] 30))
  clear hT
  have HQS := Lib.hid (show Q ≤ s.size by rw [← hQ]; exact nextW_le s (p + 1) (by omega))
  have HDC := Lib.hid (show ((Lib.decodeGo (tail s (p + 1))).1 : Int) = C by rw [← hC, decodeGo_tail s (p + 1) h1]; unfold nextC; rw [if_pos h1])
  have HDW := Lib.hid (show p + 1 + (Lib.decodeGo (tail s (p + 1))).2 = Q by rw [← hQ, decodeGo_tail s (p + 1) h1]; unfold nextW; rw [if_pos h1])
  clear hC hQ
  go_enter Tryz.func12, Tryz.ntmps12
  go_wp2_with fail
  refine (Tryz.utf8_DecodeRuneInString (tail s (p + 1)) _ T0.out).mono ?_
  rintro e w1 ⟨rfl, hB1⟩
  have A1 := Lib.hid (A0.out.below hB1 A0.out.lt); have C1 := Lib.hid (C0.out.below hB1 C0.out.lt); have B1 := Lib.hid (B0.out.trans (hB1.mono B0.out.size)); have T1 := Lib.hid (T0.out.below hB1)
  clear hB1
  rw [HDC.out]
  generalize Lib.decodeGo (tail s (p + 1)) = D at HDC HDW ⊢
  obtain ⟨d1, d2⟩ := D
  have hq : (p : Int) + 1 + (d2 : Int) = (Q : Int) := by have := HDW.out; simp only at this; omega
  have hqb : (Q : Int) ≤ 140737488355328 := by have := HQS.out; omega
  simp only
  clear HDC HDW
  go_wp2_with fail
  refine (ref06_wrongR _ _ _ _).mono ?_
  rintro e w2 ⟨rfl, hB2⟩
  obtain ⟨W3, hW3⟩ : ∃ W3, W3 = w2.alloc (.cells #[.int .i64 61, .int .i64 p, .int .i64 Q] 30) := ⟨_, rfl⟩
  have A3 := Lib.hid (show Blk W3 w.heap.size esc0R 27 by rw [hW3]; exact (A1.out.below hB2 A1.out.lt).alloc _)
  have C3 := Lib.hid (show Blk W3 (w.heap.size + 1) wrong0R 30 by rw [hW3]; exact (C1.out.below hB2 C1.out.lt).alloc _)
  have T3 := Lib.hid (show Tabs W3 by rw [hW3]; exact (T1.out.below hB2).alloc _)
  have hz2 := (B1.out.trans (hB2.mono B1.out.size)).size
  have B3 := Lib.hid (show Below w.heap.size w W3 by rw [hW3]; exact (B1.out.trans (hB2.mono B1.out.size)).alloc hz2 _)
  obtain ⟨DB, hDB⟩ : ∃ DB, DB = w2.heap.size := ⟨_, rfl⟩
  have D3 := Lib.hid (show Blk W3 DB [.int .i64 61, .int .i64 p, .int .i64 Q] 30 by rw [hW3, hDB]; exact Blk.new _ _ _)
  have hdb : w.heap.size + 1 < DB := by rw [hDB]; exact (C1.out.below hB2 C1.out.lt).lt
  have hd1 : ¬ w.heap.size = DB := by omega
  have hd2 : ¬ DB = w.heap.size := by omega
  have hd3 : ¬ w.heap.size + 1 = DB := by omega
  have hd4 : ¬ DB = w.heap.size + 1 := by omega
  clear hdb
  clear hB2 hz2 A1 C1 B1 T1 T0 A0 C0 B0 Z0
  go_wp2_with fail
  rw [← hW3, ← hDB]
  clear hW3 hDB
  refine (ref06_SignI C _).mono ?_
  rintro e w4 ⟨rfl, rfl⟩
  rw [HSG.out]
  go_wp2_with fail
  refine (HLE.out _).mono ?_
  rintro e w5 ⟨rfl, rfl⟩
  go_wp2_with fail
  refine (HPL.out _).mono ?_
  rintro e w6 ⟨rfl, hB⟩
  have A6 := Lib.hid (A3.out.below hB A3.out.lt); have C6 := Lib.hid (C3.out.below hB C3.out.lt); have D6 := Lib.hid (D3.out.below hB D3.out.lt); have B6 := Lib.hid (B3.out.trans (hB.mono B3.out.size))
  simp only [perlsT]
  clear hB
  have A7 := Lib.hid (A6.out.alloc (.cells #[.int .i64 0, .int .i32 0, .slice none 0 0, .int .i64 0] 27))
  have C7 := Lib.hid (C6.out.alloc (.cells #[.int .i64 0, .int .i32 0, .slice none 0 0, .int .i64 0] 27))
  have D7 := Lib.hid (D6.out.alloc (.cells #[.int .i64 0, .int .i32 0, .slice none 0 0, .int .i64 0] 27))
  have B7 := Lib.hid (B6.out.alloc B6.out.size (.cells #[.int .i64 0, .int .i32 0, .slice none 0 0, .int .i64 0] 27))
  have a0 := Blk.cell A7.out (j := 0) rfl; have a1 := Blk.cell A7.out (j := 1) rfl; have a2 := Blk.cell A7.out (j := 2) rfl; have a3 := Blk.cell A7.out (j := 3) rfl
  have b0 := A7.out.frozen 0; have b1 := A7.out.frozen 1; have b2 := A7.out.frozen 2; have b3 := A7.out.frozen 3
  have d0' := Blk.cell C7.out (j := 0) rfl; have d1' := Blk.cell C7.out (j := 1) rfl; have d2' := Blk.cell C7.out (j := 2) rfl
  have d0 := C7.out.frozen 0; have d1 := C7.out.frozen 1; have d2 := C7.out.frozen 2
  have e0 := Blk.cell D7.out (j := 0) rfl; have e1 := Blk.cell D7.out (j := 1) rfl; have e2 := Blk.cell D7.out (j := 2) rfl
  cases b
  all_goals (
    go_wp2_with fail
    go_region
    go_wp2_with fail
    refine bodyPost_ret (v := escT 0 0 (.slice none 0 0) 0 0 61 p Q) ?_ rfl ⟨rfl, ?_⟩
    · simp [results, Tryz.results12, escT, go_sem, a0, a1, a2, a3, d0', d1', d2']
    · exact (((((((B7.out.setCell (by simp) _).setCell (by simp) _).setCell (by simp) _).setCell (by simp) _).setCell (by simp) _).setCell (by simp) _).setCell (by simp) _).drew)

set_option maxRecDepth 100000 in
set_option maxHeartbeats 4000000 in
theorem refesc_pl_lit (s : ByteArray) (p : Nat) (b : Bool) (w : World) (hs : s.size ≤ 140737488355328) (h0 : p < s.size) (hc : ((s[p].toNat : Int) != 92) = false) (h1 : p + 1 < s.size) (hT : Tabs w) (C : Int) (Q : Nat) (hC : nextC s (p + 1) = C) (hQ : nextW s (p + 1) = Q) (_ : 0 ≤ C) (_ : C ≤ 1114111) (hsg : signI C = false) (hl : letterI C = -1) (hx : C ≠ 120 ∧ C ≠ 112 ∧ C ≠ 80) (hb : b = true) (k a : Int) (hpl : ∀ W : World, Calls Tryz.prog 36 #[.int .i32 C, .int .i64 Q] W fun e w' => e = .returned (perlsT k 0 (.slice none 0 0) a Q true) ∧ Below W.heap.size W w') :
    Calls Tryz.prog 12 #[.string s, .int .i64 p, .bool b] w (fun e w' => e = .returned (escT k 0 (.slice none 0 0) a Q 0 0 0) ∧ Below w.heap.size w w') := by
  obtain ⟨bA, bC, bB, bZ⟩ := refesc_blocks w
  have A0 := Lib.hid bA; have C0 := Lib.hid bC; have B0 := Lib.hid bB; have Z0 := Lib.hid bZ
  clear bA bC bB bZ
  subst hb
  have hlv : letterI C = -1 := hl
  have HLE := Lib.hid (ref06_letter C)
  simp only [hlv] at HLE
  clear hlv hl
  have nx : (C == 120) = false := by simp; omega
  have ny : (C == 112) = false := by simp; omega
  have nz : (C == 80) = false := by simp; omega
  clear hx
  have HPL := Lib.hid hpl; clear hpl
  have HSG := Lib.hid hsg; clear hsg
  have h0' : (p : Int) < (s.size : Int) := by omega
  have h1' : (p : Int) + 1 < (s.size : Int) := by omega
  have h12 : ((p : Int) + 1 == (s.size : Int)) = false := by simp; omega
  have T0 := Lib.hid ((hT.alloc (.cells #[.int .i64 0, .int .i32 0, .slice none 0 0, .int .i64 0] 27)).alloc (.cells #[.int .i64 0, .int .i64 0, .int .i64 0] 30))
  clear hT
  have HQS := Lib.hid (show Q ≤ s.size by rw [← hQ]; exact nextW_le s (p + 1) (by omega))
  have HDC := Lib.hid (show ((Lib.decodeGo (tail s (p + 1))).1 : Int) = C by rw [← hC, decodeGo_tail s (p + 1) h1]; unfold nextC; rw [if_pos h1])
  have HDW := Lib.hid (show p + 1 + (Lib.decodeGo (tail s (p + 1))).2 = Q by rw [← hQ, decodeGo_tail s (p + 1) h1]; unfold nextW; rw [if_pos h1])
  clear hC hQ
  go_enter Tryz.func12, Tryz.ntmps12
  go_wp2_with fail
  refine (Tryz.utf8_DecodeRuneInString (tail s (p + 1)) _ T0.out).mono ?_
  rintro e w1 ⟨rfl, hB1⟩
  have A1 := Lib.hid (A0.out.below hB1 A0.out.lt); have C1 := Lib.hid (C0.out.below hB1 C0.out.lt); have B1 := Lib.hid (B0.out.trans (hB1.mono B0.out.size)); have T1 := Lib.hid (T0.out.below hB1)
  clear hB1
  rw [HDC.out]
  generalize Lib.decodeGo (tail s (p + 1)) = D at HDC HDW ⊢
  obtain ⟨d1, d2⟩ := D
  have hq : (p : Int) + 1 + (d2 : Int) = (Q : Int) := by have := HDW.out; simp only at this; omega
  have hqb : (Q : Int) ≤ 140737488355328 := by have := HQS.out; omega
  simp only
  clear HDC HDW
  go_wp2_with fail
  refine (ref06_wrongR _ _ _ _).mono ?_
  rintro e w2 ⟨rfl, hB2⟩
  obtain ⟨W3, hW3⟩ : ∃ W3, W3 = w2.alloc (.cells #[.int .i64 61, .int .i64 p, .int .i64 Q] 30) := ⟨_, rfl⟩
  have A3 := Lib.hid (show Blk W3 w.heap.size esc0R 27 by rw [hW3]; exact (A1.out.below hB2 A1.out.lt).alloc _)
  have C3 := Lib.hid (show Blk W3 (w.heap.size + 1) wrong0R 30 by rw [hW3]; exact (C1.out.below hB2 C1.out.lt).alloc _)
  have T3 := Lib.hid (show Tabs W3 by rw [hW3]; exact (T1.out.below hB2).alloc _)
  have hz2 := (B1.out.trans (hB2.mono B1.out.size)).size
  have B3 := Lib.hid (show Below w.heap.size w W3 by rw [hW3]; exact (B1.out.trans (hB2.mono B1.out.size)).alloc hz2 _)
  obtain ⟨DB, hDB⟩ : ∃ DB, DB = w2.heap.size := ⟨_, rfl⟩
  have D3 := Lib.hid (show Blk W3 DB [.int .i64 61, .int .i64 p, .int .i64 Q] 30 by rw [hW3, hDB]; exact Blk.new _ _ _)
  have hdb : w.heap.size + 1 < DB := by rw [hDB]; exact (C1.out.below hB2 C1.out.lt).lt
  have hd1 : ¬ w.heap.size = DB := by omega
  have hd2 : ¬ DB = w.heap.size := by omega
  have hd3 : ¬ w.heap.size + 1 = DB := by omega
  have hd4 : ¬ DB = w.heap.size + 1 := by omega
  clear hdb
  clear hB2 hz2 A1 C1 B1 T1 T0 A0 C0 B0 Z0
  go_wp2_with fail
  rw [← hW3, ← hDB]
  clear hW3 hDB
  refine (ref06_SignI C _).mono ?_
  rintro e w4 ⟨rfl, rfl⟩
  rw [HSG.out]
  go_wp2_with fail
  refine (HLE.out _).mono ?_
  rintro e w5 ⟨rfl, rfl⟩
  go_wp2_with fail
  refine (HPL.out _).mono ?_
  rintro e w6 ⟨rfl, hB⟩
  have A6 := Lib.hid (A3.out.below hB A3.out.lt); have C6 := Lib.hid (C3.out.below hB C3.out.lt); have D6 := Lib.hid (D3.out.below hB D3.out.lt); have B6 := Lib.hid (B3.out.trans (hB.mono B3.out.size))
  simp only [perlsT]
  clear hB
  have A7 := Lib.hid (A6.out.alloc (.cells #[.int .i64 k, .int .i32 0, .slice none 0 0, .int .i64 a] 27))
  have C7 := Lib.hid (C6.out.alloc (.cells #[.int .i64 k, .int .i32 0, .slice none 0 0, .int .i64 a] 27))
  have D7 := Lib.hid (D6.out.alloc (.cells #[.int .i64 k, .int .i32 0, .slice none 0 0, .int .i64 a] 27))
  have B7 := Lib.hid (B6.out.alloc B6.out.size (.cells #[.int .i64 k, .int .i32 0, .slice none 0 0, .int .i64 a] 27))
  have a0 := Blk.cell A7.out (j := 0) rfl; have a1 := Blk.cell A7.out (j := 1) rfl; have a2 := Blk.cell A7.out (j := 2) rfl; have a3 := Blk.cell A7.out (j := 3) rfl
  have b0 := A7.out.frozen 0; have b1 := A7.out.frozen 1; have b2 := A7.out.frozen 2; have b3 := A7.out.frozen 3
  have d0' := Blk.cell C7.out (j := 0) rfl; have d1' := Blk.cell C7.out (j := 1) rfl; have d2' := Blk.cell C7.out (j := 2) rfl
  have d0 := C7.out.frozen 0; have d1 := C7.out.frozen 1; have d2 := C7.out.frozen 2
  go_wp2_with fail
  refine bodyPost_ret (v := escT k 0 (.slice none 0 0) a Q 0 0 0) ?_ rfl ⟨rfl, ?_⟩
  · simp [results, Tryz.results12, escT, go_sem, a0, a1, a2, a3, d0', d1', d2']
  · exact (((((((B7.out.setCell (by simp) _).setCell (by simp) _).setCell (by simp) _).setCell (by simp) _).setCell (by simp) _).setCell (by simp) _).setCell (by simp) _)

set_option maxRecDepth 100000 in
set_option maxHeartbeats 4000000 in
theorem refesc_pl_flat (s : ByteArray) (p : Nat) (b : Bool) (w : World) (hs : s.size ≤ 140737488355328) (h0 : p < s.size) (hc : ((s[p].toNat : Int) != 92) = false) (h1 : p + 1 < s.size) (hT : Tabs w) (C : Int) (Q : Nat) (hC : nextC s (p + 1) = C) (hQ : nextW s (p + 1) = Q) (_ : 0 ≤ C) (_ : C ≤ 1114111) (hsg : signI C = false) (hl : letterI C = -1) (hx : C ≠ 120 ∧ C ≠ 112 ∧ C ≠ 80) (hb : b = false) (hpl : ∀ W : World, Calls Tryz.prog 36 #[.int .i32 C, .int .i64 Q] W fun e w' => ∃ k a v q is, e = .returned (perlsT k 0 v a q is) ∧ Below W.heap.size W w' ∧ ∃ sa sn sc, v = .slice sa sn sc) :
    Calls Tryz.prog 12 #[.string s, .int .i64 p, .bool b] w (fun e w' => e = .returned (escT 0 0 (.slice none 0 0) 0 0 61 p Q) ∧ Below w.heap.size w w') := by
  obtain ⟨bA, bC, bB, bZ⟩ := refesc_blocks w
  have A0 := Lib.hid bA; have C0 := Lib.hid bC; have B0 := Lib.hid bB; have Z0 := Lib.hid bZ
  clear bA bC bB bZ
  subst hb
  have hlv : letterI C = -1 := hl
  have HLE := Lib.hid (ref06_letter C)
  simp only [hlv] at HLE
  clear hlv hl
  have nx : (C == 120) = false := by simp; omega
  have ny : (C == 112) = false := by simp; omega
  have nz : (C == 80) = false := by simp; omega
  clear hx
  have HPL := Lib.hid hpl; clear hpl
  have HSG := Lib.hid hsg; clear hsg
  have h0' : (p : Int) < (s.size : Int) := by omega
  have h1' : (p : Int) + 1 < (s.size : Int) := by omega
  have h12 : ((p : Int) + 1 == (s.size : Int)) = false := by simp; omega
  have T0 := Lib.hid ((hT.alloc (.cells #[.int .i64 0, .int .i32 0, .slice none 0 0, .int .i64 0] 27)).alloc (.cells #[.int .i64 0, .int .i64 0, .int .i64 0] 30))
  clear hT
  have HQS := Lib.hid (show Q ≤ s.size by rw [← hQ]; exact nextW_le s (p + 1) (by omega))
  have HDC := Lib.hid (show ((Lib.decodeGo (tail s (p + 1))).1 : Int) = C by rw [← hC, decodeGo_tail s (p + 1) h1]; unfold nextC; rw [if_pos h1])
  have HDW := Lib.hid (show p + 1 + (Lib.decodeGo (tail s (p + 1))).2 = Q by rw [← hQ, decodeGo_tail s (p + 1) h1]; unfold nextW; rw [if_pos h1])
  clear hC hQ
  go_enter Tryz.func12, Tryz.ntmps12
  go_wp2_with fail
  refine (Tryz.utf8_DecodeRuneInString (tail s (p + 1)) _ T0.out).mono ?_
  rintro e w1 ⟨rfl, hB1⟩
  have A1 := Lib.hid (A0.out.below hB1 A0.out.lt); have C1 := Lib.hid (C0.out.below hB1 C0.out.lt); have B1 := Lib.hid (B0.out.trans (hB1.mono B0.out.size)); have T1 := Lib.hid (T0.out.below hB1)
  clear hB1
  rw [HDC.out]
  generalize Lib.decodeGo (tail s (p + 1)) = D at HDC HDW ⊢
  obtain ⟨d1, d2⟩ := D
  have hq : (p : Int) + 1 + (d2 : Int) = (Q : Int) := by have := HDW.out; simp only at this; omega
  have hqb : (Q : Int) ≤ 140737488355328 := by have := HQS.out; omega
  simp only
  clear HDC HDW
  go_wp2_with fail
  refine (ref06_wrongR _ _ _ _).mono ?_
  rintro e w2 ⟨rfl, hB2⟩
  obtain ⟨W3, hW3⟩ : ∃ W3, W3 = w2.alloc (.cells #[.int .i64 61, .int .i64 p, .int .i64 Q] 30) := ⟨_, rfl⟩
  have A3 := Lib.hid (show Blk W3 w.heap.size esc0R 27 by rw [hW3]; exact (A1.out.below hB2 A1.out.lt).alloc _)
  have C3 := Lib.hid (show Blk W3 (w.heap.size + 1) wrong0R 30 by rw [hW3]; exact (C1.out.below hB2 C1.out.lt).alloc _)
  have T3 := Lib.hid (show Tabs W3 by rw [hW3]; exact (T1.out.below hB2).alloc _)
  have hz2 := (B1.out.trans (hB2.mono B1.out.size)).size
  have B3 := Lib.hid (show Below w.heap.size w W3 by rw [hW3]; exact (B1.out.trans (hB2.mono B1.out.size)).alloc hz2 _)
  obtain ⟨DB, hDB⟩ : ∃ DB, DB = w2.heap.size := ⟨_, rfl⟩
  have D3 := Lib.hid (show Blk W3 DB [.int .i64 61, .int .i64 p, .int .i64 Q] 30 by rw [hW3, hDB]; exact Blk.new _ _ _)
  have hdb : w.heap.size + 1 < DB := by rw [hDB]; exact (C1.out.below hB2 C1.out.lt).lt
  have hd1 : ¬ w.heap.size = DB := by omega
  have hd2 : ¬ DB = w.heap.size := by omega
  have hd3 : ¬ w.heap.size + 1 = DB := by omega
  have hd4 : ¬ DB = w.heap.size + 1 := by omega
  clear hdb
  clear hB2 hz2 A1 C1 B1 T1 T0 A0 C0 B0 Z0
  go_wp2_with fail
  rw [← hW3, ← hDB]
  clear hW3 hDB
  refine (ref06_SignI C _).mono ?_
  rintro e w4 ⟨rfl, rfl⟩
  rw [HSG.out]
  go_wp2_with fail
  refine (HLE.out _).mono ?_
  rintro e w5 ⟨rfl, rfl⟩
  go_wp2_with fail
  refine (HPL.out _).mono ?_
  rintro e w6 ⟨k, a, v, q, is, rfl, hB, sa, sn, sc, rfl⟩
  have A6 := Lib.hid (A3.out.below hB A3.out.lt); have C6 := Lib.hid (C3.out.below hB C3.out.lt); have D6 := Lib.hid (D3.out.below hB D3.out.lt); have B6 := Lib.hid (B3.out.trans (hB.mono B3.out.size))
  simp only [perlsT]
  clear hB
  have A7 := Lib.hid (A6.out.alloc (.cells #[.int .i64 k, .int .i32 0, .slice sa sn sc, .int .i64 a] 27))
  have C7 := Lib.hid (C6.out.alloc (.cells #[.int .i64 k, .int .i32 0, .slice sa sn sc, .int .i64 a] 27))
  have D7 := Lib.hid (D6.out.alloc (.cells #[.int .i64 k, .int .i32 0, .slice sa sn sc, .int .i64 a] 27))
  have B7 := Lib.hid (B6.out.alloc B6.out.size (.cells #[.int .i64 k, .int .i32 0, .slice sa sn sc, .int .i64 a] 27))
  have a0 := Blk.cell A7.out (j := 0) rfl; have a1 := Blk.cell A7.out (j := 1) rfl; have a2 := Blk.cell A7.out (j := 2) rfl; have a3 := Blk.cell A7.out (j := 3) rfl
  have b0 := A7.out.frozen 0; have b1 := A7.out.frozen 1; have b2 := A7.out.frozen 2; have b3 := A7.out.frozen 3
  have d0' := Blk.cell C7.out (j := 0) rfl; have d1' := Blk.cell C7.out (j := 1) rfl; have d2' := Blk.cell C7.out (j := 2) rfl
  have d0 := C7.out.frozen 0; have d1 := C7.out.frozen 1; have d2 := C7.out.frozen 2
  have e0 := Blk.cell D7.out (j := 0) rfl; have e1 := Blk.cell D7.out (j := 1) rfl; have e2 := Blk.cell D7.out (j := 2) rfl
  cases is
  all_goals (
    go_wp2_with fail
    go_region
    go_wp2_with fail
    refine bodyPost_ret (v := escT 0 0 (.slice none 0 0) 0 0 61 p Q) ?_ rfl ⟨rfl, ?_⟩
    · simp [results, Tryz.results12, escT, go_sem, a0, a1, a2, a3, d0', d1', d2']
    · exact (((((((B7.out.setCell (by simp) _).setCell (by simp) _).setCell (by simp) _).setCell (by simp) _).setCell (by simp) _).setCell (by simp) _).setCell (by simp) _).drew)

set_option maxRecDepth 100000 in
set_option maxHeartbeats 4000000 in
theorem refesc_pl_set (s : ByteArray) (p : Nat) (b : Bool) (w : World) (hs : s.size ≤ 140737488355328) (h0 : p < s.size) (hc : ((s[p].toNat : Int) != 92) = false) (h1 : p + 1 < s.size) (hT : Tabs w) (C : Int) (Q : Nat) (hC : nextC s (p + 1) = C) (hQ : nextW s (p + 1) = Q) (_ : 0 ≤ C) (_ : C ≤ 1114111) (hsg : signI C = false) (hl : letterI C = -1) (hx : C ≠ 120 ∧ C ≠ 112 ∧ C ≠ 80) (hb : b = true) (f : Int → Bool) (hpl : ∀ W : World, Calls Tryz.prog 36 #[.int .i32 C, .int .i64 Q] W fun e w' => ∃ v out, e = .returned (perlsT 2 0 v 0 Q true) ∧ Laid W w' out v ∧ IsSet out f ∧ out.length ≤ 1000 ∧ Below W.heap.size W w') :
    Calls Tryz.prog 12 #[.string s, .int .i64 p, .bool b] w (EscOut w (.set f Q)) := by
  obtain ⟨bA, bC, bB, bZ⟩ := refesc_blocks w
  have A0 := Lib.hid bA; have C0 := Lib.hid bC; have B0 := Lib.hid bB; have Z0 := Lib.hid bZ
  clear bA bC bB bZ
  subst hb
  have hlv : letterI C = -1 := hl
  have HLE := Lib.hid (ref06_letter C)
  simp only [hlv] at HLE
  clear hlv hl
  have nx : (C == 120) = false := by simp; omega
  have ny : (C == 112) = false := by simp; omega
  have nz : (C == 80) = false := by simp; omega
  clear hx
  have HPL := Lib.hid hpl; clear hpl
  have HSG := Lib.hid hsg; clear hsg
  have h0' : (p : Int) < (s.size : Int) := by omega
  have h1' : (p : Int) + 1 < (s.size : Int) := by omega
  have h12 : ((p : Int) + 1 == (s.size : Int)) = false := by simp; omega
  have T0 := Lib.hid ((hT.alloc (.cells #[.int .i64 0, .int .i32 0, .slice none 0 0, .int .i64 0] 27)).alloc (.cells #[.int .i64 0, .int .i64 0, .int .i64 0] 30))
  clear hT
  have HQS := Lib.hid (show Q ≤ s.size by rw [← hQ]; exact nextW_le s (p + 1) (by omega))
  have HDC := Lib.hid (show ((Lib.decodeGo (tail s (p + 1))).1 : Int) = C by rw [← hC, decodeGo_tail s (p + 1) h1]; unfold nextC; rw [if_pos h1])
  have HDW := Lib.hid (show p + 1 + (Lib.decodeGo (tail s (p + 1))).2 = Q by rw [← hQ, decodeGo_tail s (p + 1) h1]; unfold nextW; rw [if_pos h1])
  clear hC hQ
  go_enter Tryz.func12, Tryz.ntmps12
  go_wp2_with fail
  refine (Tryz.utf8_DecodeRuneInString (tail s (p + 1)) _ T0.out).mono ?_
  rintro e w1 ⟨rfl, hB1⟩
  have A1 := Lib.hid (A0.out.below hB1 A0.out.lt); have C1 := Lib.hid (C0.out.below hB1 C0.out.lt); have B1 := Lib.hid (B0.out.trans (hB1.mono B0.out.size)); have T1 := Lib.hid (T0.out.below hB1)
  clear hB1
  rw [HDC.out]
  generalize Lib.decodeGo (tail s (p + 1)) = D at HDC HDW ⊢
  obtain ⟨d1, d2⟩ := D
  have hq : (p : Int) + 1 + (d2 : Int) = (Q : Int) := by have := HDW.out; simp only at this; omega
  have hqb : (Q : Int) ≤ 140737488355328 := by have := HQS.out; omega
  simp only
  clear HDC HDW
  go_wp2_with fail
  refine (ref06_wrongR _ _ _ _).mono ?_
  rintro e w2 ⟨rfl, hB2⟩
  obtain ⟨W3, hW3⟩ : ∃ W3, W3 = w2.alloc (.cells #[.int .i64 61, .int .i64 p, .int .i64 Q] 30) := ⟨_, rfl⟩
  have A3 := Lib.hid (show Blk W3 w.heap.size esc0R 27 by rw [hW3]; exact (A1.out.below hB2 A1.out.lt).alloc _)
  have C3 := Lib.hid (show Blk W3 (w.heap.size + 1) wrong0R 30 by rw [hW3]; exact (C1.out.below hB2 C1.out.lt).alloc _)
  have T3 := Lib.hid (show Tabs W3 by rw [hW3]; exact (T1.out.below hB2).alloc _)
  have hz2 := (B1.out.trans (hB2.mono B1.out.size)).size
  have B3 := Lib.hid (show Below w.heap.size w W3 by rw [hW3]; exact (B1.out.trans (hB2.mono B1.out.size)).alloc hz2 _)
  obtain ⟨DB, hDB⟩ : ∃ DB, DB = w2.heap.size := ⟨_, rfl⟩
  have D3 := Lib.hid (show Blk W3 DB [.int .i64 61, .int .i64 p, .int .i64 Q] 30 by rw [hW3, hDB]; exact Blk.new _ _ _)
  have hdb : w.heap.size + 1 < DB := by rw [hDB]; exact (C1.out.below hB2 C1.out.lt).lt
  have hd1 : ¬ w.heap.size = DB := by omega
  have hd2 : ¬ DB = w.heap.size := by omega
  have hd3 : ¬ w.heap.size + 1 = DB := by omega
  have hd4 : ¬ DB = w.heap.size + 1 := by omega
  clear hdb
  clear hB2 hz2 A1 C1 B1 T1 T0 A0 C0 B0 Z0
  go_wp2_with fail
  rw [← hW3, ← hDB]
  clear hW3 hDB
  refine (ref06_SignI C _).mono ?_
  rintro e w4 ⟨rfl, rfl⟩
  rw [HSG.out]
  go_wp2_with fail
  refine (HLE.out _).mono ?_
  rintro e w5 ⟨rfl, rfl⟩
  go_wp2_with fail
  have hz3 := Lib.hid (show w.heap.size + 1 < w5.heap.size from C3.out.lt)
  have hz6 := hz3
  refine (HPL.out _).mono ?_
  rintro e w6 ⟨v, out, rfl, p1, p2, p3, hB⟩
  obtain ⟨sa, sc, rfl, hr, _⟩ := p1.ranges (by omega)
  have HLD := Lib.hid (World.ownsRow.alloc p1 (.cells #[.int .i64 2, .int .i32 0, .slice sa out.length sc, .int .i64 0] 27)); have HST := Lib.hid p2; have HLN := Lib.hid p3
  have A6 := Lib.hid (A3.out.below hB A3.out.lt); have C6 := Lib.hid (C3.out.below hB C3.out.lt); have D6 := Lib.hid (D3.out.below hB D3.out.lt); have B6 := Lib.hid (B3.out.trans (hB.mono B3.out.size))
  clear hr p1 p2 p3 hB
  simp only [perlsT]
  have A7 := Lib.hid (A6.out.alloc (.cells #[.int .i64 2, .int .i32 0, .slice sa out.length sc, .int .i64 0] 27))
  have C7 := Lib.hid (C6.out.alloc (.cells #[.int .i64 2, .int .i32 0, .slice sa out.length sc, .int .i64 0] 27))
  have D7 := Lib.hid (D6.out.alloc (.cells #[.int .i64 2, .int .i32 0, .slice sa out.length sc, .int .i64 0] 27))
  have B7 := Lib.hid (B6.out.alloc B6.out.size (.cells #[.int .i64 2, .int .i32 0, .slice sa out.length sc, .int .i64 0] 27))
  have a0 := Blk.cell A7.out (j := 0) rfl; have a1 := Blk.cell A7.out (j := 1) rfl; have a2 := Blk.cell A7.out (j := 2) rfl; have a3 := Blk.cell A7.out (j := 3) rfl
  have b0 := A7.out.frozen 0; have b1 := A7.out.frozen 1; have b2 := A7.out.frozen 2; have b3 := A7.out.frozen 3
  have d0' := Blk.cell C7.out (j := 0) rfl; have d1' := Blk.cell C7.out (j := 1) rfl; have d2' := Blk.cell C7.out (j := 2) rfl
  have d0 := C7.out.frozen 0; have d1 := C7.out.frozen 1; have d2 := C7.out.frozen 2
  go_wp2_with fail
  refine bodyPost_ret (v := escT 2 0 (.slice sa out.length sc) 0 Q 0 0 0) ?_ rfl ⟨_, out, rfl, ?_, HST.out, HLN.out, ?_⟩
  · simp [results, Tryz.results12, escT, go_sem, a0, a1, a2, a3, d0', d1', d2']
  · have l1 := hz6.out
    refine Joins.ownsRow_le ?_ (show w.heap.size ≤ w5.heap.size by omega)
    exact (ownsRow_setCellR (ownsRow_setCellR (ownsRow_setCellR (ownsRow_setCellR (ownsRow_setCellR (ownsRow_setCellR (ownsRow_setCellR HLD.out (by omega) _ _) (by omega) _ _) (by omega) _ _) (by omega) _ _) (by omega) _ _) (by omega) _ _) (by omega) _ _)
  · exact (((((((B7.out.setCell (by simp) _).setCell (by simp) _).setCell (by simp) _).setCell (by simp) _).setCell (by simp) _).setCell (by simp) _).setCell (by simp) _)
end Go.Proofs.YtjmgboegipeijaaGreatDoor
