/- The document's class: a rune, or an escape. (Printed by gen_refone.py.) The document's class: where a name between colons ends. The document's sets of a name between colons: martelloref04.Posix. (Printed by gen_refposix.py.) The document's class: an item. (Printed by gen_refitem.py.) -/
import Derived.Test.YtnafemcholkmlaaGreatDoorCRefProp
import Derived.Test.YtnafemcholkmlaaGreatDoorQBrSpec
import Derived.Test.YtnafemcholkmlaaGreatDoorQCount
import Derived.LoopTactic
import Derived.Test.YtnafemcholkmlaaGreatDoorQPosix
import Derived.Test.YtnafemcholkmlaaGreatDoorQBrItem
namespace Go.Proofs.YtnafemcholkmlaaGreatDoor
open Go Go.RowKit Go.Proofs Go.Shelf
open Lib (hid)

set_option maxRecDepth 100000 in
set_option maxHeartbeats 4000000 in
theorem refone_esc (s : ByteArray) (p : Nat) (b : Bool) (w : World) (hT : Tabs w) (hs : s.size ≤ 140737488355328) (h0 : p < s.size) (hc : ((s[p].toNat : Int) == 92) = true) :
    Calls Tryz.prog 44 #[.string s, .int .i64 p, .bool b] w (EscOut w (escP s p b)) := by
  obtain ⟨bA, bC, bB, bZ⟩ := refesc_blocks w
  have A0 := hid bA; have C0 := hid bC; have B0 := hid bB; have Z0 := hid bZ
  clear bA bC bB bZ
  have h0' : (p : Int) < (s.size : Int) := by omega
  have T0 := hid ((hT.alloc (.cells #[.int .i64 0, .int .i32 0, .slice none 0 0, .int .i64 0] 64)).alloc (.cells #[.int .i64 0, .int .i64 0, .int .i64 0] 27))
  clear hT
  cases he : escP s p b with
  | wrong x f t =>
    have HE := hid (fun W (h : Tabs W) => he ▸ ref06_Escape s p b W h (by omega) hs)
    clear he
    go_enter Tryz.func44, Tryz.ntmps44
    go_wp2_with fail
    refine (HE.out _ T0.out).mono ?_
    rintro e w1 ⟨rfl, hB1⟩
    have A1 := hid (A0.out.below hB1 A0.out.lt); have C1 := hid (C0.out.below hB1 C0.out.lt); have B1 := hid (B0.out.trans (hB1.mono B0.out.size))
    clear hB1
    simp only [escT]
    have a0 := Blk.cell A1.out (j := 0) rfl; have a1 := Blk.cell A1.out (j := 1) rfl; have a2 := Blk.cell A1.out (j := 2) rfl; have a3 := Blk.cell A1.out (j := 3) rfl
    have b0 := A1.out.frozen 0; have b1 := A1.out.frozen 1; have b2 := A1.out.frozen 2; have b3 := A1.out.frozen 3
    have d0' := Blk.cell C1.out (j := 0) rfl; have d1' := Blk.cell C1.out (j := 1) rfl; have d2' := Blk.cell C1.out (j := 2) rfl
    have d0 := C1.out.frozen 0; have d1 := C1.out.frozen 1; have d2 := C1.out.frozen 2
    go_wp2_with fail
    refine bodyPost_ret (v := escT 0 0 (.slice none 0 0) 0 0 x f t) ?_ rfl ⟨rfl, ?_⟩
    · simp [results, Tryz.results44, escT, go_sem, a0, a1, a2, a3, d0', d1', d2']
    · exact (((((((B1.out.setCell (by simp) _).setCell (by simp) _).setCell (by simp) _).setCell (by simp) _).setCell (by simp) _).setCell (by simp) _).setCell (by simp) _)
  | lit k r a q =>
    have HE := hid (fun W (h : Tabs W) => he ▸ ref06_Escape s p b W h (by omega) hs)
    clear he
    go_enter Tryz.func44, Tryz.ntmps44
    go_wp2_with fail
    refine (HE.out _ T0.out).mono ?_
    rintro e w1 ⟨rfl, hB1⟩
    have A1 := hid (A0.out.below hB1 A0.out.lt); have C1 := hid (C0.out.below hB1 C0.out.lt); have B1 := hid (B0.out.trans (hB1.mono B0.out.size))
    clear hB1
    simp only [escT]
    have a0 := Blk.cell A1.out (j := 0) rfl; have a1 := Blk.cell A1.out (j := 1) rfl; have a2 := Blk.cell A1.out (j := 2) rfl; have a3 := Blk.cell A1.out (j := 3) rfl
    have b0 := A1.out.frozen 0; have b1 := A1.out.frozen 1; have b2 := A1.out.frozen 2; have b3 := A1.out.frozen 3
    have d0' := Blk.cell C1.out (j := 0) rfl; have d1' := Blk.cell C1.out (j := 1) rfl; have d2' := Blk.cell C1.out (j := 2) rfl
    have d0 := C1.out.frozen 0; have d1 := C1.out.frozen 1; have d2 := C1.out.frozen 2
    go_wp2_with fail
    refine bodyPost_ret (v := escT k r (.slice none 0 0) a q 0 0 0) ?_ rfl ⟨rfl, ?_⟩
    · simp [results, Tryz.results44, escT, go_sem, a0, a1, a2, a3, d0', d1', d2']
    · exact (((((((B1.out.setCell (by simp) _).setCell (by simp) _).setCell (by simp) _).setCell (by simp) _).setCell (by simp) _).setCell (by simp) _).setCell (by simp) _)
  | set f q =>
    have HE := hid (fun W (h : Tabs W) => he ▸ ref06_Escape s p b W h (by omega) hs)
    clear he
    go_enter Tryz.func44, Tryz.ntmps44
    go_wp2_with fail
    refine (HE.out _ T0.out).mono ?_
    rintro e w1 ⟨v, out, rfl, p1, p2, p3, hB1⟩
    obtain ⟨sa, sc, rfl, hr, _⟩ := p1.ranges (by omega)
    have HLD := hid p1; have HST := hid p2; have HLN := hid p3
    clear hr p1 p2 p3
    have A1 := hid (A0.out.below hB1 A0.out.lt); have C1 := hid (C0.out.below hB1 C0.out.lt); have B1 := hid (B0.out.trans (hB1.mono B0.out.size))
    clear hB1
    simp only [escT]
    have a0 := Blk.cell A1.out (j := 0) rfl; have a1 := Blk.cell A1.out (j := 1) rfl; have a2 := Blk.cell A1.out (j := 2) rfl; have a3 := Blk.cell A1.out (j := 3) rfl
    have b0 := A1.out.frozen 0; have b1 := A1.out.frozen 1; have b2 := A1.out.frozen 2; have b3 := A1.out.frozen 3
    have d0' := Blk.cell C1.out (j := 0) rfl; have d1' := Blk.cell C1.out (j := 1) rfl; have d2' := Blk.cell C1.out (j := 2) rfl
    have d0 := C1.out.frozen 0; have d1 := C1.out.frozen 1; have d2 := C1.out.frozen 2
    go_wp2_with fail
    refine bodyPost_ret (v := escT 2 0 (.slice sa out.length sc) 0 q 0 0 0) ?_ rfl ⟨_, out, rfl, ?_, HST.out, HLN.out, ?_⟩
    · simp [results, Tryz.results44, escT, go_sem, a0, a1, a2, a3, d0', d1', d2']
    · have hl0 : w.heap.size < ((w.alloc (.cells #[.int .i64 0, .int .i32 0, .slice none 0 0, .int .i64 0] 64)).alloc (.cells #[.int .i64 0, .int .i64 0, .int .i64 0] 27)).heap.size := by simp; omega
      have hl1 : w.heap.size + 1 < ((w.alloc (.cells #[.int .i64 0, .int .i32 0, .slice none 0 0, .int .i64 0] 64)).alloc (.cells #[.int .i64 0, .int .i64 0, .int .i64 0] 27)).heap.size := by simp
      refine Joins.ownsRow_le ?_ (show w.heap.size ≤ ((w.alloc (.cells #[.int .i64 0, .int .i32 0, .slice none 0 0, .int .i64 0] 64)).alloc (.cells #[.int .i64 0, .int .i64 0, .int .i64 0] 27)).heap.size by simp; omega)
      exact (ownsRow_setCellR (ownsRow_setCellR (ownsRow_setCellR (ownsRow_setCellR (ownsRow_setCellR (ownsRow_setCellR (ownsRow_setCellR HLD.out hl0 _ _) hl0 _ _) hl0 _ _) hl0 _ _) hl1 _ _) hl1 _ _) hl1 _ _)
    · exact (((((((B1.out.setCell (by simp) _).setCell (by simp) _).setCell (by simp) _).setCell (by simp) _).setCell (by simp) _).setCell (by simp) _).setCell (by simp) _)

set_option maxRecDepth 100000 in
set_option maxHeartbeats 4000000 in
theorem refone_rune (s : ByteArray) (p : Nat) (b : Bool) (w : World) (hT : Tabs w) (hs : s.size ≤ 140737488355328) (h0 : p < s.size) (hc : ((s[p].toNat : Int) == 92) = false) (C : Int) (Q : Nat) (hC : nextC s p = C) (hQ : nextW s p = Q) :
    Calls Tryz.prog 44 #[.string s, .int .i64 p, .bool b] w (fun e w' => e = .returned (escT 1 C (.slice none 0 0) 0 Q 0 0 0) ∧ Below w.heap.size w w') := by
  obtain ⟨bA, bC, bB, bZ⟩ := refesc_blocks w
  have A0 := hid bA; have C0 := hid bC; have B0 := hid bB; have Z0 := hid bZ
  clear bA bC bB bZ
  have h0' : (p : Int) < (s.size : Int) := by omega
  have T0 := hid ((hT.alloc (.cells #[.int .i64 0, .int .i32 0, .slice none 0 0, .int .i64 0] 64)).alloc (.cells #[.int .i64 0, .int .i64 0, .int .i64 0] 27))
  clear hT
  have HQS := hid (show Q ≤ s.size by rw [← hQ]; exact nextW_le s p (by omega))
  have HDC := hid (show ((Lib.decodeGo (tail s p)).1 : Int) = C by rw [← hC, decodeGo_tail s p h0]; unfold nextC; rw [if_pos h0])
  have HDW := hid (show p + (Lib.decodeGo (tail s p)).2 = Q by rw [← hQ, decodeGo_tail s p h0]; unfold nextW; rw [if_pos h0])
  clear hC hQ
  go_enter Tryz.func44, Tryz.ntmps44
  go_wp2_with fail
  refine (Tryz.utf8_DecodeRuneInString (tail s p) _ T0.out).mono ?_
  rintro e w1 ⟨rfl, hB1⟩
  have A1 := hid (A0.out.below hB1 A0.out.lt); have C1 := hid (C0.out.below hB1 C0.out.lt); have B1 := hid (B0.out.trans (hB1.mono B0.out.size))
  clear hB1
  rw [HDC.out]
  generalize Lib.decodeGo (tail s p) = D at HDC HDW ⊢
  obtain ⟨d1, d2⟩ := D
  have hq : (p : Int) + (d2 : Int) = (Q : Int) := by have := HDW.out; simp only at this; omega
  have hqb : (Q : Int) ≤ 140737488355328 := by have := HQS.out; omega
  simp only
  clear HDC HDW
  have a0 := Blk.cell A1.out (j := 0) rfl; have a1 := Blk.cell A1.out (j := 1) rfl; have a2 := Blk.cell A1.out (j := 2) rfl; have a3 := Blk.cell A1.out (j := 3) rfl
  have b0 := A1.out.frozen 0; have b1 := A1.out.frozen 1; have b2 := A1.out.frozen 2; have b3 := A1.out.frozen 3
  have d0' := Blk.cell C1.out (j := 0) rfl; have d1' := Blk.cell C1.out (j := 1) rfl; have d2' := Blk.cell C1.out (j := 2) rfl
  have d0 := C1.out.frozen 0; have d1 := C1.out.frozen 1; have d2 := C1.out.frozen 2
  go_wp2_with fail
  refine bodyPost_ret (v := escT 1 C (.slice none 0 0) 0 Q 0 0 0) ?_ rfl ⟨rfl, ?_⟩
  · simp [results, Tryz.results44, escT, go_sem, a0, a1, a2, a3, d0', d1', d2']
  · exact (((((((B1.out.setCell (by simp) _).setCell (by simp) _).setCell (by simp) _).setCell (by simp) _).setCell (by simp) _).setCell (by simp) _).setCell (by simp) _)

theorem ref07_one (s : ByteArray) (p : Nat) (b : Bool) (w : World) (hT : Tabs w) (hs : s.size ≤ 140737488355328) (h0 : p < s.size) :
    Calls Tryz.prog 44 #[.string s, .int .i64 p, .bool b] w (EscOut w (oneP s p b)) := by
  unfold oneP
  by_cases hn : stands s p [92] = true
  · rw [if_pos hn]
    obtain ⟨_, h⟩ := (stands_one s p 92).1 hn
    exact refone_esc s p b w hT hs h0 (by rw [h]; rfl)
  · rw [if_neg hn]
    refine refone_rune s p b w hT hs h0 ?_ _ _ rfl rfl
    rw [beq_eq_false_iff_ne]
    intro e
    exact hn ((stands_one s p 92).2 ⟨h0, UInt8.toNat_inj.1 (by have : (92 : UInt8).toNat = 92 := rfl; omega)⟩)

theorem nmL_iff (c : UInt8) : nmL.contains c = true ↔ (97 ≤ c.toNat ∧ c.toNat ≤ 122) ∨ c.toNat = 94 := by
  have h : ∀ n : Fin 256, nmL.contains (UInt8.ofNat n.val) = true ↔ (97 ≤ n.val ∧ n.val ≤ 122) ∨ n.val = 94 := by decide +kernel
  have h1 := h ⟨c.toNat, c.toNat_lt⟩
  simpa using h1
def endI (s : ByteArray) (p : Nat) : Int := match namedP s p with | some k => k | none => -1
theorem endI_no {s : ByteArray} {p : Nat} (h : ¬ stands s p [91, 58] = true) : endI s p = -1 := by
  unfold endI namedP; rw [if_neg h]
set_option maxHeartbeats 1000000 in
theorem ref07_end (s : ByteArray) (p : Nat) (w : World) (hp : p ≤ s.size) (hs : s.size ≤ 100000000000) :
    Calls Tryz.prog 42 #[.string s, .int .i64 p] w fun e w' => e = .returned (.int .i64 (endI s p)) ∧ w' = w := by
  by_cases h0 : p + 1 < s.size
  case neg =>
    have h0' : ¬ (p : Int) + 1 < (s.size : Int) := by omega
    have HF := hid (endI_no (s := s) (p := p) fun h => by obtain ⟨h1, _⟩ := (stands_two s p 91 58).1 h; exact h0 h1)
    go_enter Tryz.func42, Tryz.ntmps42
    go_wp2_with fail
    go_ret
    rw [HF.out]; exact ⟨rfl, rfl⟩
  have h0' : (p : Int) + 1 < (s.size : Int) := by omega
  by_cases c1 : s[p] = 91
  case neg =>
    have f1 : ¬ s[p].toNat = 91 := u8_ne c1
    have HF := hid (endI_no (s := s) (p := p) fun h => by obtain ⟨_, h1, _⟩ := (stands_two s p 91 58).1 h; exact c1 h1)
    clear c1
    go_enter Tryz.func42, Tryz.ntmps42
    go_wp2_with fail
    go_ret
    rw [HF.out]; exact ⟨rfl, rfl⟩
  by_cases c2 : s[p + 1] = 58
  case neg =>
    have e1 : s[p].toNat = 91 := by rw [c1]; rfl
    have f1 : ¬ s[p + 1].toNat = 58 := u8_ne c2
    have f2 : ((s[p + 1].toNat : Int) != 58) = true := by rw [bne_iff_ne]; omega
    have HF := hid (endI_no (s := s) (p := p) fun h => by obtain ⟨_, _, h1⟩ := (stands_two s p 91 58).1 h; exact c2 h1)
    clear c1 c2
    go_enter Tryz.func42, Tryz.ntmps42
    go_wp2_with fail
    go_ret
    rw [HF.out]; exact ⟨rfl, rfl⟩
  have HS := hid ((stands_two s p 91 58).2 ⟨h0, c1, c2⟩)
  have e1 : s[p].toNat = 91 := by rw [c1]; rfl
  have e2 : s[p + 1].toNat = 58 := by rw [c2]; rfl
  clear c1 c2
  have hle := runP_le_size s (p + 2) nmL h0
  go_enter Tryz.func42, Tryz.ntmps42
  go_wp2_with fail
  go_loop [5] (fun i => ∃ k : Nat, k ≤ (runP s (p + 2) nmL).length ∧ i = .int .i64 ((p + 2 + k : Nat) : Int)) (fun i => s.size - (intOf i).toNat)
  case atStart => exact ⟨0, Nat.zero_le _, rfl⟩
  case round =>
    obtain ⟨k, hk, rfl⟩ := hrel
    by_cases hlt : k < (runP s (p + 2) nmL).length
    · obtain ⟨h', hg, hc⟩ := runP_getElem s (p + 2) nmL k hlt
      rw [← hg] at hc
      have hd := (nmL_iff _).1 hc
      clear hg hc
      rcases hd with ⟨d1, d2⟩ | d1
      · go_wp2_with fail
        go_round
        case rel => exact ⟨k + 1, by omega, by go_num⟩
        case measure => simp [intOf]; omega
      · have d2 : ¬ 97 ≤ s[p + 2 + k].toNat := by omega
        have d3 : ((s[p + 2 + k].toNat : Int) == 94) = true := by rw [d1]; rfl
        go_wp2_with fail
        go_round
        case rel => exact ⟨k + 1, by omega, by go_num⟩
        case measure => simp [intOf]; omega
    · obtain rfl : k = (runP s (p + 2) nmL).length := by omega
      obtain ⟨L, hL⟩ : ∃ L, (runP s (p + 2) nmL).length = L := ⟨_, rfl⟩
      have HEND := hid (show ∀ h : p + 2 + L < s.size, nmL.contains (s[p + 2 + L]) = false by
        rw [← hL]; exact runP_end s (p + 2) nmL)
      have HN := hid (show endI s p = if stands s (p + 2 + L) [58, 93] = true then ((p + 2 + L : Nat) : Int) else -1 by
        unfold endI namedP; rw [if_pos HS.out, hL]
        by_cases hq : stands s (p + 2 + L) [58, 93] = true
        · rw [if_pos hq, if_pos hq]
        · rw [if_neg hq, if_neg hq])
      rw [hL] at hle hk ⊢
      clear hL hlt
      by_cases h3 : p + 2 + L < s.size
      case neg =>
        have HV := hid (show endI s p = -1 by
          rw [HN.out, if_neg fun h => by obtain ⟨h1, _⟩ := (stands_two s _ 58 93).1 h; omega])
        have h4 : ¬ ((p : Int) + 2 + (L : Int)) < (s.size : Int) := by omega
        go_wp2_with fail
        go_ret
        rw [HV.out]; exact ⟨rfl, rfl⟩
      have hno := HEND.out h3
      have n1 : ¬ ((97 ≤ s[p + 2 + L].toNat ∧ s[p + 2 + L].toNat ≤ 122) ∨ s[p + 2 + L].toNat = 94) := fun h => by
        rw [(nmL_iff _).2 h] at hno; cases hno
      clear hno
      have n2 : ¬ s[p + 2 + L].toNat = 94 := fun h => n1 (.inr h)
      have n3 : ((s[p + 2 + L].toNat : Int) == 94) = false := by rw [beq_eq_false_iff_ne]; omega
      have h4 : ((p : Int) + 2 + (L : Int)) < (s.size : Int) := by omega
      by_cases g1 : p + 2 + L + 1 < s.size
      case neg =>
        have HV := hid (show endI s p = -1 by
          rw [HN.out, if_neg fun h => by obtain ⟨h1, _⟩ := (stands_two s _ 58 93).1 h; omega])
        have g1' : ¬ ((p : Int) + 2 + (L : Int) + 1) < (s.size : Int) := by omega
        by_cases m1 : 97 ≤ s[p + 2 + L].toNat
        · have m2 : ¬ s[p + 2 + L].toNat ≤ 122 := fun h => n1 (.inl ⟨m1, h⟩)
          clear n1
          go_wp2_with fail
          go_ret
          rw [HV.out]; exact ⟨rfl, rfl⟩
        · clear n1
          go_wp2_with fail
          go_ret
          rw [HV.out]; exact ⟨rfl, rfl⟩
      have g1' : ((p : Int) + 2 + (L : Int) + 1) < (s.size : Int) := by omega
      by_cases g2 : s[p + 2 + L] = 58
      case neg =>
        have HV := hid (show endI s p = -1 by
          rw [HN.out, if_neg fun h => by obtain ⟨_, h1, _⟩ := (stands_two s _ 58 93).1 h; exact g2 h1])
        have f2 : ¬ s[p + 2 + L].toNat = 58 := u8_ne g2
        clear g2
        by_cases m1 : 97 ≤ s[p + 2 + L].toNat
        · have m2 : ¬ s[p + 2 + L].toNat ≤ 122 := fun h => n1 (.inl ⟨m1, h⟩)
          clear n1
          go_wp2_with fail
          go_ret
          rw [HV.out]; exact ⟨rfl, rfl⟩
        · clear n1
          go_wp2_with fail
          go_ret
          rw [HV.out]; exact ⟨rfl, rfl⟩
      have f2 : s[p + 2 + L].toNat = 58 := by rw [g2]; rfl
      have m1 : ¬ 97 ≤ s[p + 2 + L].toNat := by omega
      by_cases g3 : s[p + 2 + L + 1] = 93
      case neg =>
        have HV := hid (show endI s p = -1 by
          rw [HN.out, if_neg fun h => by obtain ⟨_, _, h1⟩ := (stands_two s _ 58 93).1 h; exact g3 h1])
        have f3 : ¬ s[p + 2 + L + 1].toNat = 93 := u8_ne g3
        clear g2 g3 n1
        go_wp2_with fail
        go_ret
        rw [HV.out]; exact ⟨rfl, rfl⟩
      have HV := hid (show endI s p = ((p + 2 + L : Nat) : Int) by
        rw [HN.out, if_pos ((stands_two s _ 58 93).2 ⟨g1, g2, g3⟩)])
      have f3 : s[p + 2 + L + 1].toNat = 93 := by rw [g3]; rfl
      clear g2 g3 n1
      go_wp2_with fail
      go_ret
      rw [HV.out]; exact ⟨by go_num, rfl⟩

def PlainR (w : World) (sp : Option (List (Int × Int))) (e : Ending) (w' : World) : Prop := ∃ v, e = .returned (.tuple #[v, .bool sp.isSome]) ∧ Laid w w' (sp.getD []) v ∧ Below w.heap.size w w'

set_option maxHeartbeats 1000000 in
set_option maxRecDepth 100000 in
theorem rplain_alnum (w : World) : Calls Tryz.prog 63 #[.string ⟨#[97, 108, 110, 117, 109]⟩] w (PlainR w (some [(48, 57), (65, 90), (97, 122)])) := by
  have hr : RangesAt (w.alloc (.cells (flatR [(48, 57), (65, 90), (97, 122)]).toArray 71)) [(48, 57), (65, 90), (97, 122)] w.heap.size 0 := RangesAt.of_cells _ 0 fun j hj => ⟨by rw [Nat.zero_add]; exact (Blk.new w (flatR [(48, 57), (65, 90), (97, 122)]) 71).cell (flatR_get _ j hj).1, by rw [Nat.zero_add]; exact (Blk.new w (flatR [(48, 57), (65, 90), (97, 122)]) 71).cell (flatR_get _ j hj).2⟩
  have hs := ref04_set [(48, 57), (65, 90), (97, 122)] w.heap.size 3 _ hr (by simp) (by decide)
  have HS := hid hs; clear hs hr
  go_enter Tryz.func63, Tryz.ntmps63
  go_wp2_with fail
  refine (HS.out).mono ?_
  rintro e w1 ⟨v, rfl, h1, h2⟩
  have H1 := hid h1; have H2 := hid h2; clear h1 h2
  go_wp2_with fail
  go_ret2
  have hb := (Below.refl w.heap.size w).alloc (Nat.le_refl _) (.cells (flatR [(48, 57), (65, 90), (97, 122)]).toArray 71)
  exact ⟨v, rfl, Joins.ownsRow_le H1.out hb.size, hb.trans (H2.out.mono hb.size)⟩

set_option maxHeartbeats 1000000 in
set_option maxRecDepth 100000 in
theorem rplain_alpha (w : World) : Calls Tryz.prog 63 #[.string ⟨#[97, 108, 112, 104, 97]⟩] w (PlainR w (some [(65, 90), (97, 122)])) := by
  have hr : RangesAt (w.alloc (.cells (flatR [(65, 90), (97, 122)]).toArray 71)) [(65, 90), (97, 122)] w.heap.size 0 := RangesAt.of_cells _ 0 fun j hj => ⟨by rw [Nat.zero_add]; exact (Blk.new w (flatR [(65, 90), (97, 122)]) 71).cell (flatR_get _ j hj).1, by rw [Nat.zero_add]; exact (Blk.new w (flatR [(65, 90), (97, 122)]) 71).cell (flatR_get _ j hj).2⟩
  have hs := ref04_set [(65, 90), (97, 122)] w.heap.size 2 _ hr (by simp) (by decide)
  have HS := hid hs; clear hs hr
  go_enter Tryz.func63, Tryz.ntmps63
  go_wp2_with fail
  refine (HS.out).mono ?_
  rintro e w1 ⟨v, rfl, h1, h2⟩
  have H1 := hid h1; have H2 := hid h2; clear h1 h2
  go_wp2_with fail
  go_ret2
  have hb := (Below.refl w.heap.size w).alloc (Nat.le_refl _) (.cells (flatR [(65, 90), (97, 122)]).toArray 71)
  exact ⟨v, rfl, Joins.ownsRow_le H1.out hb.size, hb.trans (H2.out.mono hb.size)⟩

set_option maxHeartbeats 1000000 in
set_option maxRecDepth 100000 in
theorem rplain_ascii (w : World) : Calls Tryz.prog 63 #[.string ⟨#[97, 115, 99, 105, 105]⟩] w (PlainR w (some [(0, 127)])) := by
  have hr : RangesAt (w.alloc (.cells (flatR [(0, 127)]).toArray 71)) [(0, 127)] w.heap.size 0 := RangesAt.of_cells _ 0 fun j hj => ⟨by rw [Nat.zero_add]; exact (Blk.new w (flatR [(0, 127)]) 71).cell (flatR_get _ j hj).1, by rw [Nat.zero_add]; exact (Blk.new w (flatR [(0, 127)]) 71).cell (flatR_get _ j hj).2⟩
  have hs := ref04_set [(0, 127)] w.heap.size 1 _ hr (by simp) (by decide)
  have HS := hid hs; clear hs hr
  go_enter Tryz.func63, Tryz.ntmps63
  go_wp2_with fail
  refine (HS.out).mono ?_
  rintro e w1 ⟨v, rfl, h1, h2⟩
  have H1 := hid h1; have H2 := hid h2; clear h1 h2
  go_wp2_with fail
  go_ret2
  have hb := (Below.refl w.heap.size w).alloc (Nat.le_refl _) (.cells (flatR [(0, 127)]).toArray 71)
  exact ⟨v, rfl, Joins.ownsRow_le H1.out hb.size, hb.trans (H2.out.mono hb.size)⟩

set_option maxHeartbeats 1000000 in
set_option maxRecDepth 100000 in
theorem rplain_blank (w : World) : Calls Tryz.prog 63 #[.string ⟨#[98, 108, 97, 110, 107]⟩] w (PlainR w (some [(9, 9), (32, 32)])) := by
  have hr : RangesAt (w.alloc (.cells (flatR [(9, 9), (32, 32)]).toArray 71)) [(9, 9), (32, 32)] w.heap.size 0 := RangesAt.of_cells _ 0 fun j hj => ⟨by rw [Nat.zero_add]; exact (Blk.new w (flatR [(9, 9), (32, 32)]) 71).cell (flatR_get _ j hj).1, by rw [Nat.zero_add]; exact (Blk.new w (flatR [(9, 9), (32, 32)]) 71).cell (flatR_get _ j hj).2⟩
  have hs := ref04_set [(9, 9), (32, 32)] w.heap.size 2 _ hr (by simp) (by decide)
  have HS := hid hs; clear hs hr
  go_enter Tryz.func63, Tryz.ntmps63
  go_wp2_with fail
  refine (HS.out).mono ?_
  rintro e w1 ⟨v, rfl, h1, h2⟩
  have H1 := hid h1; have H2 := hid h2; clear h1 h2
  go_wp2_with fail
  go_ret2
  have hb := (Below.refl w.heap.size w).alloc (Nat.le_refl _) (.cells (flatR [(9, 9), (32, 32)]).toArray 71)
  exact ⟨v, rfl, Joins.ownsRow_le H1.out hb.size, hb.trans (H2.out.mono hb.size)⟩

set_option maxHeartbeats 1000000 in
set_option maxRecDepth 100000 in
theorem rplain_cntrl (w : World) : Calls Tryz.prog 63 #[.string ⟨#[99, 110, 116, 114, 108]⟩] w (PlainR w (some [(0, 31), (127, 127)])) := by
  have hr : RangesAt (w.alloc (.cells (flatR [(0, 31), (127, 127)]).toArray 71)) [(0, 31), (127, 127)] w.heap.size 0 := RangesAt.of_cells _ 0 fun j hj => ⟨by rw [Nat.zero_add]; exact (Blk.new w (flatR [(0, 31), (127, 127)]) 71).cell (flatR_get _ j hj).1, by rw [Nat.zero_add]; exact (Blk.new w (flatR [(0, 31), (127, 127)]) 71).cell (flatR_get _ j hj).2⟩
  have hs := ref04_set [(0, 31), (127, 127)] w.heap.size 2 _ hr (by simp) (by decide)
  have HS := hid hs; clear hs hr
  go_enter Tryz.func63, Tryz.ntmps63
  go_wp2_with fail
  refine (HS.out).mono ?_
  rintro e w1 ⟨v, rfl, h1, h2⟩
  have H1 := hid h1; have H2 := hid h2; clear h1 h2
  go_wp2_with fail
  go_ret2
  have hb := (Below.refl w.heap.size w).alloc (Nat.le_refl _) (.cells (flatR [(0, 31), (127, 127)]).toArray 71)
  exact ⟨v, rfl, Joins.ownsRow_le H1.out hb.size, hb.trans (H2.out.mono hb.size)⟩

set_option maxHeartbeats 1000000 in
set_option maxRecDepth 100000 in
theorem rplain_digit (w : World) : Calls Tryz.prog 63 #[.string ⟨#[100, 105, 103, 105, 116]⟩] w (PlainR w (some [(48, 57)])) := by
  have hr : RangesAt (w.alloc (.cells (flatR [(48, 57)]).toArray 71)) [(48, 57)] w.heap.size 0 := RangesAt.of_cells _ 0 fun j hj => ⟨by rw [Nat.zero_add]; exact (Blk.new w (flatR [(48, 57)]) 71).cell (flatR_get _ j hj).1, by rw [Nat.zero_add]; exact (Blk.new w (flatR [(48, 57)]) 71).cell (flatR_get _ j hj).2⟩
  have hs := ref04_set [(48, 57)] w.heap.size 1 _ hr (by simp) (by decide)
  have HS := hid hs; clear hs hr
  go_enter Tryz.func63, Tryz.ntmps63
  go_wp2_with fail
  refine (HS.out).mono ?_
  rintro e w1 ⟨v, rfl, h1, h2⟩
  have H1 := hid h1; have H2 := hid h2; clear h1 h2
  go_wp2_with fail
  go_ret2
  have hb := (Below.refl w.heap.size w).alloc (Nat.le_refl _) (.cells (flatR [(48, 57)]).toArray 71)
  exact ⟨v, rfl, Joins.ownsRow_le H1.out hb.size, hb.trans (H2.out.mono hb.size)⟩

set_option maxHeartbeats 1000000 in
set_option maxRecDepth 100000 in
theorem rplain_graph (w : World) : Calls Tryz.prog 63 #[.string ⟨#[103, 114, 97, 112, 104]⟩] w (PlainR w (some [(33, 126)])) := by
  have hr : RangesAt (w.alloc (.cells (flatR [(33, 126)]).toArray 71)) [(33, 126)] w.heap.size 0 := RangesAt.of_cells _ 0 fun j hj => ⟨by rw [Nat.zero_add]; exact (Blk.new w (flatR [(33, 126)]) 71).cell (flatR_get _ j hj).1, by rw [Nat.zero_add]; exact (Blk.new w (flatR [(33, 126)]) 71).cell (flatR_get _ j hj).2⟩
  have hs := ref04_set [(33, 126)] w.heap.size 1 _ hr (by simp) (by decide)
  have HS := hid hs; clear hs hr
  go_enter Tryz.func63, Tryz.ntmps63
  go_wp2_with fail
  refine (HS.out).mono ?_
  rintro e w1 ⟨v, rfl, h1, h2⟩
  have H1 := hid h1; have H2 := hid h2; clear h1 h2
  go_wp2_with fail
  go_ret2
  have hb := (Below.refl w.heap.size w).alloc (Nat.le_refl _) (.cells (flatR [(33, 126)]).toArray 71)
  exact ⟨v, rfl, Joins.ownsRow_le H1.out hb.size, hb.trans (H2.out.mono hb.size)⟩

set_option maxHeartbeats 1000000 in
set_option maxRecDepth 100000 in
theorem rplain_lower (w : World) : Calls Tryz.prog 63 #[.string ⟨#[108, 111, 119, 101, 114]⟩] w (PlainR w (some [(97, 122)])) := by
  have hr : RangesAt (w.alloc (.cells (flatR [(97, 122)]).toArray 71)) [(97, 122)] w.heap.size 0 := RangesAt.of_cells _ 0 fun j hj => ⟨by rw [Nat.zero_add]; exact (Blk.new w (flatR [(97, 122)]) 71).cell (flatR_get _ j hj).1, by rw [Nat.zero_add]; exact (Blk.new w (flatR [(97, 122)]) 71).cell (flatR_get _ j hj).2⟩
  have hs := ref04_set [(97, 122)] w.heap.size 1 _ hr (by simp) (by decide)
  have HS := hid hs; clear hs hr
  go_enter Tryz.func63, Tryz.ntmps63
  go_wp2_with fail
  refine (HS.out).mono ?_
  rintro e w1 ⟨v, rfl, h1, h2⟩
  have H1 := hid h1; have H2 := hid h2; clear h1 h2
  go_wp2_with fail
  go_ret2
  have hb := (Below.refl w.heap.size w).alloc (Nat.le_refl _) (.cells (flatR [(97, 122)]).toArray 71)
  exact ⟨v, rfl, Joins.ownsRow_le H1.out hb.size, hb.trans (H2.out.mono hb.size)⟩

set_option maxHeartbeats 1000000 in
set_option maxRecDepth 100000 in
theorem rplain_print (w : World) : Calls Tryz.prog 63 #[.string ⟨#[112, 114, 105, 110, 116]⟩] w (PlainR w (some [(32, 126)])) := by
  have hr : RangesAt (w.alloc (.cells (flatR [(32, 126)]).toArray 71)) [(32, 126)] w.heap.size 0 := RangesAt.of_cells _ 0 fun j hj => ⟨by rw [Nat.zero_add]; exact (Blk.new w (flatR [(32, 126)]) 71).cell (flatR_get _ j hj).1, by rw [Nat.zero_add]; exact (Blk.new w (flatR [(32, 126)]) 71).cell (flatR_get _ j hj).2⟩
  have hs := ref04_set [(32, 126)] w.heap.size 1 _ hr (by simp) (by decide)
  have HS := hid hs; clear hs hr
  go_enter Tryz.func63, Tryz.ntmps63
  go_wp2_with fail
  refine (HS.out).mono ?_
  rintro e w1 ⟨v, rfl, h1, h2⟩
  have H1 := hid h1; have H2 := hid h2; clear h1 h2
  go_wp2_with fail
  go_ret2
  have hb := (Below.refl w.heap.size w).alloc (Nat.le_refl _) (.cells (flatR [(32, 126)]).toArray 71)
  exact ⟨v, rfl, Joins.ownsRow_le H1.out hb.size, hb.trans (H2.out.mono hb.size)⟩

set_option maxHeartbeats 1000000 in
set_option maxRecDepth 100000 in
theorem rplain_punct (w : World) : Calls Tryz.prog 63 #[.string ⟨#[112, 117, 110, 99, 116]⟩] w (PlainR w (some [(33, 47), (58, 64), (91, 96), (123, 126)])) := by
  have hr : RangesAt (w.alloc (.cells (flatR [(33, 47), (58, 64), (91, 96), (123, 126)]).toArray 71)) [(33, 47), (58, 64), (91, 96), (123, 126)] w.heap.size 0 := RangesAt.of_cells _ 0 fun j hj => ⟨by rw [Nat.zero_add]; exact (Blk.new w (flatR [(33, 47), (58, 64), (91, 96), (123, 126)]) 71).cell (flatR_get _ j hj).1, by rw [Nat.zero_add]; exact (Blk.new w (flatR [(33, 47), (58, 64), (91, 96), (123, 126)]) 71).cell (flatR_get _ j hj).2⟩
  have hs := ref04_set [(33, 47), (58, 64), (91, 96), (123, 126)] w.heap.size 4 _ hr (by simp) (by decide)
  have HS := hid hs; clear hs hr
  go_enter Tryz.func63, Tryz.ntmps63
  go_wp2_with fail
  refine (HS.out).mono ?_
  rintro e w1 ⟨v, rfl, h1, h2⟩
  have H1 := hid h1; have H2 := hid h2; clear h1 h2
  go_wp2_with fail
  go_ret2
  have hb := (Below.refl w.heap.size w).alloc (Nat.le_refl _) (.cells (flatR [(33, 47), (58, 64), (91, 96), (123, 126)]).toArray 71)
  exact ⟨v, rfl, Joins.ownsRow_le H1.out hb.size, hb.trans (H2.out.mono hb.size)⟩

set_option maxHeartbeats 1000000 in
set_option maxRecDepth 100000 in
theorem rplain_space (w : World) : Calls Tryz.prog 63 #[.string ⟨#[115, 112, 97, 99, 101]⟩] w (PlainR w (some [(9, 13), (32, 32)])) := by
  have hr : RangesAt (w.alloc (.cells (flatR [(9, 13), (32, 32)]).toArray 71)) [(9, 13), (32, 32)] w.heap.size 0 := RangesAt.of_cells _ 0 fun j hj => ⟨by rw [Nat.zero_add]; exact (Blk.new w (flatR [(9, 13), (32, 32)]) 71).cell (flatR_get _ j hj).1, by rw [Nat.zero_add]; exact (Blk.new w (flatR [(9, 13), (32, 32)]) 71).cell (flatR_get _ j hj).2⟩
  have hs := ref04_set [(9, 13), (32, 32)] w.heap.size 2 _ hr (by simp) (by decide)
  have HS := hid hs; clear hs hr
  go_enter Tryz.func63, Tryz.ntmps63
  go_wp2_with fail
  refine (HS.out).mono ?_
  rintro e w1 ⟨v, rfl, h1, h2⟩
  have H1 := hid h1; have H2 := hid h2; clear h1 h2
  go_wp2_with fail
  go_ret2
  have hb := (Below.refl w.heap.size w).alloc (Nat.le_refl _) (.cells (flatR [(9, 13), (32, 32)]).toArray 71)
  exact ⟨v, rfl, Joins.ownsRow_le H1.out hb.size, hb.trans (H2.out.mono hb.size)⟩

set_option maxHeartbeats 1000000 in
set_option maxRecDepth 100000 in
theorem rplain_upper (w : World) : Calls Tryz.prog 63 #[.string ⟨#[117, 112, 112, 101, 114]⟩] w (PlainR w (some [(65, 90)])) := by
  have hr : RangesAt (w.alloc (.cells (flatR [(65, 90)]).toArray 71)) [(65, 90)] w.heap.size 0 := RangesAt.of_cells _ 0 fun j hj => ⟨by rw [Nat.zero_add]; exact (Blk.new w (flatR [(65, 90)]) 71).cell (flatR_get _ j hj).1, by rw [Nat.zero_add]; exact (Blk.new w (flatR [(65, 90)]) 71).cell (flatR_get _ j hj).2⟩
  have hs := ref04_set [(65, 90)] w.heap.size 1 _ hr (by simp) (by decide)
  have HS := hid hs; clear hs hr
  go_enter Tryz.func63, Tryz.ntmps63
  go_wp2_with fail
  refine (HS.out).mono ?_
  rintro e w1 ⟨v, rfl, h1, h2⟩
  have H1 := hid h1; have H2 := hid h2; clear h1 h2
  go_wp2_with fail
  go_ret2
  have hb := (Below.refl w.heap.size w).alloc (Nat.le_refl _) (.cells (flatR [(65, 90)]).toArray 71)
  exact ⟨v, rfl, Joins.ownsRow_le H1.out hb.size, hb.trans (H2.out.mono hb.size)⟩

set_option maxHeartbeats 1000000 in
set_option maxRecDepth 100000 in
theorem rplain_word (w : World) : Calls Tryz.prog 63 #[.string ⟨#[119, 111, 114, 100]⟩] w (PlainR w (some [(48, 57), (65, 90), (95, 95), (97, 122)])) := by
  have hr : RangesAt (w.alloc (.cells (flatR [(48, 57), (65, 90), (95, 95), (97, 122)]).toArray 71)) [(48, 57), (65, 90), (95, 95), (97, 122)] w.heap.size 0 := RangesAt.of_cells _ 0 fun j hj => ⟨by rw [Nat.zero_add]; exact (Blk.new w (flatR [(48, 57), (65, 90), (95, 95), (97, 122)]) 71).cell (flatR_get _ j hj).1, by rw [Nat.zero_add]; exact (Blk.new w (flatR [(48, 57), (65, 90), (95, 95), (97, 122)]) 71).cell (flatR_get _ j hj).2⟩
  have hs := ref04_set [(48, 57), (65, 90), (95, 95), (97, 122)] w.heap.size 4 _ hr (by simp) (by decide)
  have HS := hid hs; clear hs hr
  go_enter Tryz.func63, Tryz.ntmps63
  go_wp2_with fail
  refine (HS.out).mono ?_
  rintro e w1 ⟨v, rfl, h1, h2⟩
  have H1 := hid h1; have H2 := hid h2; clear h1 h2
  go_wp2_with fail
  go_ret2
  have hb := (Below.refl w.heap.size w).alloc (Nat.le_refl _) (.cells (flatR [(48, 57), (65, 90), (95, 95), (97, 122)]).toArray 71)
  exact ⟨v, rfl, Joins.ownsRow_le H1.out hb.size, hb.trans (H2.out.mono hb.size)⟩

set_option maxHeartbeats 1000000 in
set_option maxRecDepth 100000 in
theorem rplain_xdigit (w : World) : Calls Tryz.prog 63 #[.string ⟨#[120, 100, 105, 103, 105, 116]⟩] w (PlainR w (some [(48, 57), (65, 70), (97, 102)])) := by
  have hr : RangesAt (w.alloc (.cells (flatR [(48, 57), (65, 70), (97, 102)]).toArray 71)) [(48, 57), (65, 70), (97, 102)] w.heap.size 0 := RangesAt.of_cells _ 0 fun j hj => ⟨by rw [Nat.zero_add]; exact (Blk.new w (flatR [(48, 57), (65, 70), (97, 102)]) 71).cell (flatR_get _ j hj).1, by rw [Nat.zero_add]; exact (Blk.new w (flatR [(48, 57), (65, 70), (97, 102)]) 71).cell (flatR_get _ j hj).2⟩
  have hs := ref04_set [(48, 57), (65, 70), (97, 102)] w.heap.size 3 _ hr (by simp) (by decide)
  have HS := hid hs; clear hs hr
  go_enter Tryz.func63, Tryz.ntmps63
  go_wp2_with fail
  refine (HS.out).mono ?_
  rintro e w1 ⟨v, rfl, h1, h2⟩
  have H1 := hid h1; have H2 := hid h2; clear h1 h2
  go_wp2_with fail
  go_ret2
  have hb := (Below.refl w.heap.size w).alloc (Nat.le_refl _) (.cells (flatR [(48, 57), (65, 70), (97, 102)]).toArray 71)
  exact ⟨v, rfl, Joins.ownsRow_le H1.out hb.size, hb.trans (H2.out.mono hb.size)⟩

set_option maxHeartbeats 1000000 in
theorem rplain_none (s2 : ByteArray) (w : World) (h3 : posL s2.data.toList = none) : Calls Tryz.prog 63 #[.string s2] w (PlainR w none) := by
  have hq := posL_none h3
  rw [← ByteArray.toList_eq] at hq
  clear h3
  obtain ⟨n0, n1, n2, n3, n4, n5, n6, n7, n8, n9, n10, n11, n12, n13⟩ := hq
  go_enter Tryz.func63, Tryz.ntmps63
  go_wp2_with fail
  go_ret2
  exact ⟨_, rfl, World.ownsRow_nil _ _ _ _, Below.refl _ _⟩

theorem bytes_mkP {b : ByteArray} {l : List UInt8} (h : b.data.toList = l) : b = ⟨l.toArray⟩ := by subst h; rfl
theorem ref04_plain (nm : ByteArray) (w : World) : Calls Tryz.prog 63 #[.string nm] w (PlainR w (posL nm.data.toList)) := by
  cases hp : posL nm.data.toList with
  | none => exact rplain_none nm w hp
  | some l =>
    unfold posL at hp
    by_cases c0 : nm.data.toList = [97, 108, 110, 117, 109]
    · rw [if_pos c0] at hp; cases hp; rw [bytes_mkP c0]; exact rplain_alnum w
    rw [if_neg c0] at hp
    by_cases c1 : nm.data.toList = [97, 108, 112, 104, 97]
    · rw [if_pos c1] at hp; cases hp; rw [bytes_mkP c1]; exact rplain_alpha w
    rw [if_neg c1] at hp
    by_cases c2 : nm.data.toList = [97, 115, 99, 105, 105]
    · rw [if_pos c2] at hp; cases hp; rw [bytes_mkP c2]; exact rplain_ascii w
    rw [if_neg c2] at hp
    by_cases c3 : nm.data.toList = [98, 108, 97, 110, 107]
    · rw [if_pos c3] at hp; cases hp; rw [bytes_mkP c3]; exact rplain_blank w
    rw [if_neg c3] at hp
    by_cases c4 : nm.data.toList = [99, 110, 116, 114, 108]
    · rw [if_pos c4] at hp; cases hp; rw [bytes_mkP c4]; exact rplain_cntrl w
    rw [if_neg c4] at hp
    by_cases c5 : nm.data.toList = [100, 105, 103, 105, 116]
    · rw [if_pos c5] at hp; cases hp; rw [bytes_mkP c5]; exact rplain_digit w
    rw [if_neg c5] at hp
    by_cases c6 : nm.data.toList = [103, 114, 97, 112, 104]
    · rw [if_pos c6] at hp; cases hp; rw [bytes_mkP c6]; exact rplain_graph w
    rw [if_neg c6] at hp
    by_cases c7 : nm.data.toList = [108, 111, 119, 101, 114]
    · rw [if_pos c7] at hp; cases hp; rw [bytes_mkP c7]; exact rplain_lower w
    rw [if_neg c7] at hp
    by_cases c8 : nm.data.toList = [112, 114, 105, 110, 116]
    · rw [if_pos c8] at hp; cases hp; rw [bytes_mkP c8]; exact rplain_print w
    rw [if_neg c8] at hp
    by_cases c9 : nm.data.toList = [112, 117, 110, 99, 116]
    · rw [if_pos c9] at hp; cases hp; rw [bytes_mkP c9]; exact rplain_punct w
    rw [if_neg c9] at hp
    by_cases c10 : nm.data.toList = [115, 112, 97, 99, 101]
    · rw [if_pos c10] at hp; cases hp; rw [bytes_mkP c10]; exact rplain_space w
    rw [if_neg c10] at hp
    by_cases c11 : nm.data.toList = [117, 112, 112, 101, 114]
    · rw [if_pos c11] at hp; cases hp; rw [bytes_mkP c11]; exact rplain_upper w
    rw [if_neg c11] at hp
    by_cases c12 : nm.data.toList = [119, 111, 114, 100]
    · rw [if_pos c12] at hp; cases hp; rw [bytes_mkP c12]; exact rplain_word w
    rw [if_neg c12] at hp
    by_cases c13 : nm.data.toList = [120, 100, 105, 103, 105, 116]
    · rw [if_pos c13] at hp; cases hp; rw [bytes_mkP c13]; exact rplain_xdigit w
    rw [if_neg c13] at hp
    cases hp

theorem posL_good {nm : List UInt8} {l : List (Int × Int)} (h : posL nm = some l) : setRight l = true ∧ l.length ≤ 10 := by
  unfold posL at h
  by_cases c0 : nm = [97, 108, 110, 117, 109]
  · rw [if_pos c0] at h; cases h; decide
  rw [if_neg c0] at h
  by_cases c1 : nm = [97, 108, 112, 104, 97]
  · rw [if_pos c1] at h; cases h; decide
  rw [if_neg c1] at h
  by_cases c2 : nm = [97, 115, 99, 105, 105]
  · rw [if_pos c2] at h; cases h; decide
  rw [if_neg c2] at h
  by_cases c3 : nm = [98, 108, 97, 110, 107]
  · rw [if_pos c3] at h; cases h; decide
  rw [if_neg c3] at h
  by_cases c4 : nm = [99, 110, 116, 114, 108]
  · rw [if_pos c4] at h; cases h; decide
  rw [if_neg c4] at h
  by_cases c5 : nm = [100, 105, 103, 105, 116]
  · rw [if_pos c5] at h; cases h; decide
  rw [if_neg c5] at h
  by_cases c6 : nm = [103, 114, 97, 112, 104]
  · rw [if_pos c6] at h; cases h; decide
  rw [if_neg c6] at h
  by_cases c7 : nm = [108, 111, 119, 101, 114]
  · rw [if_pos c7] at h; cases h; decide
  rw [if_neg c7] at h
  by_cases c8 : nm = [112, 114, 105, 110, 116]
  · rw [if_pos c8] at h; cases h; decide
  rw [if_neg c8] at h
  by_cases c9 : nm = [112, 117, 110, 99, 116]
  · rw [if_pos c9] at h; cases h; decide
  rw [if_neg c9] at h
  by_cases c10 : nm = [115, 112, 97, 99, 101]
  · rw [if_pos c10] at h; cases h; decide
  rw [if_neg c10] at h
  by_cases c11 : nm = [117, 112, 112, 101, 114]
  · rw [if_pos c11] at h; cases h; decide
  rw [if_neg c11] at h
  by_cases c12 : nm = [119, 111, 114, 100]
  · rw [if_pos c12] at h; cases h; decide
  rw [if_neg c12] at h
  by_cases c13 : nm = [120, 100, 105, 103, 105, 116]
  · rw [if_pos c13] at h; cases h; decide
  rw [if_neg c13] at h
  cases h

set_option maxHeartbeats 1000000 in
theorem rposix_plain (name : ByteArray) (w : World) (nz : Bool) (hz : decide (0 < (name.size : Int)) = nz) (hf : nz = true → ∀ h : 0 < name.size, ((name[0].toNat : Int) == 94) = false) : Calls Tryz.prog 43 #[.string name] w (PlainR w (posL name.data.toList)) := by
  have HP := hid (ref04_plain name w)
  cases nz with
  | true =>
    have h0 : 0 < name.size := by simpa using hz
    have hlen : (0 : Int) < name.size := by omega
    have hb := hf rfl h0
    clear hz hf
    go_enter Tryz.func43, Tryz.ntmps43
    go_wp2_with fail
    refine (HP.out).mono ?_
    rintro e w1 ⟨v, rfl, h⟩
    have H := hid h; clear h
    go_wp2_with fail
    go_ret2
    exact ⟨v, rfl, H.out⟩
  | false =>
    have hlen : ¬ (0 : Int) < name.size := by simpa using hz
    clear hz hf
    go_enter Tryz.func43, Tryz.ntmps43
    go_wp2_with fail
    refine (HP.out).mono ?_
    rintro e w1 ⟨v, rfl, h⟩
    have H := hid h; clear h
    go_wp2_with fail
    go_ret2
    exact ⟨v, rfl, H.out⟩

set_option maxHeartbeats 1000000 in
theorem rposix_turned (name : ByteArray) (w : World) (h0 : 0 < name.size) (hb : ((name[0].toNat : Int) == 94) = true) : Calls Tryz.prog 43 #[.string name] w (PropR w ((posL (name.data.toList.drop 1)).map fun l c => memR l c != true)) := by
  have hlen : (0 : Int) < name.size := by omega
  obtain ⟨s2, hs2⟩ : ∃ s2 : ByteArray, name.extract 1 name.size = s2 := ⟨_, rfl⟩
  have h2 : s2.data.toList = name.data.toList.drop 1 := by rw [← hs2, Lib.extract_data, List.take_of_length_le (by simp)]
  rw [← h2]
  have HP := hid (ref04_plain s2 w)
  have HG := hid (fun l (h : posL s2.data.toList = some l) => posL_good h)
  cases hp : posL s2.data.toList with
  | none =>
    rw [hp] at HP
    clear h2 hp HG
    go_enter Tryz.func43, Tryz.ntmps43
    go_wp2_with fail
    refine (HP.out).mono ?_
    rintro e w1 ⟨v, rfl, h, hb1⟩
    have H := hid hb1; clear h hb1
    go_wp2_with fail
    go_ret2
    exact ⟨_, [], rfl, World.ownsRow_nil _ _ _ _, rfl, by simp, H.out⟩
  | some l =>
    rw [hp] at HP
    obtain ⟨g1, g2⟩ := HG.out l hp
    have G1 := hid g1; have G2 := hid g2
    clear h2 hp HG g1 g2
    go_enter Tryz.func43, Tryz.ntmps43
    go_wp2_with fail
    refine (HP.out).mono ?_
    rintro e w1 ⟨v, rfl, h, hb1⟩
    simp only [Option.getD_some] at h
    obtain ⟨sa, sc, rfl, hr, _⟩ := h.ranges (by have := G2.out; omega)
    have HNOT := hid (ref02_Not l sa _ sc w1.heap.size w1 hr (Nat.le_refl _) (by have := G2.out; omega))
    have H := hid hb1; clear h hb1 hr
    go_wp2_with fail
    refine (HNOT.out).mono ?_
    rintro e w3 ⟨v3, o3, rfl, q1, q2, q3, q4, q5⟩
    have Q1 := hid q1; have Q2 := hid q2; have Q3 := hid q3; have Q4 := hid q4; have Q5 := hid q5
    clear q1 q2 q3 q4 q5
    go_wp2_with fail
    go_ret2
    exact SetOf.prop Q1.out Q2.out Q3.out Q4.out Q5.out H.out (by have := G2.out; omega) (fun c _ _ => by simp)

theorem ref04_Posix (name : ByteArray) (w : World) : Calls Tryz.prog 43 #[.string name] w (PropR w (posSpec name.data.toList)) := by
  unfold posSpec
  have hmk : Lib.hasPrefix name.data.toList [94] = false → (∀ h : 0 < name.size, ((name[0].toNat : Int) == 94) = false) → Calls Tryz.prog 43 #[.string name] w (PropR w ((posL (Lib.trimPrefix name.data.toList [94])).map fun l c => memR l c != Lib.hasPrefix name.data.toList [94])) := fun h1 h2 => by
    have h3 : Lib.trimPrefix name.data.toList [94] = name.data.toList := by unfold Lib.trimPrefix; rw [h1]; rfl
    rw [h3, h1]
    refine (rposix_plain name w _ rfl (fun _ h => h2 h)).mono ?_
    cases hp : posL name.data.toList with
    | none =>
      rintro e w1 ⟨v, rfl, h, hb⟩
      exact ⟨v, [], rfl, h, rfl, by simp, hb⟩
    | some l =>
      rintro e w1 ⟨v, rfl, h, hb⟩
      obtain ⟨g1, g2⟩ := posL_good hp
      exact ⟨v, l, rfl, h, (IsSet.of_right g1).congr (fun c _ _ => by simp), by omega, hb⟩
  by_cases h0 : 0 < name.size
  · have hl : name.data.toList = name[0] :: name.data.toList.drop 1 := by
      rw [← List.drop_zero (l := name.data.toList), List.drop_eq_getElem_cons (by simpa using h0)]
      simp
      rfl
    by_cases hb : name[0] = 94
    · have h1 : Lib.hasPrefix name.data.toList [94] = true := by rw [hl, hb]; rfl
      have h2 : Lib.trimPrefix name.data.toList [94] = name.data.toList.drop 1 := by unfold Lib.trimPrefix; rw [h1]; rfl
      have hb' : ((name[0].toNat : Int) == 94) = true := by rw [hb]; rfl
      rw [h1, h2]
      exact rposix_turned name w h0 hb'
    · have h1 : Lib.hasPrefix name.data.toList [94] = false := by
        rw [hl]
        simp [Lib.hasPrefix, List.isPrefixOf]
        exact fun e => hb e.symm
      exact hmk h1 fun _ => by
        rw [beq_eq_false_iff_ne]
        intro e
        have h9 : name[0].toNat = 94 := by omega
        exact hb (UInt8.toNat_inj.1 h9)
  · refine hmk ?_ fun h => absurd h h0
    have h8 : name.data.toList.length = name.size := by simp
    have h9 : name.data.toList = [] := List.length_eq_zero_iff.1 (by omega)
    rw [h9]; rfl

def RItemOut (w : World) (r : ItemR) (e : Ending) (w' : World) : Prop := Below w.heap.size w w' ∧ match r with
  | .wrong x f t => e = .returned (.tuple #[.slice none 0 0, .int .i64 0, .agg #[.int .i64 x, .int .i64 f, .int .i64 t]])
  | .ok f q => ∃ v out, e = .returned (.tuple #[v, .int .i64 q, .agg #[.int .i64 0, .int .i64 0, .int .i64 0]]) ∧ Laid w w' out v ∧ (∀ c, 0 ≤ c → c ≤ 1114111 → memR out c = f c) ∧ out.length ≤ 1000

theorem namedP_le {s : ByteArray} {p k : Nat} (h : namedP s p = some k) : p + 2 ≤ k ∧ k + 2 ≤ s.size := by
  unfold namedP at h
  by_cases c1 : stands s p [91, 58] = true
  · rw [if_pos c1] at h
    by_cases c2 : stands s (p + 2 + (runP s (p + 2) nmL).length) [58, 93] = true
    · rw [if_pos c2] at h
      cases h
      obtain ⟨h1, _⟩ := (stands_two s _ 58 93).1 c2
      omega
    · rw [if_neg c2] at h; cases h
  · rw [if_neg c1] at h; cases h
theorem endI_some {s : ByteArray} {p k : Nat} (h : namedP s p = some k) : endI s p = k := by unfold endI; rw [h]
theorem endI_none {s : ByteArray} {p : Nat} (h : namedP s p = none) : endI s p = -1 := by unfold endI; rw [h]
theorem laid_cells3 {w W : World} {out : List (Int × Int)} {v : Value} (h : Laid (w.alloc (.cells #[.int .i64 0, .int .i64 0, .int .i64 0] 27)) W out v) (x y z : Value) : Laid w (((W.setCell ⟨w.heap.size, 0, none⟩ x).setCell ⟨w.heap.size, 1, none⟩ y).setCell ⟨w.heap.size, 2, none⟩ z) out v :=
  Joins.ownsRow_le (ownsRow_setCellR (ownsRow_setCellR (ownsRow_setCellR h (by simp) _ _) (by simp) _ _) (by simp) _ _) (by simp)
theorem Laid.far {w0 w W : World} {out : List (Int × Int)} {v : Value} (h : Laid w W out v) (hb : w0.heap.size ≤ w.heap.size) : Laid w0 W out v := Joins.ownsRow_le h hb

set_option maxRecDepth 100000 in
set_option maxHeartbeats 2000000 in
theorem ritem_nambad (s : ByteArray) (p : Nat) (b : Bool) (w : World) (hs : s.size ≤ 100000000000) (k : Nat) (hn : namedP s p = some k) (hsp : posSpec ((s.data.toList.drop (p + 2)).take (k - (p + 2))) = none) :
    Calls Tryz.prog 24 #[.string s, .int .i64 p, .bool b] w (RItemOut w (.wrong 72 p (k + 2 : Nat))) := by
  have K0 := hid (Blk.new w [.int .i64 0, .int .i64 0, .int .i64 0] 27)
  have B0 := hid ((Below.refl w.heap.size w).alloc (Nat.le_refl _) (.cells #[.int .i64 0, .int .i64 0, .int .i64 0] 27))
  obtain ⟨l1, l2⟩ := namedP_le hn
  have HE := hid (endI_some hn)
  clear hn
  obtain ⟨nm, hnm⟩ : ∃ nm, s.extract (p + 2) k = nm := ⟨_, rfl⟩
  have hx : (s.data.toList.drop (p + 2)).take (k - (p + 2)) = nm.data.toList := by rw [← hnm, Lib.extract_data]
  rw [hx] at hsp
  have HP := hid (fun W => hsp ▸ ref04_Posix nm W)
  clear hx hsp
  go_enter Tryz.func24, Tryz.ntmps24
  go_wp2_with fail
  refine (ref07_end s p _ (by omega) hs).mono ?_
  rintro e w1 ⟨rfl, rfl⟩
  rw [HE.out]
  go_wp2_with fail
  refine (HP.out _).mono ?_
  rintro e w2 ⟨v, out, rfl, hL, hI, hl, hB⟩
  have K2 := hid (K0.out.below hB K0.out.lt); have B2 := hid (B0.out.trans (hB.mono B0.out.size))
  clear hB hL hI hl
  have k0 := Blk.cell K2.out (j := 0) rfl; have k1 := Blk.cell K2.out (j := 1) rfl; have k2 := Blk.cell K2.out (j := 2) rfl
  have f0 := K2.out.frozen 0; have f1 := K2.out.frozen 1; have f2 := K2.out.frozen 2
  go_wp2_with fail
  refine bodyPost_ret (v := .tuple #[.slice none 0 0, .int .i64 0, .agg #[.int .i64 72, .int .i64 p, .int .i64 (k + 2 : Nat)]]) ?_ rfl ⟨?_, rfl⟩
  · simp [results, Tryz.results24, go_sem, k0, k1, k2]
  · exact (((B2.out.setCell (by simp) _).setCell (by simp) _).setCell (by simp) _)

set_option maxRecDepth 100000 in
set_option maxHeartbeats 2000000 in
theorem ritem_named (s : ByteArray) (p : Nat) (b : Bool) (w : World) (hs : s.size ≤ 100000000000) (k : Nat) (hn : namedP s p = some k) (f : Int → Bool) (hsp : posSpec ((s.data.toList.drop (p + 2)).take (k - (p + 2))) = some f) :
    Calls Tryz.prog 24 #[.string s, .int .i64 p, .bool b] w (RItemOut w (.ok f (k + 2))) := by
  have K0 := hid (Blk.new w [.int .i64 0, .int .i64 0, .int .i64 0] 27)
  have B0 := hid ((Below.refl w.heap.size w).alloc (Nat.le_refl _) (.cells #[.int .i64 0, .int .i64 0, .int .i64 0] 27))
  obtain ⟨l1, l2⟩ := namedP_le hn
  have HE := hid (endI_some hn)
  clear hn
  obtain ⟨nm, hnm⟩ : ∃ nm, s.extract (p + 2) k = nm := ⟨_, rfl⟩
  have hx : (s.data.toList.drop (p + 2)).take (k - (p + 2)) = nm.data.toList := by rw [← hnm, Lib.extract_data]
  rw [hx] at hsp
  have HP := hid (fun W => hsp ▸ ref04_Posix nm W)
  clear hx hsp
  go_enter Tryz.func24, Tryz.ntmps24
  go_wp2_with fail
  refine (ref07_end s p _ (by omega) hs).mono ?_
  rintro e w1 ⟨rfl, rfl⟩
  rw [HE.out]
  go_wp2_with fail
  refine (HP.out _).mono ?_
  rintro e w2 ⟨v, out, rfl, hL, hI, hl, hB⟩
  have K2 := hid (K0.out.below hB K0.out.lt); have B2 := hid (B0.out.trans (hB.mono B0.out.size))
  have L2 := hid hL; have I2 := hid (show IsSet out f from hI); have N2 := hid hl
  clear hB hL hI hl
  have k0 := Blk.cell K2.out (j := 0) rfl; have k1 := Blk.cell K2.out (j := 1) rfl; have k2 := Blk.cell K2.out (j := 2) rfl
  have f0 := K2.out.frozen 0; have f1 := K2.out.frozen 1; have f2 := K2.out.frozen 2
  go_wp2_with fail
  refine bodyPost_ret (v := .tuple #[v, .int .i64 (k + 2 : Nat), .agg #[.int .i64 0, .int .i64 0, .int .i64 0]]) ?_ rfl ⟨?_, v, out, rfl, ?_, ?_, N2.out⟩
  · simp [results, Tryz.results24, go_sem, k0, k1, k2]
  · exact (((B2.out.setCell (by simp) _).setCell (by simp) _).setCell (by simp) _)
  · exact laid_cells3 L2.out _ _ _
  · exact fun c h0 h1 => by rw [I2.out.2, decide_eq_true h0, decide_eq_true h1]; rfl

set_option maxRecDepth 100000 in
set_option maxHeartbeats 2000000 in
theorem ritem_wrong (s : ByteArray) (p : Nat) (b : Bool) (w : World) (hs : s.size ≤ 100000000000) (hT : Tabs w) (hp : p < s.size) (hn : namedP s p = none) (x f t : Int) (ho : oneP s p b = .wrong x f t) (hx : x ≠ 0) :
    Calls Tryz.prog 24 #[.string s, .int .i64 p, .bool b] w (RItemOut w (.wrong x f t)) := by
  have K0 := hid (Blk.new w [.int .i64 0, .int .i64 0, .int .i64 0] 27)
  have B0 := hid ((Below.refl w.heap.size w).alloc (Nat.le_refl _) (.cells #[.int .i64 0, .int .i64 0, .int .i64 0] 27))
  have hx' : (x != 0) = true := by rw [bne_iff_ne]; exact hx
  have HE := hid (endI_none hn)
  have T0 := hid (hT.alloc (.cells #[.int .i64 0, .int .i64 0, .int .i64 0] 27))
  have HO := hid (fun W (h : Tabs W) => ho ▸ ref07_one s p b W h (by omega) hp)
  clear hn ho hT
  go_enter Tryz.func24, Tryz.ntmps24
  go_wp2_with fail
  refine (ref07_end s p _ (by omega) hs).mono ?_
  rintro e w1 ⟨rfl, rfl⟩
  rw [HE.out]
  go_wp2_with fail
  refine (HO.out _ T0.out).mono ?_
  rintro e w2 ⟨rfl, hB⟩
  have K2 := hid (K0.out.below hB K0.out.lt); have B2 := hid (B0.out.trans (hB.mono B0.out.size)); have T2 := hid (T0.out.below hB)
  clear hB
  simp only [escT]
  have K4 := hid ((K2.out.alloc (.cells #[.int .i64 0, .int .i32 0, .slice none 0 0, .int .i64 0] 64)).alloc (.cells #[.int .i64 x, .int .i64 f, .int .i64 t] 27))
  have B4 := hid ((B2.out.alloc B2.out.size (.cells #[.int .i64 0, .int .i32 0, .slice none 0 0, .int .i64 0] 64)).alloc (by have := B2.out.size; simp; omega) (.cells #[.int .i64 x, .int .i64 f, .int .i64 t] 27))
  have k0 := Blk.cell K4.out (j := 0) rfl; have k1 := Blk.cell K4.out (j := 1) rfl; have k2 := Blk.cell K4.out (j := 2) rfl
  have f0 := K4.out.frozen 0; have f1 := K4.out.frozen 1; have f2 := K4.out.frozen 2
  go_wp2_with fail
  have N4 := Blk.new (w2.alloc (.cells #[.int .i64 0, .int .i32 0, .slice none 0 0, .int .i64 0] 64)) [.int .i64 x, .int .i64 f, .int .i64 t] 27
  simp only [World.size_alloc] at N4
  change Blk ((w2.alloc (.cells #[.int .i64 0, .int .i32 0, .slice none 0 0, .int .i64 0] 64)).alloc (.cells #[.int .i64 x, .int .i64 f, .int .i64 t] 27)) _ _ _ at N4
  have hne : w.heap.size ≠ w2.heap.size + 1 := by have := K2.out.lt; omega
  generalize (w2.alloc (.cells #[.int .i64 0, .int .i32 0, .slice none 0 0, .int .i64 0] 64)).alloc (.cells #[.int .i64 x, .int .i64 f, .int .i64 t] 27) = W4 at N4 K4 B4 k0 k1 k2 f0 f1 f2 ⊢
  generalize w2.heap.size + 1 = X at N4 hne ⊢
  have n0 := Blk.cell N4 (j := 0) rfl; have n1 := Blk.cell N4 (j := 1) rfl; have n2 := Blk.cell N4 (j := 2) rfl
  have HN4 := hid N4; clear N4
  go_region
  all_goals
    go_wp2_with fail
    refine bodyPost_ret (v := .tuple #[.slice none 0 0, .int .i64 0, .agg #[.int .i64 x, .int .i64 f, .int .i64 t]]) ?_ rfl ⟨?_, rfl⟩
    · simp [results, Tryz.results24, go_sem, k0, k1, k2]
    · exact ((((B4.out.setCell (by simp) _).setCell (by simp) _).setCell (by simp) _)).drew

set_option maxRecDepth 100000 in
set_option maxHeartbeats 2000000 in
theorem ritem_set (s : ByteArray) (p : Nat) (b : Bool) (w : World) (hs : s.size ≤ 100000000000) (hT : Tabs w) (hp : p < s.size) (hn : namedP s p = none) (f : Int → Bool) (Q : Nat) (ho : oneP s p b = .set f Q) :
    Calls Tryz.prog 24 #[.string s, .int .i64 p, .bool b] w (RItemOut w (.ok f Q)) := by
  have K0 := hid (Blk.new w [.int .i64 0, .int .i64 0, .int .i64 0] 27)
  have B0 := hid ((Below.refl w.heap.size w).alloc (Nat.le_refl _) (.cells #[.int .i64 0, .int .i64 0, .int .i64 0] 27))
  have HE := hid (endI_none hn)
  have T0 := hid (hT.alloc (.cells #[.int .i64 0, .int .i64 0, .int .i64 0] 27))
  have HO := hid (fun W (h : Tabs W) => ho ▸ ref07_one s p b W h (by omega) hp)
  clear hn ho hT
  go_enter Tryz.func24, Tryz.ntmps24
  go_wp2_with fail
  refine (ref07_end s p _ (by omega) hs).mono ?_
  rintro e w1 ⟨rfl, rfl⟩
  rw [HE.out]
  go_wp2_with fail
  refine (HO.out _ T0.out).mono ?_
  rintro e w2 ⟨v, out, rfl, hL, hI, hl, hB⟩
  obtain ⟨sa, sc, rfl, _, _⟩ := hL.ranges (by omega)
  have L2 := hid hL; have I2 := hid hI; have N2 := hid hl
  have K2 := hid (K0.out.below hB K0.out.lt); have B2 := hid (B0.out.trans (hB.mono B0.out.size)); have T2 := hid (T0.out.below hB)
  clear hB hL hI hl
  simp only [escT]
  have K4 := hid ((K2.out.alloc (.cells #[.int .i64 2, .int .i32 0, .slice sa out.length sc, .int .i64 0] 64)).alloc (.cells #[.int .i64 0, .int .i64 0, .int .i64 0] 27))
  have B4 := hid ((B2.out.alloc B2.out.size (.cells #[.int .i64 2, .int .i32 0, .slice sa out.length sc, .int .i64 0] 64)).alloc (by have := B2.out.size; simp; omega) (.cells #[.int .i64 0, .int .i64 0, .int .i64 0] 27))
  have L4 := hid (World.ownsRow.alloc (World.ownsRow.alloc L2.out (.cells #[.int .i64 2, .int .i32 0, .slice sa out.length sc, .int .i64 0] 64)) (.cells #[.int .i64 0, .int .i64 0, .int .i64 0] 27))
  have k0 := Blk.cell K4.out (j := 0) rfl; have k1 := Blk.cell K4.out (j := 1) rfl; have k2 := Blk.cell K4.out (j := 2) rfl
  have f0 := K4.out.frozen 0; have f1 := K4.out.frozen 1; have f2 := K4.out.frozen 2
  go_wp2_with fail
  refine bodyPost_ret (v := .tuple #[.slice sa out.length sc, .int .i64 Q, .agg #[.int .i64 0, .int .i64 0, .int .i64 0]]) ?_ rfl ⟨?_, _, out, rfl, ?_, ?_, N2.out⟩
  · simp [results, Tryz.results24, go_sem, k0, k1, k2]
  · exact (((B4.out.setCell (by simp) _).setCell (by simp) _).setCell (by simp) _)
  · exact laid_cells3 L4.out _ _ _
  · exact fun c h0 h1 => by rw [I2.out.2, decide_eq_true h0, decide_eq_true h1]; rfl

set_option maxRecDepth 100000 in
set_option maxHeartbeats 2000000 in
theorem ritem_kind (s : ByteArray) (p : Nat) (b : Bool) (w : World) (hs : s.size ≤ 100000000000) (hT : Tabs w) (hp : p < s.size) (hn : namedP s p = none) (k r a : Int) (Q : Nat) (ho : oneP s p b = .lit k r a Q) (hk : k ≠ 1) (hk2 : k ≠ 2) :
    Calls Tryz.prog 24 #[.string s, .int .i64 p, .bool b] w (RItemOut w (.wrong 72 p Q)) := by
  have K0 := hid (Blk.new w [.int .i64 0, .int .i64 0, .int .i64 0] 27)
  have B0 := hid ((Below.refl w.heap.size w).alloc (Nat.le_refl _) (.cells #[.int .i64 0, .int .i64 0, .int .i64 0] 27))
  have k1' : (k == 2) = false := beq_eq_false_iff_ne.2 hk2
  have k2' : (k != 1) = true := bne_iff_ne.2 hk
  have HE := hid (endI_none hn)
  have T0 := hid (hT.alloc (.cells #[.int .i64 0, .int .i64 0, .int .i64 0] 27))
  have HO := hid (fun W (h : Tabs W) => ho ▸ ref07_one s p b W h (by omega) hp)
  clear hn ho hT
  go_enter Tryz.func24, Tryz.ntmps24
  go_wp2_with fail
  refine (ref07_end s p _ (by omega) hs).mono ?_
  rintro e w1 ⟨rfl, rfl⟩
  rw [HE.out]
  go_wp2_with fail
  refine (HO.out _ T0.out).mono ?_
  rintro e w2 ⟨rfl, hB⟩
  have K2 := hid (K0.out.below hB K0.out.lt); have B2 := hid (B0.out.trans (hB.mono B0.out.size)); have T2 := hid (T0.out.below hB)
  clear hB
  simp only [escT]
  have K4 := hid ((K2.out.alloc (.cells #[.int .i64 k, .int .i32 r, .slice none 0 0, .int .i64 a] 64)).alloc (.cells #[.int .i64 0, .int .i64 0, .int .i64 0] 27))
  have B4 := hid ((B2.out.alloc B2.out.size (.cells #[.int .i64 k, .int .i32 r, .slice none 0 0, .int .i64 a] 64)).alloc (by have := B2.out.size; simp; omega) (.cells #[.int .i64 0, .int .i64 0, .int .i64 0] 27))
  have k0 := Blk.cell K4.out (j := 0) rfl; have k1 := Blk.cell K4.out (j := 1) rfl; have k2 := Blk.cell K4.out (j := 2) rfl
  have f0 := K4.out.frozen 0; have f1 := K4.out.frozen 1; have f2 := K4.out.frozen 2
  go_wp2_with fail
  refine bodyPost_ret (v := .tuple #[.slice none 0 0, .int .i64 0, .agg #[.int .i64 72, .int .i64 p, .int .i64 Q]]) ?_ rfl ⟨?_, rfl⟩
  · simp [results, Tryz.results24, go_sem, k0, k1, k2]
  · exact (((B4.out.setCell (by simp) _).setCell (by simp) _).setCell (by simp) _)

set_option maxRecDepth 100000 in
set_option maxHeartbeats 2000000 in
theorem ritem_last (s : ByteArray) (p : Nat) (b : Bool) (w : World) (hs : s.size ≤ 100000000000) (hT : Tabs w) (hp : p < s.size) (hn : namedP s p = none) (r a : Int) (Q : Nat) (ho : oneP s p b = .lit 1 r a Q) (hQ : Q ≤ s.size) (hl : s.size ≤ Q + 1) :
    Calls Tryz.prog 24 #[.string s, .int .i64 p, .bool b] w (RItemOut w (.ok (fun c => decide (r ≤ c) && decide (c ≤ r)) Q)) := by
  have K0 := hid (Blk.new w [.int .i64 0, .int .i64 0, .int .i64 0] 27)
  have B0 := hid ((Below.refl w.heap.size w).alloc (Nat.le_refl _) (.cells #[.int .i64 0, .int .i64 0, .int .i64 0] 27))
  have g1 : (s.size : Int) ≤ (Q : Int) + 1 := by omega
  have HE := hid (endI_none hn)
  have T0 := hid (hT.alloc (.cells #[.int .i64 0, .int .i64 0, .int .i64 0] 27))
  have HO := hid (fun W (h : Tabs W) => ho ▸ ref07_one s p b W h (by omega) hp)
  clear hn ho hT
  go_enter Tryz.func24, Tryz.ntmps24
  go_wp2_with fail
  refine (ref07_end s p _ (by omega) hs).mono ?_
  rintro e w1 ⟨rfl, rfl⟩
  rw [HE.out]
  go_wp2_with fail
  refine (HO.out _ T0.out).mono ?_
  rintro e w2 ⟨rfl, hB⟩
  have K2 := hid (K0.out.below hB K0.out.lt); have B2 := hid (B0.out.trans (hB.mono B0.out.size)); have T2 := hid (T0.out.below hB)
  clear hB
  simp only [escT]
  have K4 := hid ((K2.out.alloc (.cells #[.int .i64 1, .int .i32 r, .slice none 0 0, .int .i64 a] 64)).alloc (.cells #[.int .i64 0, .int .i64 0, .int .i64 0] 27))
  have B4 := hid ((B2.out.alloc B2.out.size (.cells #[.int .i64 1, .int .i32 r, .slice none 0 0, .int .i64 a] 64)).alloc (by have := B2.out.size; simp; omega) (.cells #[.int .i64 0, .int .i64 0, .int .i64 0] 27))
  have K5 := hid (K4.out.alloc (.cells #[.int .i32 r, .int .i32 r] 43))
  have B5 := hid (B4.out.alloc B4.out.size (.cells #[.int .i32 r, .int .i32 r] 43))
  have L5 := Laid.lit ((w2.alloc (.cells #[.int .i64 1, .int .i32 r, .slice none 0 0, .int .i64 a] 64)).alloc (.cells #[.int .i64 0, .int .i64 0, .int .i64 0] 27)) [(r, r)] (flatR [(r, r)]).toArray rfl (show (1 : Nat) ≤ maxLen by decide)
  simp only [World.size_alloc] at L5
  have L6 := hid (Laid.far (w0 := w.alloc (.cells #[.int .i64 0, .int .i64 0, .int .i64 0] 27)) L5 (by have := K2.out.lt; simp; omega)); clear L5
  have k0 := Blk.cell K5.out (j := 0) rfl; have k1 := Blk.cell K5.out (j := 1) rfl; have k2 := Blk.cell K5.out (j := 2) rfl
  have f0 := K5.out.frozen 0; have f1 := K5.out.frozen 1; have f2 := K5.out.frozen 2
  go_wp2_with fail
  refine bodyPost_ret (v := .tuple #[.slice (some ⟨w2.heap.size + 1 + 1, 0, none⟩) 1 1, .int .i64 Q, .agg #[.int .i64 0, .int .i64 0, .int .i64 0]]) ?_ rfl ⟨?_, _, [(r, r)], rfl, ?_, ?_, show (1 : Nat) ≤ 1000 by decide⟩
  · simp [results, Tryz.results24, go_sem, k0, k1, k2]
  · exact (((B5.out.setCell (by simp) _).setCell (by simp) _).setCell (by simp) _)
  · exact laid_cells3 L6.out _ _ _
  · exact fun c _ _ => memR_one (r, r) c

set_option maxRecDepth 100000 in
set_option maxHeartbeats 2000000 in
theorem ritem_other (s : ByteArray) (p : Nat) (b : Bool) (w : World) (hs : s.size ≤ 100000000000) (hT : Tabs w) (hp : p < s.size) (hn : namedP s p = none) (r a : Int) (Q : Nat) (ho : oneP s p b = .lit 1 r a Q) (_ : Q ≤ s.size) (hl : Q + 1 < s.size) (h45 : ¬ s[Q] = 45) :
    Calls Tryz.prog 24 #[.string s, .int .i64 p, .bool b] w (RItemOut w (.ok (fun c => decide (r ≤ c) && decide (c ≤ r)) Q)) := by
  have K0 := hid (Blk.new w [.int .i64 0, .int .i64 0, .int .i64 0] 27)
  have B0 := hid ((Below.refl w.heap.size w).alloc (Nat.le_refl _) (.cells #[.int .i64 0, .int .i64 0, .int .i64 0] 27))
  have g1 : (Q : Int) + 1 < (s.size : Int) := by omega
  have g2 : ((s[Q].toNat : Int) != 45) = true := by rw [bne_iff_ne]; have := u8_ne h45; have h9 : (45 : UInt8).toNat = 45 := rfl; omega
  clear h45
  have HE := hid (endI_none hn)
  have T0 := hid (hT.alloc (.cells #[.int .i64 0, .int .i64 0, .int .i64 0] 27))
  have HO := hid (fun W (h : Tabs W) => ho ▸ ref07_one s p b W h (by omega) hp)
  clear hn ho hT
  go_enter Tryz.func24, Tryz.ntmps24
  go_wp2_with fail
  refine (ref07_end s p _ (by omega) hs).mono ?_
  rintro e w1 ⟨rfl, rfl⟩
  rw [HE.out]
  go_wp2_with fail
  refine (HO.out _ T0.out).mono ?_
  rintro e w2 ⟨rfl, hB⟩
  have K2 := hid (K0.out.below hB K0.out.lt); have B2 := hid (B0.out.trans (hB.mono B0.out.size)); have T2 := hid (T0.out.below hB)
  clear hB
  simp only [escT]
  have K4 := hid ((K2.out.alloc (.cells #[.int .i64 1, .int .i32 r, .slice none 0 0, .int .i64 a] 64)).alloc (.cells #[.int .i64 0, .int .i64 0, .int .i64 0] 27))
  have B4 := hid ((B2.out.alloc B2.out.size (.cells #[.int .i64 1, .int .i32 r, .slice none 0 0, .int .i64 a] 64)).alloc (by have := B2.out.size; simp; omega) (.cells #[.int .i64 0, .int .i64 0, .int .i64 0] 27))
  have K5 := hid (K4.out.alloc (.cells #[.int .i32 r, .int .i32 r] 43))
  have B5 := hid (B4.out.alloc B4.out.size (.cells #[.int .i32 r, .int .i32 r] 43))
  have L5 := Laid.lit ((w2.alloc (.cells #[.int .i64 1, .int .i32 r, .slice none 0 0, .int .i64 a] 64)).alloc (.cells #[.int .i64 0, .int .i64 0, .int .i64 0] 27)) [(r, r)] (flatR [(r, r)]).toArray rfl (show (1 : Nat) ≤ maxLen by decide)
  simp only [World.size_alloc] at L5
  have L6 := hid (Laid.far (w0 := w.alloc (.cells #[.int .i64 0, .int .i64 0, .int .i64 0] 27)) L5 (by have := K2.out.lt; simp; omega)); clear L5
  have k0 := Blk.cell K5.out (j := 0) rfl; have k1 := Blk.cell K5.out (j := 1) rfl; have k2 := Blk.cell K5.out (j := 2) rfl
  have f0 := K5.out.frozen 0; have f1 := K5.out.frozen 1; have f2 := K5.out.frozen 2
  go_wp2_with fail
  refine bodyPost_ret (v := .tuple #[.slice (some ⟨w2.heap.size + 1 + 1, 0, none⟩) 1 1, .int .i64 Q, .agg #[.int .i64 0, .int .i64 0, .int .i64 0]]) ?_ rfl ⟨?_, _, [(r, r)], rfl, ?_, ?_, show (1 : Nat) ≤ 1000 by decide⟩
  · simp [results, Tryz.results24, go_sem, k0, k1, k2]
  · exact (((B5.out.setCell (by simp) _).setCell (by simp) _).setCell (by simp) _)
  · exact laid_cells3 L6.out _ _ _
  · exact fun c _ _ => memR_one (r, r) c

set_option maxRecDepth 100000 in
set_option maxHeartbeats 2000000 in
theorem ritem_shut (s : ByteArray) (p : Nat) (b : Bool) (w : World) (hs : s.size ≤ 100000000000) (hT : Tabs w) (hp : p < s.size) (hn : namedP s p = none) (r a : Int) (Q : Nat) (ho : oneP s p b = .lit 1 r a Q) (_ : Q ≤ s.size) (hl : Q + 1 < s.size) (h45 : s[Q] = 45) (h93 : s[Q + 1] = 93) :
    Calls Tryz.prog 24 #[.string s, .int .i64 p, .bool b] w (RItemOut w (.ok (fun c => decide (r ≤ c) && decide (c ≤ r)) Q)) := by
  have K0 := hid (Blk.new w [.int .i64 0, .int .i64 0, .int .i64 0] 27)
  have B0 := hid ((Below.refl w.heap.size w).alloc (Nat.le_refl _) (.cells #[.int .i64 0, .int .i64 0, .int .i64 0] 27))
  have g1 : (Q : Int) + 1 < (s.size : Int) := by omega
  have g2 : ((s[Q].toNat : Int) != 45) = false := by rw [h45]; rfl
  have g3 : ((s[Q + 1].toNat : Int) == 93) = true := by rw [h93]; rfl
  clear h45 h93
  have HE := hid (endI_none hn)
  have T0 := hid (hT.alloc (.cells #[.int .i64 0, .int .i64 0, .int .i64 0] 27))
  have HO := hid (fun W (h : Tabs W) => ho ▸ ref07_one s p b W h (by omega) hp)
  clear hn ho hT
  go_enter Tryz.func24, Tryz.ntmps24
  go_wp2_with fail
  refine (ref07_end s p _ (by omega) hs).mono ?_
  rintro e w1 ⟨rfl, rfl⟩
  rw [HE.out]
  go_wp2_with fail
  refine (HO.out _ T0.out).mono ?_
  rintro e w2 ⟨rfl, hB⟩
  have K2 := hid (K0.out.below hB K0.out.lt); have B2 := hid (B0.out.trans (hB.mono B0.out.size)); have T2 := hid (T0.out.below hB)
  clear hB
  simp only [escT]
  have K4 := hid ((K2.out.alloc (.cells #[.int .i64 1, .int .i32 r, .slice none 0 0, .int .i64 a] 64)).alloc (.cells #[.int .i64 0, .int .i64 0, .int .i64 0] 27))
  have B4 := hid ((B2.out.alloc B2.out.size (.cells #[.int .i64 1, .int .i32 r, .slice none 0 0, .int .i64 a] 64)).alloc (by have := B2.out.size; simp; omega) (.cells #[.int .i64 0, .int .i64 0, .int .i64 0] 27))
  have K5 := hid (K4.out.alloc (.cells #[.int .i32 r, .int .i32 r] 43))
  have B5 := hid (B4.out.alloc B4.out.size (.cells #[.int .i32 r, .int .i32 r] 43))
  have L5 := Laid.lit ((w2.alloc (.cells #[.int .i64 1, .int .i32 r, .slice none 0 0, .int .i64 a] 64)).alloc (.cells #[.int .i64 0, .int .i64 0, .int .i64 0] 27)) [(r, r)] (flatR [(r, r)]).toArray rfl (show (1 : Nat) ≤ maxLen by decide)
  simp only [World.size_alloc] at L5
  have L6 := hid (Laid.far (w0 := w.alloc (.cells #[.int .i64 0, .int .i64 0, .int .i64 0] 27)) L5 (by have := K2.out.lt; simp; omega)); clear L5
  have k0 := Blk.cell K5.out (j := 0) rfl; have k1 := Blk.cell K5.out (j := 1) rfl; have k2 := Blk.cell K5.out (j := 2) rfl
  have f0 := K5.out.frozen 0; have f1 := K5.out.frozen 1; have f2 := K5.out.frozen 2
  go_wp2_with fail
  refine bodyPost_ret (v := .tuple #[.slice (some ⟨w2.heap.size + 1 + 1, 0, none⟩) 1 1, .int .i64 Q, .agg #[.int .i64 0, .int .i64 0, .int .i64 0]]) ?_ rfl ⟨?_, _, [(r, r)], rfl, ?_, ?_, show (1 : Nat) ≤ 1000 by decide⟩
  · simp [results, Tryz.results24, go_sem, k0, k1, k2]
  · exact (((B5.out.setCell (by simp) _).setCell (by simp) _).setCell (by simp) _)
  · exact laid_cells3 L6.out _ _ _
  · exact fun c _ _ => memR_one (r, r) c

set_option maxRecDepth 100000 in
set_option maxHeartbeats 2000000 in
theorem ritem_wrong2 (s : ByteArray) (p : Nat) (b : Bool) (w : World) (hs : s.size ≤ 100000000000) (hT : Tabs w) (hp : p < s.size) (hn : namedP s p = none) (r a : Int) (Q : Nat) (ho : oneP s p b = .lit 1 r a Q) (hl : Q + 1 < s.size) (h45 : s[Q] = 45) (h93 : ¬ s[Q + 1] = 93) (x f t : Int) (ho2 : oneP s (Q + 1) b = .wrong x f t) (hx : x ≠ 0) :
    Calls Tryz.prog 24 #[.string s, .int .i64 p, .bool b] w (RItemOut w (.wrong x f t)) := by
  have hx' : (x != 0) = true := by rw [bne_iff_ne]; exact hx
  have K0 := hid (Blk.new w [.int .i64 0, .int .i64 0, .int .i64 0] 27)
  have B0 := hid ((Below.refl w.heap.size w).alloc (Nat.le_refl _) (.cells #[.int .i64 0, .int .i64 0, .int .i64 0] 27))
  have g1 : (Q : Int) + 1 < (s.size : Int) := by omega
  have g2 : ((s[Q].toNat : Int) != 45) = false := by rw [h45]; rfl
  have g3 : ((s[Q + 1].toNat : Int) == 93) = false := by rw [beq_eq_false_iff_ne]; have := u8_ne h93; have h9 : (93 : UInt8).toNat = 93 := rfl; omega
  have HO2 := hid (fun W (h : Tabs W) => ho2 ▸ ref07_one s (Q + 1) b W h (by omega) hl)
  clear h45 h93 ho2
  have HE := hid (endI_none hn)
  have T0 := hid (hT.alloc (.cells #[.int .i64 0, .int .i64 0, .int .i64 0] 27))
  have HO := hid (fun W (h : Tabs W) => ho ▸ ref07_one s p b W h (by omega) hp)
  clear hn ho hT
  go_enter Tryz.func24, Tryz.ntmps24
  go_wp2_with fail
  refine (ref07_end s p _ (by omega) hs).mono ?_
  rintro e w1 ⟨rfl, rfl⟩
  rw [HE.out]
  go_wp2_with fail
  refine (HO.out _ T0.out).mono ?_
  rintro e w2 ⟨rfl, hB⟩
  have K2 := hid (K0.out.below hB K0.out.lt); have B2 := hid (B0.out.trans (hB.mono B0.out.size)); have T2 := hid (T0.out.below hB)
  clear hB
  simp only [escT]
  have K4 := hid ((K2.out.alloc (.cells #[.int .i64 1, .int .i32 r, .slice none 0 0, .int .i64 a] 64)).alloc (.cells #[.int .i64 0, .int .i64 0, .int .i64 0] 27))
  have B4 := hid ((B2.out.alloc B2.out.size (.cells #[.int .i64 1, .int .i32 r, .slice none 0 0, .int .i64 a] 64)).alloc (by have := B2.out.size; simp; omega) (.cells #[.int .i64 0, .int .i64 0, .int .i64 0] 27))
  have T4 := hid ((T2.out.alloc (.cells #[.int .i64 1, .int .i32 r, .slice none 0 0, .int .i64 a] 64)).alloc (.cells #[.int .i64 0, .int .i64 0, .int .i64 0] 27))
  go_wp2_with fail
  have E4 := (Blk.new w2 [.int .i64 1, .int .i32 r, .slice none 0 0, .int .i64 a] 64).alloc (.cells #[.int .i64 0, .int .i64 0, .int .i64 0] 27)
  have N4 := Blk.new (w2.alloc (.cells #[.int .i64 1, .int .i32 r, .slice none 0 0, .int .i64 a] 64)) [.int .i64 0, .int .i64 0, .int .i64 0] 27
  simp only [World.size_alloc] at N4
  change Blk ((w2.alloc (.cells #[.int .i64 1, .int .i32 r, .slice none 0 0, .int .i64 a] 64)).alloc (.cells #[.int .i64 0, .int .i64 0, .int .i64 0] 27)) _ _ _ at N4
  change Blk ((w2.alloc (.cells #[.int .i64 1, .int .i32 r, .slice none 0 0, .int .i64 a] 64)).alloc (.cells #[.int .i64 0, .int .i64 0, .int .i64 0] 27)) _ _ _ at E4
  have d1 : w.heap.size ≠ w2.heap.size + 1 := by have := K2.out.lt; omega
  have d2 : w.heap.size ≠ w2.heap.size := by have := K2.out.lt; omega
  have d3 : w2.heap.size ≠ w2.heap.size + 1 := by omega
  have lX : w.heap.size ≤ w2.heap.size + 1 := by have := K2.out.lt; omega
  have lY : w.heap.size ≤ w2.heap.size := by have := K2.out.lt; omega
  generalize (w2.alloc (.cells #[.int .i64 1, .int .i32 r, .slice none 0 0, .int .i64 a] 64)).alloc (.cells #[.int .i64 0, .int .i64 0, .int .i64 0] 27) = W4 at E4 N4 K4 B4 T4 ⊢
  generalize w2.heap.size + 1 = X at N4 d1 d3 lX ⊢
  generalize w2.heap.size = Y at E4 d2 d3 lY ⊢
  have HE4 := hid E4; have HN4 := hid N4; clear E4 N4
  refine (HO2.out _ T4.out).mono ?_
  rintro e w5 ⟨rfl, hB5⟩
  have K6 := hid ((K4.out.below hB5 K4.out.lt).alloc (.cells #[.int .i64 0, .int .i32 0, .slice none 0 0, .int .i64 0] 64)); have Y6 := hid ((HE4.out.below hB5 HE4.out.lt).alloc (.cells #[.int .i64 0, .int .i32 0, .slice none 0 0, .int .i64 0] 64)); have N6 := hid ((HN4.out.below hB5 HN4.out.lt).alloc (.cells #[.int .i64 0, .int .i32 0, .slice none 0 0, .int .i64 0] 64))
  have B5 := hid (B4.out.trans (hB5.mono B4.out.size))
  have B6 := hid (B5.out.alloc B5.out.size (.cells #[.int .i64 0, .int .i32 0, .slice none 0 0, .int .i64 0] 64))
  have lX0 : w.heap.size ≤ (⟨X, 0, none⟩ : Addr).block := lX; have lX1 : w.heap.size ≤ (⟨X, 1, none⟩ : Addr).block := lX; have lX2 : w.heap.size ≤ (⟨X, 2, none⟩ : Addr).block := lX
  have V5 := hB5.size
  have VK := K4.out.lt; have VY := HE4.out.lt; have VN := HN4.out.lt
  clear hB5
  simp only [escT]
  have k0 := Blk.cell K6.out (j := 0) rfl; have k1 := Blk.cell K6.out (j := 1) rfl; have k2 := Blk.cell K6.out (j := 2) rfl
  have f0 := K6.out.frozen 0; have f1 := K6.out.frozen 1; have f2 := K6.out.frozen 2
  have n0 := Blk.cell N6.out (j := 0) rfl; have n1 := Blk.cell N6.out (j := 1) rfl; have n2 := Blk.cell N6.out (j := 2) rfl
  have m0 := N6.out.frozen 0; have m1 := N6.out.frozen 1; have m2 := N6.out.frozen 2
  have y0 := Blk.cell Y6.out (j := 0) rfl; have y1 := Blk.cell Y6.out (j := 1) rfl
  go_wp2_with fail
  have K7 := hid (((K6.out.setCell_other (a := ⟨X, 0, none⟩) d1 (.int .i64 x)).setCell_other (a := ⟨X, 1, none⟩) d1 (.int .i64 f)).setCell_other (a := ⟨X, 2, none⟩) d1 (.int .i64 t))
  have N7 := hid (((N6.out.set 0 (.int .i64 x)).set 1 (.int .i64 f)).set 2 (.int .i64 t))
  have B7 := hid (((B6.out.setCell (p := ⟨X, 0, none⟩) lX0 (.int .i64 x)).setCell (p := ⟨X, 1, none⟩) lX1 (.int .i64 f)).setCell (p := ⟨X, 2, none⟩) lX2 (.int .i64 t))
  clear k0 k1 k2 f0 f1 f2 n0 n1 n2 m0 m1 m2 y0 y1
  generalize ((((w5.alloc (.cells #[.int .i64 0, .int .i32 0, .slice none 0 0, .int .i64 0] 64)).setCell ⟨X, 0, none⟩ (.int .i64 x)).setCell ⟨X, 1, none⟩ (.int .i64 f)).setCell ⟨X, 2, none⟩ (.int .i64 t)) = W7 at K7 N7 B7 ⊢
  have k0 := Blk.cell K7.out (j := 0) rfl; have k1 := Blk.cell K7.out (j := 1) rfl; have k2 := Blk.cell K7.out (j := 2) rfl
  have f0 := K7.out.frozen 0; have f1 := K7.out.frozen 1; have f2 := K7.out.frozen 2
  have n0 := Blk.cell N7.out (j := 0) rfl; have n1 := Blk.cell N7.out (j := 1) rfl; have n2 := Blk.cell N7.out (j := 2) rfl
  have m0 := N7.out.frozen 0; have m1 := N7.out.frozen 1; have m2 := N7.out.frozen 2
  go_region
  all_goals
    go_wp2_with fail
    refine bodyPost_ret (v := .tuple #[.slice none 0 0, .int .i64 0, .agg #[.int .i64 x, .int .i64 f, .int .i64 t]]) ?_ rfl ⟨?_, rfl⟩
    · simp [results, Tryz.results24, go_sem, k0, k1, k2]
    · exact ((((B7.out.setCell (by simp) _).setCell (by simp) _).setCell (by simp) _)).drew

set_option maxRecDepth 100000 in
set_option maxHeartbeats 2000000 in
theorem ritem_kind2 (s : ByteArray) (p : Nat) (b : Bool) (w : World) (hs : s.size ≤ 100000000000) (hT : Tabs w) (hp : p < s.size) (hn : namedP s p = none) (r a : Int) (Q : Nat) (ho : oneP s p b = .lit 1 r a Q) (hl : Q + 1 < s.size) (h45 : s[Q] = 45) (h93 : ¬ s[Q + 1] = 93) (kk rr aa : Int) (Q2 : Nat) (ho2 : oneP s (Q + 1) b = .lit kk rr aa Q2) (hk : kk ≠ 1) :
    Calls Tryz.prog 24 #[.string s, .int .i64 p, .bool b] w (RItemOut w (.wrong 72 p Q2)) := by
  have hk' : (kk != 1) = true := bne_iff_ne.2 hk
  have K0 := hid (Blk.new w [.int .i64 0, .int .i64 0, .int .i64 0] 27)
  have B0 := hid ((Below.refl w.heap.size w).alloc (Nat.le_refl _) (.cells #[.int .i64 0, .int .i64 0, .int .i64 0] 27))
  have g1 : (Q : Int) + 1 < (s.size : Int) := by omega
  have g2 : ((s[Q].toNat : Int) != 45) = false := by rw [h45]; rfl
  have g3 : ((s[Q + 1].toNat : Int) == 93) = false := by rw [beq_eq_false_iff_ne]; have := u8_ne h93; have h9 : (93 : UInt8).toNat = 93 := rfl; omega
  have HO2 := hid (fun W (h : Tabs W) => ho2 ▸ ref07_one s (Q + 1) b W h (by omega) hl)
  clear h45 h93 ho2
  have HE := hid (endI_none hn)
  have T0 := hid (hT.alloc (.cells #[.int .i64 0, .int .i64 0, .int .i64 0] 27))
  have HO := hid (fun W (h : Tabs W) => ho ▸ ref07_one s p b W h (by omega) hp)
  clear hn ho hT
  go_enter Tryz.func24, Tryz.ntmps24
  go_wp2_with fail
  refine (ref07_end s p _ (by omega) hs).mono ?_
  rintro e w1 ⟨rfl, rfl⟩
  rw [HE.out]
  go_wp2_with fail
  refine (HO.out _ T0.out).mono ?_
  rintro e w2 ⟨rfl, hB⟩
  have K2 := hid (K0.out.below hB K0.out.lt); have B2 := hid (B0.out.trans (hB.mono B0.out.size)); have T2 := hid (T0.out.below hB)
  clear hB
  simp only [escT]
  have K4 := hid ((K2.out.alloc (.cells #[.int .i64 1, .int .i32 r, .slice none 0 0, .int .i64 a] 64)).alloc (.cells #[.int .i64 0, .int .i64 0, .int .i64 0] 27))
  have B4 := hid ((B2.out.alloc B2.out.size (.cells #[.int .i64 1, .int .i32 r, .slice none 0 0, .int .i64 a] 64)).alloc (by have := B2.out.size; simp; omega) (.cells #[.int .i64 0, .int .i64 0, .int .i64 0] 27))
  have T4 := hid ((T2.out.alloc (.cells #[.int .i64 1, .int .i32 r, .slice none 0 0, .int .i64 a] 64)).alloc (.cells #[.int .i64 0, .int .i64 0, .int .i64 0] 27))
  go_wp2_with fail
  have E4 := (Blk.new w2 [.int .i64 1, .int .i32 r, .slice none 0 0, .int .i64 a] 64).alloc (.cells #[.int .i64 0, .int .i64 0, .int .i64 0] 27)
  have N4 := Blk.new (w2.alloc (.cells #[.int .i64 1, .int .i32 r, .slice none 0 0, .int .i64 a] 64)) [.int .i64 0, .int .i64 0, .int .i64 0] 27
  simp only [World.size_alloc] at N4
  change Blk ((w2.alloc (.cells #[.int .i64 1, .int .i32 r, .slice none 0 0, .int .i64 a] 64)).alloc (.cells #[.int .i64 0, .int .i64 0, .int .i64 0] 27)) _ _ _ at N4
  change Blk ((w2.alloc (.cells #[.int .i64 1, .int .i32 r, .slice none 0 0, .int .i64 a] 64)).alloc (.cells #[.int .i64 0, .int .i64 0, .int .i64 0] 27)) _ _ _ at E4
  have d1 : w.heap.size ≠ w2.heap.size + 1 := by have := K2.out.lt; omega
  have d2 : w.heap.size ≠ w2.heap.size := by have := K2.out.lt; omega
  have d3 : w2.heap.size ≠ w2.heap.size + 1 := by omega
  have lX : w.heap.size ≤ w2.heap.size + 1 := by have := K2.out.lt; omega
  have lY : w.heap.size ≤ w2.heap.size := by have := K2.out.lt; omega
  generalize (w2.alloc (.cells #[.int .i64 1, .int .i32 r, .slice none 0 0, .int .i64 a] 64)).alloc (.cells #[.int .i64 0, .int .i64 0, .int .i64 0] 27) = W4 at E4 N4 K4 B4 T4 ⊢
  generalize w2.heap.size + 1 = X at N4 d1 d3 lX ⊢
  generalize w2.heap.size = Y at E4 d2 d3 lY ⊢
  have HE4 := hid E4; have HN4 := hid N4; clear E4 N4
  refine (HO2.out _ T4.out).mono ?_
  rintro e w5 ⟨rfl, hB5⟩
  have K6 := hid ((K4.out.below hB5 K4.out.lt).alloc (.cells #[.int .i64 kk, .int .i32 rr, .slice none 0 0, .int .i64 aa] 64)); have Y6 := hid ((HE4.out.below hB5 HE4.out.lt).alloc (.cells #[.int .i64 kk, .int .i32 rr, .slice none 0 0, .int .i64 aa] 64)); have N6 := hid ((HN4.out.below hB5 HN4.out.lt).alloc (.cells #[.int .i64 kk, .int .i32 rr, .slice none 0 0, .int .i64 aa] 64))
  have B5 := hid (B4.out.trans (hB5.mono B4.out.size))
  have B6 := hid (B5.out.alloc B5.out.size (.cells #[.int .i64 kk, .int .i32 rr, .slice none 0 0, .int .i64 aa] 64))
  have lX0 : w.heap.size ≤ (⟨X, 0, none⟩ : Addr).block := lX; have lX1 : w.heap.size ≤ (⟨X, 1, none⟩ : Addr).block := lX; have lX2 : w.heap.size ≤ (⟨X, 2, none⟩ : Addr).block := lX
  have V5 := hB5.size
  have VK := K4.out.lt; have VY := HE4.out.lt; have VN := HN4.out.lt
  clear hB5
  simp only [escT]
  have k0 := Blk.cell K6.out (j := 0) rfl; have k1 := Blk.cell K6.out (j := 1) rfl; have k2 := Blk.cell K6.out (j := 2) rfl
  have f0 := K6.out.frozen 0; have f1 := K6.out.frozen 1; have f2 := K6.out.frozen 2
  have n0 := Blk.cell N6.out (j := 0) rfl; have n1 := Blk.cell N6.out (j := 1) rfl; have n2 := Blk.cell N6.out (j := 2) rfl
  have m0 := N6.out.frozen 0; have m1 := N6.out.frozen 1; have m2 := N6.out.frozen 2
  have y0 := Blk.cell Y6.out (j := 0) rfl; have y1 := Blk.cell Y6.out (j := 1) rfl
  go_wp2_with fail
  refine bodyPost_ret (v := .tuple #[.slice none 0 0, .int .i64 0, .agg #[.int .i64 72, .int .i64 p, .int .i64 Q2]]) ?_ rfl ⟨?_, rfl⟩
  · simp [results, Tryz.results24, go_sem, k0, k1, k2]
  · exact ((((((B6.out.setCell (p := ⟨X, 0, none⟩) lX0 _).setCell (p := ⟨X, 1, none⟩) lX1 _).setCell (p := ⟨X, 2, none⟩) lX2 _).setCell (by simp) _).setCell (by simp) _).setCell (by simp) _)

set_option maxRecDepth 100000 in
set_option maxHeartbeats 2000000 in
theorem ritem_set2 (s : ByteArray) (p : Nat) (b : Bool) (w : World) (hs : s.size ≤ 100000000000) (hT : Tabs w) (hp : p < s.size) (hn : namedP s p = none) (r a : Int) (Q : Nat) (ho : oneP s p b = .lit 1 r a Q) (hl : Q + 1 < s.size) (h45 : s[Q] = 45) (h93 : ¬ s[Q + 1] = 93) (f : Int → Bool) (Q2 : Nat) (ho2 : oneP s (Q + 1) b = .set f Q2) :
    Calls Tryz.prog 24 #[.string s, .int .i64 p, .bool b] w (RItemOut w (.wrong 72 p Q2)) := by
  have K0 := hid (Blk.new w [.int .i64 0, .int .i64 0, .int .i64 0] 27)
  have B0 := hid ((Below.refl w.heap.size w).alloc (Nat.le_refl _) (.cells #[.int .i64 0, .int .i64 0, .int .i64 0] 27))
  have g1 : (Q : Int) + 1 < (s.size : Int) := by omega
  have g2 : ((s[Q].toNat : Int) != 45) = false := by rw [h45]; rfl
  have g3 : ((s[Q + 1].toNat : Int) == 93) = false := by rw [beq_eq_false_iff_ne]; have := u8_ne h93; have h9 : (93 : UInt8).toNat = 93 := rfl; omega
  have HO2 := hid (fun W (h : Tabs W) => ho2 ▸ ref07_one s (Q + 1) b W h (by omega) hl)
  clear h45 h93 ho2
  have HE := hid (endI_none hn)
  have T0 := hid (hT.alloc (.cells #[.int .i64 0, .int .i64 0, .int .i64 0] 27))
  have HO := hid (fun W (h : Tabs W) => ho ▸ ref07_one s p b W h (by omega) hp)
  clear hn ho hT
  go_enter Tryz.func24, Tryz.ntmps24
  go_wp2_with fail
  refine (ref07_end s p _ (by omega) hs).mono ?_
  rintro e w1 ⟨rfl, rfl⟩
  rw [HE.out]
  go_wp2_with fail
  refine (HO.out _ T0.out).mono ?_
  rintro e w2 ⟨rfl, hB⟩
  have K2 := hid (K0.out.below hB K0.out.lt); have B2 := hid (B0.out.trans (hB.mono B0.out.size)); have T2 := hid (T0.out.below hB)
  clear hB
  simp only [escT]
  have K4 := hid ((K2.out.alloc (.cells #[.int .i64 1, .int .i32 r, .slice none 0 0, .int .i64 a] 64)).alloc (.cells #[.int .i64 0, .int .i64 0, .int .i64 0] 27))
  have B4 := hid ((B2.out.alloc B2.out.size (.cells #[.int .i64 1, .int .i32 r, .slice none 0 0, .int .i64 a] 64)).alloc (by have := B2.out.size; simp; omega) (.cells #[.int .i64 0, .int .i64 0, .int .i64 0] 27))
  have T4 := hid ((T2.out.alloc (.cells #[.int .i64 1, .int .i32 r, .slice none 0 0, .int .i64 a] 64)).alloc (.cells #[.int .i64 0, .int .i64 0, .int .i64 0] 27))
  go_wp2_with fail
  have E4 := (Blk.new w2 [.int .i64 1, .int .i32 r, .slice none 0 0, .int .i64 a] 64).alloc (.cells #[.int .i64 0, .int .i64 0, .int .i64 0] 27)
  have N4 := Blk.new (w2.alloc (.cells #[.int .i64 1, .int .i32 r, .slice none 0 0, .int .i64 a] 64)) [.int .i64 0, .int .i64 0, .int .i64 0] 27
  simp only [World.size_alloc] at N4
  change Blk ((w2.alloc (.cells #[.int .i64 1, .int .i32 r, .slice none 0 0, .int .i64 a] 64)).alloc (.cells #[.int .i64 0, .int .i64 0, .int .i64 0] 27)) _ _ _ at N4
  change Blk ((w2.alloc (.cells #[.int .i64 1, .int .i32 r, .slice none 0 0, .int .i64 a] 64)).alloc (.cells #[.int .i64 0, .int .i64 0, .int .i64 0] 27)) _ _ _ at E4
  have d1 : w.heap.size ≠ w2.heap.size + 1 := by have := K2.out.lt; omega
  have d2 : w.heap.size ≠ w2.heap.size := by have := K2.out.lt; omega
  have d3 : w2.heap.size ≠ w2.heap.size + 1 := by omega
  have lX : w.heap.size ≤ w2.heap.size + 1 := by have := K2.out.lt; omega
  have lY : w.heap.size ≤ w2.heap.size := by have := K2.out.lt; omega
  generalize (w2.alloc (.cells #[.int .i64 1, .int .i32 r, .slice none 0 0, .int .i64 a] 64)).alloc (.cells #[.int .i64 0, .int .i64 0, .int .i64 0] 27) = W4 at E4 N4 K4 B4 T4 ⊢
  generalize w2.heap.size + 1 = X at N4 d1 d3 lX ⊢
  generalize w2.heap.size = Y at E4 d2 d3 lY ⊢
  have HE4 := hid E4; have HN4 := hid N4; clear E4 N4
  refine (HO2.out _ T4.out).mono ?_
  rintro e w5 ⟨v, oo, rfl, hL, hI, hl5, hB5⟩
  obtain ⟨sa, sc, rfl, _, _⟩ := hL.ranges (by omega)
  clear hL hI hl5
  have K6 := hid ((K4.out.below hB5 K4.out.lt).alloc (.cells #[.int .i64 2, .int .i32 0, .slice sa oo.length sc, .int .i64 0] 64)); have Y6 := hid ((HE4.out.below hB5 HE4.out.lt).alloc (.cells #[.int .i64 2, .int .i32 0, .slice sa oo.length sc, .int .i64 0] 64)); have N6 := hid ((HN4.out.below hB5 HN4.out.lt).alloc (.cells #[.int .i64 2, .int .i32 0, .slice sa oo.length sc, .int .i64 0] 64))
  have B5 := hid (B4.out.trans (hB5.mono B4.out.size))
  have B6 := hid (B5.out.alloc B5.out.size (.cells #[.int .i64 2, .int .i32 0, .slice sa oo.length sc, .int .i64 0] 64))
  have lX0 : w.heap.size ≤ (⟨X, 0, none⟩ : Addr).block := lX; have lX1 : w.heap.size ≤ (⟨X, 1, none⟩ : Addr).block := lX; have lX2 : w.heap.size ≤ (⟨X, 2, none⟩ : Addr).block := lX
  have V5 := hB5.size
  have VK := K4.out.lt; have VY := HE4.out.lt; have VN := HN4.out.lt
  clear hB5
  simp only [escT]
  have k0 := Blk.cell K6.out (j := 0) rfl; have k1 := Blk.cell K6.out (j := 1) rfl; have k2 := Blk.cell K6.out (j := 2) rfl
  have f0 := K6.out.frozen 0; have f1 := K6.out.frozen 1; have f2 := K6.out.frozen 2
  have n0 := Blk.cell N6.out (j := 0) rfl; have n1 := Blk.cell N6.out (j := 1) rfl; have n2 := Blk.cell N6.out (j := 2) rfl
  have m0 := N6.out.frozen 0; have m1 := N6.out.frozen 1; have m2 := N6.out.frozen 2
  have y0 := Blk.cell Y6.out (j := 0) rfl; have y1 := Blk.cell Y6.out (j := 1) rfl
  go_wp2_with fail
  refine bodyPost_ret (v := .tuple #[.slice none 0 0, .int .i64 0, .agg #[.int .i64 72, .int .i64 p, .int .i64 Q2]]) ?_ rfl ⟨?_, rfl⟩
  · simp [results, Tryz.results24, go_sem, k0, k1, k2]
  · exact ((((((B6.out.setCell (p := ⟨X, 0, none⟩) lX0 _).setCell (p := ⟨X, 1, none⟩) lX1 _).setCell (p := ⟨X, 2, none⟩) lX2 _).setCell (by simp) _).setCell (by simp) _).setCell (by simp) _)

set_option maxRecDepth 100000 in
set_option maxHeartbeats 2000000 in
theorem ritem_falls (s : ByteArray) (p : Nat) (b : Bool) (w : World) (hs : s.size ≤ 100000000000) (hT : Tabs w) (hp : p < s.size) (hn : namedP s p = none) (r a : Int) (Q : Nat) (ho : oneP s p b = .lit 1 r a Q) (hl : Q + 1 < s.size) (h45 : s[Q] = 45) (h93 : ¬ s[Q + 1] = 93) (rr aa : Int) (Q2 : Nat) (ho2 : oneP s (Q + 1) b = .lit 1 rr aa Q2) (hlt : rr < r) :
    Calls Tryz.prog 24 #[.string s, .int .i64 p, .bool b] w (RItemOut w (.wrong 72 p Q2)) := by
  have K0 := hid (Blk.new w [.int .i64 0, .int .i64 0, .int .i64 0] 27)
  have B0 := hid ((Below.refl w.heap.size w).alloc (Nat.le_refl _) (.cells #[.int .i64 0, .int .i64 0, .int .i64 0] 27))
  have g1 : (Q : Int) + 1 < (s.size : Int) := by omega
  have g2 : ((s[Q].toNat : Int) != 45) = false := by rw [h45]; rfl
  have g3 : ((s[Q + 1].toNat : Int) == 93) = false := by rw [beq_eq_false_iff_ne]; have := u8_ne h93; have h9 : (93 : UInt8).toNat = 93 := rfl; omega
  have HO2 := hid (fun W (h : Tabs W) => ho2 ▸ ref07_one s (Q + 1) b W h (by omega) hl)
  clear h45 h93 ho2
  have HE := hid (endI_none hn)
  have T0 := hid (hT.alloc (.cells #[.int .i64 0, .int .i64 0, .int .i64 0] 27))
  have HO := hid (fun W (h : Tabs W) => ho ▸ ref07_one s p b W h (by omega) hp)
  clear hn ho hT
  go_enter Tryz.func24, Tryz.ntmps24
  go_wp2_with fail
  refine (ref07_end s p _ (by omega) hs).mono ?_
  rintro e w1 ⟨rfl, rfl⟩
  rw [HE.out]
  go_wp2_with fail
  refine (HO.out _ T0.out).mono ?_
  rintro e w2 ⟨rfl, hB⟩
  have K2 := hid (K0.out.below hB K0.out.lt); have B2 := hid (B0.out.trans (hB.mono B0.out.size)); have T2 := hid (T0.out.below hB)
  clear hB
  simp only [escT]
  have K4 := hid ((K2.out.alloc (.cells #[.int .i64 1, .int .i32 r, .slice none 0 0, .int .i64 a] 64)).alloc (.cells #[.int .i64 0, .int .i64 0, .int .i64 0] 27))
  have B4 := hid ((B2.out.alloc B2.out.size (.cells #[.int .i64 1, .int .i32 r, .slice none 0 0, .int .i64 a] 64)).alloc (by have := B2.out.size; simp; omega) (.cells #[.int .i64 0, .int .i64 0, .int .i64 0] 27))
  have T4 := hid ((T2.out.alloc (.cells #[.int .i64 1, .int .i32 r, .slice none 0 0, .int .i64 a] 64)).alloc (.cells #[.int .i64 0, .int .i64 0, .int .i64 0] 27))
  go_wp2_with fail
  have E4 := (Blk.new w2 [.int .i64 1, .int .i32 r, .slice none 0 0, .int .i64 a] 64).alloc (.cells #[.int .i64 0, .int .i64 0, .int .i64 0] 27)
  have N4 := Blk.new (w2.alloc (.cells #[.int .i64 1, .int .i32 r, .slice none 0 0, .int .i64 a] 64)) [.int .i64 0, .int .i64 0, .int .i64 0] 27
  simp only [World.size_alloc] at N4
  change Blk ((w2.alloc (.cells #[.int .i64 1, .int .i32 r, .slice none 0 0, .int .i64 a] 64)).alloc (.cells #[.int .i64 0, .int .i64 0, .int .i64 0] 27)) _ _ _ at N4
  change Blk ((w2.alloc (.cells #[.int .i64 1, .int .i32 r, .slice none 0 0, .int .i64 a] 64)).alloc (.cells #[.int .i64 0, .int .i64 0, .int .i64 0] 27)) _ _ _ at E4
  have d1 : w.heap.size ≠ w2.heap.size + 1 := by have := K2.out.lt; omega
  have d2 : w.heap.size ≠ w2.heap.size := by have := K2.out.lt; omega
  have d3 : w2.heap.size ≠ w2.heap.size + 1 := by omega
  have lX : w.heap.size ≤ w2.heap.size + 1 := by have := K2.out.lt; omega
  have lY : w.heap.size ≤ w2.heap.size := by have := K2.out.lt; omega
  generalize (w2.alloc (.cells #[.int .i64 1, .int .i32 r, .slice none 0 0, .int .i64 a] 64)).alloc (.cells #[.int .i64 0, .int .i64 0, .int .i64 0] 27) = W4 at E4 N4 K4 B4 T4 ⊢
  generalize w2.heap.size + 1 = X at N4 d1 d3 lX ⊢
  generalize w2.heap.size = Y at E4 d2 d3 lY ⊢
  have HE4 := hid E4; have HN4 := hid N4; clear E4 N4
  refine (HO2.out _ T4.out).mono ?_
  rintro e w5 ⟨rfl, hB5⟩
  have K6 := hid ((K4.out.below hB5 K4.out.lt).alloc (.cells #[.int .i64 1, .int .i32 rr, .slice none 0 0, .int .i64 aa] 64)); have Y6 := hid ((HE4.out.below hB5 HE4.out.lt).alloc (.cells #[.int .i64 1, .int .i32 rr, .slice none 0 0, .int .i64 aa] 64)); have N6 := hid ((HN4.out.below hB5 HN4.out.lt).alloc (.cells #[.int .i64 1, .int .i32 rr, .slice none 0 0, .int .i64 aa] 64))
  have B5 := hid (B4.out.trans (hB5.mono B4.out.size))
  have B6 := hid (B5.out.alloc B5.out.size (.cells #[.int .i64 1, .int .i32 rr, .slice none 0 0, .int .i64 aa] 64))
  have lX0 : w.heap.size ≤ (⟨X, 0, none⟩ : Addr).block := lX; have lX1 : w.heap.size ≤ (⟨X, 1, none⟩ : Addr).block := lX; have lX2 : w.heap.size ≤ (⟨X, 2, none⟩ : Addr).block := lX
  have V5 := hB5.size
  have VK := K4.out.lt; have VY := HE4.out.lt; have VN := HN4.out.lt
  clear hB5
  simp only [escT]
  have k0 := Blk.cell K6.out (j := 0) rfl; have k1 := Blk.cell K6.out (j := 1) rfl; have k2 := Blk.cell K6.out (j := 2) rfl
  have f0 := K6.out.frozen 0; have f1 := K6.out.frozen 1; have f2 := K6.out.frozen 2
  have n0 := Blk.cell N6.out (j := 0) rfl; have n1 := Blk.cell N6.out (j := 1) rfl; have n2 := Blk.cell N6.out (j := 2) rfl
  have m0 := N6.out.frozen 0; have m1 := N6.out.frozen 1; have m2 := N6.out.frozen 2
  have y0 := Blk.cell Y6.out (j := 0) rfl; have y1 := Blk.cell Y6.out (j := 1) rfl
  go_wp2_with fail
  refine bodyPost_ret (v := .tuple #[.slice none 0 0, .int .i64 0, .agg #[.int .i64 72, .int .i64 p, .int .i64 Q2]]) ?_ rfl ⟨?_, rfl⟩
  · simp [results, Tryz.results24, go_sem, k0, k1, k2]
  · exact ((((((B6.out.setCell (p := ⟨X, 0, none⟩) lX0 _).setCell (p := ⟨X, 1, none⟩) lX1 _).setCell (p := ⟨X, 2, none⟩) lX2 _).setCell (by simp) _).setCell (by simp) _).setCell (by simp) _)

set_option maxRecDepth 100000 in
set_option maxHeartbeats 2000000 in
theorem ritem_right (s : ByteArray) (p : Nat) (b : Bool) (w : World) (hs : s.size ≤ 100000000000) (hT : Tabs w) (hp : p < s.size) (hn : namedP s p = none) (r a : Int) (Q : Nat) (ho : oneP s p b = .lit 1 r a Q) (hl : Q + 1 < s.size) (h45 : s[Q] = 45) (h93 : ¬ s[Q + 1] = 93) (rr aa : Int) (Q2 : Nat) (ho2 : oneP s (Q + 1) b = .lit 1 rr aa Q2) (hlt : ¬ rr < r) :
    Calls Tryz.prog 24 #[.string s, .int .i64 p, .bool b] w (RItemOut w (.ok (fun c => decide (r ≤ c) && decide (c ≤ rr)) Q2)) := by
  have K0 := hid (Blk.new w [.int .i64 0, .int .i64 0, .int .i64 0] 27)
  have B0 := hid ((Below.refl w.heap.size w).alloc (Nat.le_refl _) (.cells #[.int .i64 0, .int .i64 0, .int .i64 0] 27))
  have g1 : (Q : Int) + 1 < (s.size : Int) := by omega
  have g2 : ((s[Q].toNat : Int) != 45) = false := by rw [h45]; rfl
  have g3 : ((s[Q + 1].toNat : Int) == 93) = false := by rw [beq_eq_false_iff_ne]; have := u8_ne h93; have h9 : (93 : UInt8).toNat = 93 := rfl; omega
  have HO2 := hid (fun W (h : Tabs W) => ho2 ▸ ref07_one s (Q + 1) b W h (by omega) hl)
  clear h45 h93 ho2
  have HE := hid (endI_none hn)
  have T0 := hid (hT.alloc (.cells #[.int .i64 0, .int .i64 0, .int .i64 0] 27))
  have HO := hid (fun W (h : Tabs W) => ho ▸ ref07_one s p b W h (by omega) hp)
  clear hn ho hT
  go_enter Tryz.func24, Tryz.ntmps24
  go_wp2_with fail
  refine (ref07_end s p _ (by omega) hs).mono ?_
  rintro e w1 ⟨rfl, rfl⟩
  rw [HE.out]
  go_wp2_with fail
  refine (HO.out _ T0.out).mono ?_
  rintro e w2 ⟨rfl, hB⟩
  have K2 := hid (K0.out.below hB K0.out.lt); have B2 := hid (B0.out.trans (hB.mono B0.out.size)); have T2 := hid (T0.out.below hB)
  clear hB
  simp only [escT]
  have K4 := hid ((K2.out.alloc (.cells #[.int .i64 1, .int .i32 r, .slice none 0 0, .int .i64 a] 64)).alloc (.cells #[.int .i64 0, .int .i64 0, .int .i64 0] 27))
  have B4 := hid ((B2.out.alloc B2.out.size (.cells #[.int .i64 1, .int .i32 r, .slice none 0 0, .int .i64 a] 64)).alloc (by have := B2.out.size; simp; omega) (.cells #[.int .i64 0, .int .i64 0, .int .i64 0] 27))
  have T4 := hid ((T2.out.alloc (.cells #[.int .i64 1, .int .i32 r, .slice none 0 0, .int .i64 a] 64)).alloc (.cells #[.int .i64 0, .int .i64 0, .int .i64 0] 27))
  go_wp2_with fail
  have E4 := (Blk.new w2 [.int .i64 1, .int .i32 r, .slice none 0 0, .int .i64 a] 64).alloc (.cells #[.int .i64 0, .int .i64 0, .int .i64 0] 27)
  have N4 := Blk.new (w2.alloc (.cells #[.int .i64 1, .int .i32 r, .slice none 0 0, .int .i64 a] 64)) [.int .i64 0, .int .i64 0, .int .i64 0] 27
  simp only [World.size_alloc] at N4
  change Blk ((w2.alloc (.cells #[.int .i64 1, .int .i32 r, .slice none 0 0, .int .i64 a] 64)).alloc (.cells #[.int .i64 0, .int .i64 0, .int .i64 0] 27)) _ _ _ at N4
  change Blk ((w2.alloc (.cells #[.int .i64 1, .int .i32 r, .slice none 0 0, .int .i64 a] 64)).alloc (.cells #[.int .i64 0, .int .i64 0, .int .i64 0] 27)) _ _ _ at E4
  have d1 : w.heap.size ≠ w2.heap.size + 1 := by have := K2.out.lt; omega
  have d2 : w.heap.size ≠ w2.heap.size := by have := K2.out.lt; omega
  have d3 : w2.heap.size ≠ w2.heap.size + 1 := by omega
  have lX : w.heap.size ≤ w2.heap.size + 1 := by have := K2.out.lt; omega
  have lY : w.heap.size ≤ w2.heap.size := by have := K2.out.lt; omega
  generalize (w2.alloc (.cells #[.int .i64 1, .int .i32 r, .slice none 0 0, .int .i64 a] 64)).alloc (.cells #[.int .i64 0, .int .i64 0, .int .i64 0] 27) = W4 at E4 N4 K4 B4 T4 ⊢
  generalize w2.heap.size + 1 = X at N4 d1 d3 lX ⊢
  generalize w2.heap.size = Y at E4 d2 d3 lY ⊢
  have HE4 := hid E4; have HN4 := hid N4; clear E4 N4
  refine (HO2.out _ T4.out).mono ?_
  rintro e w5 ⟨rfl, hB5⟩
  have K6 := hid ((K4.out.below hB5 K4.out.lt).alloc (.cells #[.int .i64 1, .int .i32 rr, .slice none 0 0, .int .i64 aa] 64)); have Y6 := hid ((HE4.out.below hB5 HE4.out.lt).alloc (.cells #[.int .i64 1, .int .i32 rr, .slice none 0 0, .int .i64 aa] 64)); have N6 := hid ((HN4.out.below hB5 HN4.out.lt).alloc (.cells #[.int .i64 1, .int .i32 rr, .slice none 0 0, .int .i64 aa] 64))
  have B5 := hid (B4.out.trans (hB5.mono B4.out.size))
  have B6 := hid (B5.out.alloc B5.out.size (.cells #[.int .i64 1, .int .i32 rr, .slice none 0 0, .int .i64 aa] 64))
  have lX0 : w.heap.size ≤ (⟨X, 0, none⟩ : Addr).block := lX; have lX1 : w.heap.size ≤ (⟨X, 1, none⟩ : Addr).block := lX; have lX2 : w.heap.size ≤ (⟨X, 2, none⟩ : Addr).block := lX
  have V5 := hB5.size
  have VK := K4.out.lt; have VY := HE4.out.lt; have VN := HN4.out.lt
  clear hB5
  simp only [escT]
  have k0 := Blk.cell K6.out (j := 0) rfl; have k1 := Blk.cell K6.out (j := 1) rfl; have k2 := Blk.cell K6.out (j := 2) rfl
  have f0 := K6.out.frozen 0; have f1 := K6.out.frozen 1; have f2 := K6.out.frozen 2
  have n0 := Blk.cell N6.out (j := 0) rfl; have n1 := Blk.cell N6.out (j := 1) rfl; have n2 := Blk.cell N6.out (j := 2) rfl
  have m0 := N6.out.frozen 0; have m1 := N6.out.frozen 1; have m2 := N6.out.frozen 2
  have y0 := Blk.cell Y6.out (j := 0) rfl; have y1 := Blk.cell Y6.out (j := 1) rfl
  have K7 := hid (((K6.out.setCell_other (a := ⟨X, 0, none⟩) d1 (.int .i64 0)).setCell_other (a := ⟨X, 1, none⟩) d1 (.int .i64 0)).setCell_other (a := ⟨X, 2, none⟩) d1 (.int .i64 0))
  have N7 := hid (((N6.out.set 0 (.int .i64 0)).set 1 (.int .i64 0)).set 2 (.int .i64 0))
  have B7 := hid (((B6.out.setCell (p := ⟨X, 0, none⟩) lX0 (.int .i64 0)).setCell (p := ⟨X, 1, none⟩) lX1 (.int .i64 0)).setCell (p := ⟨X, 2, none⟩) lX2 (.int .i64 0))
  have K8 := hid (K7.out.alloc (.cells #[.int .i32 r, .int .i32 rr] 43))
  have B8 := hid (B7.out.alloc B7.out.size (.cells #[.int .i32 r, .int .i32 rr] 43))
  have L5 := Laid.lit ((((w5.alloc (.cells #[.int .i64 1, .int .i32 rr, .slice none 0 0, .int .i64 aa] 64)).setCell ⟨X, 0, none⟩ (.int .i64 0)).setCell ⟨X, 1, none⟩ (.int .i64 0)).setCell ⟨X, 2, none⟩ (.int .i64 0)) [(r, rr)] (flatR [(r, rr)]).toArray rfl (show (1 : Nat) ≤ maxLen by decide)
  simp only [World.size_alloc, World.size_setCell] at L5
  have L6 := hid (Laid.far (w0 := w.alloc (.cells #[.int .i64 0, .int .i64 0, .int .i64 0] 27)) L5 (by have := K6.out.lt; simp at this; simp; omega)); clear L5
  have h0 := Blk.cell K8.out (j := 0) rfl; have h1 := Blk.cell K8.out (j := 1) rfl; have h2 := Blk.cell K8.out (j := 2) rfl
  have g0 := K8.out.frozen 0; have g1 := K8.out.frozen 1; have g2 := K8.out.frozen 2
  go_wp2_with fail
  refine bodyPost_ret (v := .tuple #[.slice (some ⟨w5.heap.size + 1, 0, none⟩) 1 1, .int .i64 Q2, .agg #[.int .i64 0, .int .i64 0, .int .i64 0]]) ?_ rfl ⟨?_, _, [(r, rr)], rfl, ?_, ?_, show (1 : Nat) ≤ 1000 by decide⟩
  · simp [results, Tryz.results24, go_sem, h0, h1, h2]
  · exact (((B8.out.setCell (by simp) _).setCell (by simp) _).setCell (by simp) _)
  · exact laid_cells3 L6.out _ _ _
  · exact fun c _ _ => memR_one (r, rr) c

theorem ref07_item (s : ByteArray) (p : Nat) (b : Bool) (fr : Int) (w : World) (hs : s.size ≤ 100000000000) (hT : Tabs w) (hp : p < s.size) :
    Calls Tryz.prog 24 #[.string s, .int .i64 p, .bool b] w (RItemOut w (itemP s p b fr)) := by
  unfold itemP
  cases hn : namedP s p with
  | some k =>
    simp only
    cases hsp : posSpec ((s.data.toList.drop (p + 2)).take (k - (p + 2))) with
    | none => exact ritem_nambad s p b w hs k hn hsp
    | some f => exact ritem_named s p b w hs k hn f hsp
  | none =>
    simp only
    rw [if_neg (show ¬ s.size ≤ p by omega)]
    have hq := oneP_q s p b hp
    have hk := oneP_ok s p b
    cases ho : oneP s p b with
    | wrong x f t => rw [ho] at hk; exact ritem_wrong s p b w hs hT hp hn x f t ho hk
    | set f q =>
      rw [ho] at hq
      obtain ⟨Q, rfl, _, _⟩ := hq
      exact ritem_set s p b w hs hT hp hn f Q ho
    | lit k r a q =>
      rw [ho] at hq hk
      obtain ⟨Q, rfl, hq1, hq2⟩ := hq
      simp only [Int.toNat_natCast]
      by_cases hk1 : k = 1
      · subst hk1
        rw [if_neg (by simp)]
        by_cases hr : rangedP s Q = true
        · rw [if_pos hr]
          unfold rangedP at hr
          simp only [Bool.and_eq_true, decide_eq_true_eq, Bool.not_eq_true'] at hr
          obtain ⟨⟨h45, hl⟩, h93⟩ := hr
          obtain ⟨_, g45⟩ := (stands_one s Q 45).1 h45
          have g93 : ¬ s[Q + 1] = 93 := fun e => by rw [(stands_one s (Q + 1) 93).2 ⟨hl, e⟩] at h93; cases h93
          have hq' := oneP_q s (Q + 1) b hl
          have hk' := oneP_ok s (Q + 1) b
          cases ho2 : oneP s (Q + 1) b with
          | wrong x f t => rw [ho2] at hk'; exact ritem_wrong2 s p b w hs hT hp hn r a Q ho hl g45 g93 x f t ho2 hk'
          | set f q2 =>
            rw [ho2] at hq'
            obtain ⟨Q2, rfl, _, _⟩ := hq'
            exact ritem_set2 s p b w hs hT hp hn r a Q ho hl g45 g93 f Q2 ho2
          | lit k2 r2 a2 q2 =>
            rw [ho2] at hq'
            obtain ⟨Q2, rfl, _, _⟩ := hq'
            simp only [Int.toNat_natCast]
            by_cases hk2 : k2 = 1
            · subst hk2
              by_cases hlt : r2 < r
              · rw [if_pos (.inr hlt)]
                exact ritem_falls s p b w hs hT hp hn r a Q ho hl g45 g93 r2 a2 Q2 ho2 hlt
              · rw [if_neg (by simp [hlt])]
                exact ritem_right s p b w hs hT hp hn r a Q ho hl g45 g93 r2 a2 Q2 ho2 hlt
            · rw [if_pos (.inl hk2)]
              exact ritem_kind2 s p b w hs hT hp hn r a Q ho hl g45 g93 k2 r2 a2 Q2 ho2 hk2
        · rw [if_neg hr]
          by_cases hl : s.size ≤ Q + 1
          · exact ritem_last s p b w hs hT hp hn r a Q ho hq2 hl
          by_cases h45 : s[Q] = 45
          · by_cases h93 : s[Q + 1] = 93
            · exact ritem_shut s p b w hs hT hp hn r a Q ho hq2 (by omega) h45 h93
            · exfalso
              apply hr
              unfold rangedP
              have e1 : stands s Q [45] = true := (stands_one s Q 45).2 ⟨by omega, h45⟩
              have e2 : stands s (Q + 1) [93] = false := Bool.eq_false_iff.2 fun h => h93 ((stands_one s (Q + 1) 93).1 h).2
              rw [e1, e2, decide_eq_true (show Q + 1 < s.size by omega)]; rfl
          · exact ritem_other s p b w hs hT hp hn r a Q ho hq2 (by omega) h45
      · rw [if_pos hk1]
        exact ritem_kind s p b w hs hT hp hn k r a Q ho hk1 hk
end Go.Proofs.YtnafemcholkmlaaGreatDoor
