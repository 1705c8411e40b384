/- ScanCodes: a rune's number behind a backslash and x, with noughts ahead, whatever stands behind, is read as it; a sign behind a backslash is itself: the law's walk. -/
import Derived.Test.YtjmgboegipeijaaGreatDoorCodes
import Derived.Test.YtjmgboegipeijaaGreatDoorLettersAid
import Derived.Laws.Runes
namespace Go.Proofs.YtjmgboegipeijaaGreatDoor
open Go Go.RowKit Go.Proofs

theorem encode_small (n : Nat) (h : n < 128) : Utf8.encode (n : Int) = ⟨#[UInt8.ofNat n]⟩ := by
  have hv : Utf8.valid (n : Int) = true := by unfold Utf8.valid; simp; omega
  unfold Utf8.encode
  simp only [hv, if_true, Int.toNat_natCast, h]

set_option maxRecDepth 100000 in
set_option maxHeartbeats 1000000 in
theorem law_scanCodes (c no : Int) (behind : ByteArray) (b : Bool) (w : World) (h0 : 0 ≤ no ∧ no < 256) (hs : behind.size ≤ 140737488351232) :
    Calls Tryz.prog 5 #[.int .i32 c, .int .u8 no, .string behind, .bool b] w fun e w' => e = .returned (.bool true) ∧ Below w.heap.size w w' := by
  by_cases h1 : c < 0
  · go_enter Tryz.func5, Tryz.ntmps5
    go_wp2_with fail
    refine (head06 w).mono ?_
    rintro e w1 ⟨rfl, hB⟩
    have B1 := Lib.hid hB; clear hB
    go_wp2_with fail
    go_ret
    exact ⟨rfl, B1.out⟩
  · by_cases h2 : 1114111 < c
    · go_enter Tryz.func5, Tryz.ntmps5
      go_wp2_with fail
      refine (head06 w).mono ?_
      rintro e w1 ⟨rfl, hB⟩
      have B1 := Lib.hid hB; clear hB
      go_wp2_with fail
      go_ret
      exact ⟨rfl, B1.out⟩
    · obtain ⟨n, rfl⟩ : ∃ n : Nat, c = n := ⟨c.toNat, by omega⟩
      obtain ⟨m, hm⟩ : ∃ m : Nat, no.tmod 9 = m ∧ m ≤ 8 := ⟨(no % 9).toNat, by rw [Int.tmod_eq_emod_of_nonneg h0.1]; omega, by omega⟩
      obtain ⟨hm, hm8⟩ := hm
      go_enter Tryz.func5, Tryz.ntmps5
      go_wp2_with fail
      refine (head06 w).mono ?_
      rintro e w1 ⟨rfl, hB⟩
      have B1 := Lib.hid hB; clear hB
      go_wp2_with fail
      go_loop [10, 11] (fun sv iv => ∃ (k : Nat) (S : ByteArray), k ≤ m ∧ sv = .string S ∧ S.data.toList = [92, 120, 123] ++ List.replicate k 48 ∧ iv = .int .i64 k) (fun _ i => m - (intOf i).toNat)
      case atStart => exact ⟨0, _, Nat.zero_le _, rfl, rfl, rfl⟩
      case round =>
        obtain ⟨k, S, hk, rfl, hS, rfl⟩ := hrel
        have hz : S.size = k + 3 := by rw [size_of_list hS]; simp; try omega
        have HS := Lib.hid hS; clear hS
        by_cases hlt : k < m
        · go_wp2_with fail
          go_round
          case rel => exact ⟨k + 1, _, hlt, rfl, by rw [List.replicate_succ', ← List.append_assoc]; exact append_list HS.out rfl, by go_num⟩
          case measure => simp [intOf]; omega
        · obtain rfl : k = m := by omega
          have hhl := hexD_len n 5 (by omega)
          go_wp2_with fail
          refine (law06_hex n _ (by omega)).mono ?_
          rintro e w2 ⟨rfl, hB⟩
          have B2 := Lib.hid (below_next B1.out (Nat.le_refl _) (grownBy_below hB none) (by simp)); clear hB
          obtain ⟨H, hH⟩ : ∃ H, H = (⟨(hexD n).toArray⟩ : ByteArray) := ⟨_, rfl⟩
          have hHs : H.size ≤ 6 := by rw [hH]; show (hexD n).toArray.size ≤ 6; simpa using hhl
          rw [← hH]
          have HH := Lib.hid hH; clear hH
          go_wp2_with fail
          obtain ⟨T, hT⟩ : ∃ T, T = S ++ H ++ (⟨#[125]⟩ : ByteArray) := ⟨_, rfl⟩
          have hTl : T.data.toList = codeText k n := by rw [hT]; exact append_list (append_list HS.out (by rw [HH.out])) rfl
          have hTs : T.size ≤ 18 := by rw [hT]; simp only [ByteArray.size_append]; have : (⟨#[125]⟩ : ByteArray).size = 1 := rfl; omega
          obtain ⟨U, hU⟩ : ∃ U, U = T ++ behind := ⟨_, rfl⟩
          have hUl : U.data.toList = codeText k n ++ behind.data.toList := by rw [hU]; exact append_list hTl rfl
          have hUs : U.size = T.size + behind.size := by rw [hU]; simp
          have hTlen := size_of_list hTl
          have hT4 : 4 ≤ T.size := by rw [hTlen]; unfold codeText; simp; omega
          obtain ⟨q0, q1, q2, q3⟩ := code_read U k n behind.data.toList (by omega) hUl
          rw [← hT, ← hU]
          have HTl := Lib.hid hTl; have HUl := Lib.hid hUl; have HTn := Lib.hid hTlen
          clear hT hU hTl hUl hTlen
          refine (escape_hex U 0 b n _ w2 (by omega) (by omega) q0 q1 q2 q3).mono ?_
          clear q0 q1 q2 q3
          rintro e w3 ⟨rfl, hB⟩
          have B3 := Lib.hid (below_next B2.out (Nat.le_refl _) (grownBy_below hB none) (by simp)); clear hB
          rw [← HTn.out]
          go_wp2_with fail
          obtain ⟨W4, hW4⟩ : ∃ W4, W4 = (w3.alloc (.cells #[.int .i64 1, .int .i32 n, .slice none 0 0, .int .i64 0] 27)).alloc (.cells #[.int .i64 0, .int .i64 0, .int .i64 0] 30) := ⟨_, rfl⟩
          have Y := (show Blk W4 w3.heap.size [.int .i64 1, .int .i32 n, .slice none 0 0, .int .i64 0] 27 by rw [hW4]; exact (Blk.new _ _ _).alloc _)
          have Z := (show Blk W4 (w3.heap.size + 1) [.int .i64 0, .int .i64 0, .int .i64 0] 30 by
            have h := Blk.new (w3.alloc (.cells #[.int .i64 1, .int .i32 n, .slice none 0 0, .int .i64 0] 27)) [.int .i64 0, .int .i64 0, .int .i64 0] 30
            rw [World.size_alloc] at h; rw [hW4]; exact h)
          have B4 := Lib.hid (show Below w.heap.size w W4 by rw [hW4]; exact (B3.out.alloc B3.out.size _).alloc (by have := B3.out.size; simp; omega) _)
          rw [← hW4]
          clear hW4
          refine (ref06_Sign _ _).mono ?_
          rintro e w4 ⟨rfl, rfl⟩
          by_cases hsg : signB (n : Int) = true
          · rw [hsg]
            have hn8 : n < 128 := by simp only [signB, decide_eq_true_eq] at hsg; omega
            obtain ⟨E, hE⟩ : ∃ E, E = Utf8.encode (n : Int) := ⟨_, rfl⟩
            have hEl : E.data.toList = [UInt8.ofNat n] := by rw [hE, encode_small n hn8]
            have hEs : E.size = 1 := by rw [size_of_list hEl]; rfl
            have hE2 := hE.symm
            have HSG := hsg
            clear hE hsg
            have y0 := Blk.cell Y (j := 0) rfl; have y1 := Blk.cell Y (j := 1) rfl; have y2 := Blk.cell Y (j := 2) rfl; have y3 := Blk.cell Y (j := 3) rfl
            have HY := Lib.hid Y; have HZ := Lib.hid Z; have HEl := Lib.hid hEl; clear Y Z hEl
            have HSGh := Lib.hid HSG; clear HSG
            go_wp2_with fail
            have HSG := HSGh.out
            obtain ⟨V, hV⟩ : ∃ V, V = (⟨#[92]⟩ : ByteArray) ++ E ++ behind := ⟨_, rfl⟩
            have hVl : V.data.toList = [92] ++ [UInt8.ofNat n] ++ behind.data.toList := by rw [hV]; exact append_list (append_list rfl HEl.out) rfl
            have hVs : V.size = 2 + behind.size := by rw [hV]; simp only [ByteArray.size_append]; have : (⟨#[92]⟩ : ByteArray).size = 1 := rfl; omega
            rw [← hV]
            clear hV
            have hx : (UInt8.ofNat n).toNat = n := by simp; omega
            refine (escape_sign V 0 b (UInt8.ofNat n) w4 (by omega) (by omega) (stands_of_drop (rest := [UInt8.ofNat n] ++ behind.data.toList) (by rw [hVl]; simp)) (by rw [hVl]; rfl) ?_).mono ?_
            · rw [hx]
              simp only [signB, decide_eq_true_eq] at HSG
              exact HSG
            rintro e w5 ⟨rfl, hB⟩
            rw [hx]
            have Y5 := Blk.below HY.out hB HY.out.lt; have Z5 := Blk.below HZ.out hB HZ.out.lt
            have B5 := Lib.hid (below_next B4.out (Nat.le_refl _) (grownBy_below hB none) (by simp)); clear hB hVl hx y0 y1 y2 y3
            have y0 := Blk.cell Y5 (j := 0) rfl; have y1 := Blk.cell Y5 (j := 1) rfl; have y2 := Blk.cell Y5 (j := 2) rfl; have y3 := Blk.cell Y5 (j := 3) rfl
            have z0 := Blk.cell Z5 (j := 0) rfl; have z1 := Blk.cell Z5 (j := 1) rfl; have z2 := Blk.cell Z5 (j := 2) rfl
            have g0 := Y5.frozen 0; have g1 := Y5.frozen 1; have g2 := Y5.frozen 2; have g3 := Y5.frozen 3
            have f0 := Z5.frozen 0; have f1 := Z5.frozen 1; have f2 := Z5.frozen 2
            clear Y5 Z5
            go_wp2_with fail
            go_ret
            have hz3 := B3.out.size
            exact ⟨rfl, ((((((B5.out.setCell (by omega) _).setCell (by omega) _).setCell (by omega) _).setCell (by omega) _).setCell (by simp only; omega) _).setCell (by simp only; omega) _).setCell (by simp only; omega) _⟩
          · have hsg : signB (n : Int) = false := by simpa using hsg
            rw [hsg]
            go_wp2_with fail
            go_ret
            exact ⟨rfl, B4.out⟩
end Go.Proofs.YtjmgboegipeijaaGreatDoor
