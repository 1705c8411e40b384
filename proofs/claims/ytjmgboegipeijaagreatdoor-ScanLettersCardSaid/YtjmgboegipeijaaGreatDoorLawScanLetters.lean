/- ScanLetters: letters ahead of a dash are set, those behind it are not; the rest of the flags stay: the law's walk. -/
import Derived.Test.YtjmgboegipeijaaGreatDoorFlags
import Derived.Test.YtjmgboegipeijaaGreatDoorHead06
namespace Go.Proofs.YtjmgboegipeijaaGreatDoor
open Go Go.RowKit Go.Proofs

def tst (x : Int) (k : Nat) : Bool := bits .and .u8 x ((2 ^ k : Nat) : Int) != 0
def lt (k : Nat) : UInt8 := [105, 109, 115, 85].getD k 0
/-- The letters that a byte's first bits name. -/
def selL (x : Int) : Nat → List UInt8
  | 0 => []
  | k + 1 => selL x k ++ (if tst x k then [lt k] else [])
def orV (f : Int) (ls : List UInt8) : Int := ls.foldl (fun f c => bits .or .i64 f (flagOf c.toNat)) f
def notV (f : Int) (ls : List UInt8) : Int := ls.foldl (fun f c => bits .andNot .i64 f (flagOf c.toNat)) f

theorem drop_byte {s : ByteArray} {p : Nat} {c : UInt8} {rest : List UInt8} (h : s.data.toList.drop p = c :: rest) : ∃ hp : p < s.size, s[p]'hp = c ∧ s.data.toList.drop (p + 1) = rest := by
  have hl : p < s.data.toList.length := by
    rcases Nat.lt_or_ge p s.data.toList.length with h' | h'
    · exact h'
    · rw [List.drop_eq_nil_of_le h'] at h; cases h
  have hs : p < s.size := by simpa using hl
  rw [List.drop_eq_getElem_cons hl] at h
  injection h with h1 h2
  exact ⟨hs, by rw [← h1]; rfl, h2⟩
theorem next_of_drop {s : ByteArray} {p : Nat} {c : UInt8} {rest : List UInt8} (h : s.data.toList.drop p = c :: rest) (hc : c.toNat < 128) : nextC s p = c.toNat := by
  obtain ⟨hp, e, -⟩ := drop_byte h
  rw [(nextC_ascii s p hp (by rw [e]; exact hc)).1, e]

theorem run_or {s : ByteArray} : ∀ (ls : List UInt8) (rest : List UInt8) (p : Nat) (f : Int) (any : Bool), (∀ c ∈ ls, flagOf c.toNat ≠ 0) → s.data.toList.drop p = ls ++ rest →
    flagsRun s (s.size + 1 - p) p f false any = flagsRun s (s.size + 1 - (p + ls.length)) (p + ls.length) (orV f ls) false any
  | [], _, _, _, _, _, _ => rfl
  | c :: ls, rest, p, f, any, hc, h => by
    have h1 := hc c (List.mem_cons_self ..)
    have hn := next_of_drop (rest := ls ++ rest) h (by have := flagOf_small h1; omega)
    rw [(flagsRun_or (s := s) (q := p) f any (by rw [hn]; exact h1)).2.2, hn, run_or ls rest (p + 1) _ any (fun c h => hc c (List.mem_cons_of_mem _ h)) (drop_byte (rest := ls ++ rest) h).2.2,
      show p + 1 + ls.length = p + (c :: ls).length by simp; omega]
    rfl
theorem run_not {s : ByteArray} : ∀ (ls : List UInt8) (rest : List UInt8) (p : Nat) (f : Int) (any : Bool), (∀ c ∈ ls, flagOf c.toNat ≠ 0) → s.data.toList.drop p = ls ++ rest →
    flagsRun s (s.size + 1 - p) p f true any = flagsRun s (s.size + 1 - (p + ls.length)) (p + ls.length) (notV f ls) true (any || !ls.isEmpty)
  | [], _, _, _, any, _, _ => by simp [notV]
  | c :: ls, rest, p, f, any, hc, h => by
    have h1 := hc c (List.mem_cons_self ..)
    have hn := next_of_drop (rest := ls ++ rest) h (by have := flagOf_small h1; omega)
    rw [(flagsRun_not (s := s) (q := p) f any (by rw [hn]; exact h1)).2.2, hn, run_not ls rest (p + 1) _ true (fun c h => hc c (List.mem_cons_of_mem _ h)) (drop_byte (rest := ls ++ rest) h).2.2,
      show p + 1 + ls.length = p + (c :: ls).length by simp; omega]
    simp [notV]

theorem selL_flags (x : Int) : ∀ k, k ≤ 4 → ∀ c ∈ selL x k, flagOf c.toNat ≠ 0
  | 0, _, c, h => by cases h
  | k + 1, hk, c, h => by
    simp only [selL, List.mem_append] at h
    rcases h with h | h
    · exact selL_flags x k (by omega) c h
    · split at h
      · rw [List.mem_singleton.1 h]
        rcases (show k = 0 ∨ k = 1 ∨ k = 2 ∨ k = 3 by omega) with rfl | rfl | rfl | rfl <;> decide
      · cases h
/-- The whole text. -/
def lettersText (on off : Int) (group : Bool) : List UInt8 :=
  [40, 63] ++ selL on 4 ++ (if off % 16 != 0 then [45] else []) ++ selL off 4 ++ [if group then 58 else 41]

theorem selL_none : ∀ x : Fin 256, (((x.val : Nat) : Int) % 16 != 0) = !(selL ((x.val : Nat) : Int) 4).isEmpty := by decide +kernel

theorem letters_read (s : ByteArray) (on off f : Int) (group : Bool) (h0 : 0 ≤ off) (h1 : off < 256) (hs : s.data.toList = lettersText on off group) :
    flagsP s 0 f = .ok (notV (orV f (selL on 4)) (selL off 4), group, s.size) := by
  have hsel := selL_none ⟨off.toNat, by omega⟩
  rw [show (((⟨off.toNat, by omega⟩ : Fin 256).val : Nat) : Int) = off by simp; omega] at hsel
  have hz : s.size = s.data.toList.length := by simp
  unfold lettersText at hs
  have d0 : s.data.toList.drop 0 = 40 :: ([63] ++ selL on 4 ++ (if off % 16 != 0 then [45] else []) ++ selL off 4 ++ [if group then 58 else 41]) := by rw [hs]; simp
  have d1 := (drop_byte d0).2.2
  have d1' : s.data.toList.drop 1 = 63 :: (selL on 4 ++ (if off % 16 != 0 then [45] else []) ++ selL off 4 ++ [if group then 58 else 41]) := by rw [show (1 : Nat) = 0 + 1 from rfl, d1]; simp
  have d2 := (drop_byte d1').2.2
  unfold flagsP
  rw [if_neg (by rw [next_of_drop d0 (by decide)]; decide), if_neg (by rw [next_of_drop d1' (by decide)]; decide)]
  have e1 : s.data.toList.drop (0 + 2) = selL on 4 ++ ((if off % 16 != 0 then [45] else []) ++ selL off 4 ++ [if group then 58 else 41]) := by rw [show 0 + 2 = 1 + 1 from rfl, d2]; simp
  rw [run_or _ _ (0 + 2) f false (selL_flags on 4 (Nat.le_refl _)) e1]
  have e2 : s.data.toList.drop (0 + 2 + (selL on 4).length) = (if off % 16 != 0 then [45] else []) ++ selL off 4 ++ [if group then 58 else 41] := by
    rw [← List.drop_drop, e1]; simp
  have hlast : ∀ (q : Nat) (fz : Int) (ob : Bool), s.data.toList.drop q = [if group then 58 else 41] → flagsRun s (s.size + 1 - q) q fz ob ob = .ok (fz, group, s.size) := by
    intro q fz ob hq
    have hn := next_of_drop hq (by split <;> decide)
    have hl := congrArg List.length hq
    obtain ⟨hp, -, -⟩ := drop_byte hq
    simp only [List.length_drop, List.length_cons, List.length_nil] at hl
    have := (flagsRun_ok (s := s) (q := q) fz ob (by rw [hn]; cases group <;> simp)).2.2
    rw [this, hn, show q + 1 = s.size by omega]
    cases group <;> rfl
  by_cases hb : (off % 16 != 0) = true
  · rw [if_pos hb] at e2
    have hne : (selL off 4).isEmpty = false := by rw [hb] at hsel; simpa using hsel.symm
    have e3 := (drop_byte (c := 45) (rest := selL off 4 ++ [if group then 58 else 41]) (by rw [e2]; simp)).2.2
    rw [(flagsRun_dash (s := s) _ false (by rw [next_of_drop (rest := selL off 4 ++ [if group then 58 else 41]) (c := 45) (by rw [e2]; simp) (by decide)]; rfl)).2.2]
    rw [run_not _ _ _ _ false (selL_flags off 4 (Nat.le_refl _)) e3, hne]
    exact hlast _ _ true (by rw [← List.drop_drop, e3]; simp)
  · rw [if_neg hb] at e2
    have hb' : (off % 16 != 0) = false := by simpa using hb
    have hne : selL off 4 = [] := by rw [hb'] at hsel; simpa using hsel.symm
    rw [hne] at e2 ⊢
    exact hlast _ _ false (by rw [e2]; simp)

theorem selL_yes (x : Int) (k : Nat) (h : (bits .and .u8 x ((2 ^ k : Nat) : Int) != 0) = true) : selL x (k + 1) = selL x k ++ [lt k] := by
  show selL x k ++ (if tst x k then [lt k] else []) = _
  rw [if_pos (show tst x k = true from h)]
theorem selL_no (x : Int) (k : Nat) (h : (bits .and .u8 x ((2 ^ k : Nat) : Int) != 0) = false) : selL x (k + 1) = selL x k := by
  show selL x k ++ (if tst x k then [lt k] else []) = _
  rw [if_neg (by rw [show tst x k = false from h]; exact Bool.false_ne_true), List.append_nil]
theorem selL_len (x : Int) : ∀ k, (selL x k).length ≤ k
  | 0 => Nat.le_refl _
  | k + 1 => by
    have := selL_len x k
    simp only [selL, List.length_append]
    split <;> simp <;> omega
theorem size_of_list {S : ByteArray} {l : List UInt8} (h : S.data.toList = l) : S.size = l.length := by rw [← h]; simp
theorem append_list {S T : ByteArray} {l m : List UInt8} (h : S.data.toList = l) (k : T.data.toList = m) : (S ++ T).data.toList = l ++ m := by
  rw [← h, ← k]; simp

set_option maxRecDepth 100000 in
set_option maxHeartbeats 1000000 in
theorem law_scanLetters (f on off : Int) (group : Bool) (w : World) (hT : Tabs w) (h2 : 0 ≤ off) (h3 : off < 256) :
    Calls Tryz.prog 7 #[.int .i64 f, .int .u8 on, .int .u8 off, .bool group] w fun e w' => e = .returned (.bool true) ∧ Below w.heap.size w w' := by
  have HT := Lib.hid hT; clear hT
  go_enter Tryz.func7, Tryz.ntmps7
  go_wp2_with fail
  refine (head06 w).mono ?_
  rintro e w1 ⟨rfl, hB⟩
  have T1 := Lib.hid (HT.out.below hB)
  have B1 := Lib.hid hB; clear hB
  go_wp2_with fail
  obtain ⟨W2, hW2⟩ : ∃ W2, W2 = w1.alloc (.cells #[.int .i64 1, .int .i64 4, .int .i64 8, .int .i64 16] 41) := ⟨_, rfl⟩
  have Y := (show Blk W2 w1.heap.size [.int .i64 1, .int .i64 4, .int .i64 8, .int .i64 16] 41 by rw [hW2]; exact Blk.new _ _ _)
  have T2 := Lib.hid (show Tabs W2 by rw [hW2]; exact T1.out.alloc _)
  have B2 := Lib.hid (show Below w.heap.size w W2 by rw [hW2]; exact B1.out.alloc B1.out.size _)
  have y0 := Blk.cell Y (j := 0) rfl; have y1 := Blk.cell Y (j := 1) rfl; have y2 := Blk.cell Y (j := 2) rfl; have y3 := Blk.cell Y (j := 3) rfl
  rw [← hW2]
  clear hW2 Y
  go_loop [12, 13, 14] (fun sv wv iv => ∃ (k : Nat) (S : ByteArray), k ≤ 4 ∧ sv = .string S ∧ S.data.toList = [40, 63] ++ selL on k ∧ wv = .int .i64 (orV f (selL on k)) ∧ iv = .int .i64 k) (fun _ _ i => 4 - (intOf i).toNat)
  case atStart => exact ⟨0, _, Nat.zero_le _, rfl, rfl, rfl, rfl⟩
  case round =>
    obtain ⟨k, S, hk, rfl, hS, rfl, rfl⟩ := hrel
    have HS := Lib.hid hS; clear hS
    have hk' : k = 0 ∨ k = 1 ∨ k = 2 ∨ k = 3 ∨ k = 4 := by omega
    have hz : S.size ≤ 6 := by
      rw [size_of_list HS.out]; have := selL_len on k; simp only [List.length_append, List.length_cons, List.length_nil]; omega
    rcases hk' with rfl | rfl | rfl | rfl | rfl
    · by_cases hb : (bits .and .u8 on 1 != 0) = true
      · have HY := Lib.hid (selL_yes on 0 hb)
        go_wp2_with fail
        go_round
        case rel => exact ⟨1, _, by omega, rfl, by rw [HY.out, ← List.append_assoc]; exact append_list HS.out rfl, by rw [HY.out]; simp only [orV, List.foldl_append]; rfl, rfl⟩
        case measure => simp [intOf]
      · have hb : (bits .and .u8 on 1 != 0) = false := by simpa using hb
        have HY := Lib.hid (selL_no on 0 hb)
        go_wp2_with fail
        go_round
        case rel => exact ⟨1, _, by omega, rfl, by rw [HY.out]; exact HS.out, by rw [HY.out], rfl⟩
        case measure => simp [intOf]
    · by_cases hb : (bits .and .u8 on 2 != 0) = true
      · have HY := Lib.hid (selL_yes on 1 hb)
        go_wp2_with fail
        go_round
        case rel => exact ⟨2, _, by omega, rfl, by rw [HY.out, ← List.append_assoc]; exact append_list HS.out rfl, by rw [HY.out]; simp only [orV, List.foldl_append]; rfl, rfl⟩
        case measure => simp [intOf]
      · have hb : (bits .and .u8 on 2 != 0) = false := by simpa using hb
        have HY := Lib.hid (selL_no on 1 hb)
        go_wp2_with fail
        go_round
        case rel => exact ⟨2, _, by omega, rfl, by rw [HY.out]; exact HS.out, by rw [HY.out], rfl⟩
        case measure => simp [intOf]
    · by_cases hb : (bits .and .u8 on 4 != 0) = true
      · have HY := Lib.hid (selL_yes on 2 hb)
        go_wp2_with fail
        go_round
        case rel => exact ⟨3, _, by omega, rfl, by rw [HY.out, ← List.append_assoc]; exact append_list HS.out rfl, by rw [HY.out]; simp only [orV, List.foldl_append]; rfl, rfl⟩
        case measure => simp [intOf]
      · have hb : (bits .and .u8 on 4 != 0) = false := by simpa using hb
        have HY := Lib.hid (selL_no on 2 hb)
        go_wp2_with fail
        go_round
        case rel => exact ⟨3, _, by omega, rfl, by rw [HY.out]; exact HS.out, by rw [HY.out], rfl⟩
        case measure => simp [intOf]
    · by_cases hb : (bits .and .u8 on 8 != 0) = true
      · have HY := Lib.hid (selL_yes on 3 hb)
        go_wp2_with fail
        go_round
        case rel => exact ⟨4, _, by omega, rfl, by rw [HY.out, ← List.append_assoc]; exact append_list HS.out rfl, by rw [HY.out]; simp only [orV, List.foldl_append]; rfl, rfl⟩
        case measure => simp [intOf]
      · have hb : (bits .and .u8 on 8 != 0) = false := by simpa using hb
        have HY := Lib.hid (selL_no on 3 hb)
        go_wp2_with fail
        go_round
        case rel => exact ⟨4, _, by omega, rfl, by rw [HY.out]; exact HS.out, by rw [HY.out], rfl⟩
        case measure => simp [intOf]
    · by_cases hd : (off % 16 != 0) = true
      · have HD := Lib.hid (show (if off % 16 != 0 then [45] else ([] : List UInt8)) = [45] by rw [if_pos hd])
        go_wp2_with fail
        go_loop [12, 13, 15] (fun sv wv iv => ∃ (k : Nat) (S : ByteArray), k ≤ 4 ∧ sv = .string S ∧ S.data.toList = [40, 63] ++ selL on 4 ++ [45] ++ selL off k ∧ wv = .int .i64 (notV (orV f (selL on 4)) (selL off k)) ∧ iv = .int .i64 k) (fun _ _ i => 4 - (intOf i).toNat)
        case atStart => exact ⟨0, _, Nat.zero_le _, rfl, by simp only [selL, List.append_nil]; exact append_list HS.out rfl, rfl, rfl⟩
        case round =>
          obtain ⟨k, S2, hk2, rfl, hS, rfl, rfl⟩ := hrel
          have HS2 := Lib.hid hS; clear hS hz hk
          have hk' : k = 0 ∨ k = 1 ∨ k = 2 ∨ k = 3 ∨ k = 4 := by omega
          have hz2 : S2.size ≤ 11 := by
            rw [size_of_list HS2.out]; have := selL_len on 4; have := selL_len off k; simp only [List.length_append, List.length_cons, List.length_nil]; omega
          rcases hk' with rfl | rfl | rfl | rfl | rfl
          · by_cases hb : (bits .and .u8 off 1 != 0) = true
            · have HY := Lib.hid (selL_yes off 0 hb)
              go_wp2_with fail
              go_round
              case rel => exact ⟨1, _, by omega, rfl, by rw [HY.out, ← List.append_assoc]; exact append_list HS2.out rfl, by rw [HY.out]; simp only [notV, List.foldl_append]; rfl, rfl⟩
              case measure => simp [intOf]
            · have hb : (bits .and .u8 off 1 != 0) = false := by simpa using hb
              have HY := Lib.hid (selL_no off 0 hb)
              go_wp2_with fail
              go_round
              case rel => exact ⟨1, _, by omega, rfl, by rw [HY.out]; exact HS2.out, by rw [HY.out], rfl⟩
              case measure => simp [intOf]
          · by_cases hb : (bits .and .u8 off 2 != 0) = true
            · have HY := Lib.hid (selL_yes off 1 hb)
              go_wp2_with fail
              go_round
              case rel => exact ⟨2, _, by omega, rfl, by rw [HY.out, ← List.append_assoc]; exact append_list HS2.out rfl, by rw [HY.out]; simp only [notV, List.foldl_append]; rfl, rfl⟩
              case measure => simp [intOf]
            · have hb : (bits .and .u8 off 2 != 0) = false := by simpa using hb
              have HY := Lib.hid (selL_no off 1 hb)
              go_wp2_with fail
              go_round
              case rel => exact ⟨2, _, by omega, rfl, by rw [HY.out]; exact HS2.out, by rw [HY.out], rfl⟩
              case measure => simp [intOf]
          · by_cases hb : (bits .and .u8 off 4 != 0) = true
            · have HY := Lib.hid (selL_yes off 2 hb)
              go_wp2_with fail
              go_round
              case rel => exact ⟨3, _, by omega, rfl, by rw [HY.out, ← List.append_assoc]; exact append_list HS2.out rfl, by rw [HY.out]; simp only [notV, List.foldl_append]; rfl, rfl⟩
              case measure => simp [intOf]
            · have hb : (bits .and .u8 off 4 != 0) = false := by simpa using hb
              have HY := Lib.hid (selL_no off 2 hb)
              go_wp2_with fail
              go_round
              case rel => exact ⟨3, _, by omega, rfl, by rw [HY.out]; exact HS2.out, by rw [HY.out], rfl⟩
              case measure => simp [intOf]
          · by_cases hb : (bits .and .u8 off 8 != 0) = true
            · have HY := Lib.hid (selL_yes off 3 hb)
              go_wp2_with fail
              go_round
              case rel => exact ⟨4, _, by omega, rfl, by rw [HY.out, ← List.append_assoc]; exact append_list HS2.out rfl, by rw [HY.out]; simp only [notV, List.foldl_append]; rfl, rfl⟩
              case measure => simp [intOf]
            · have hb : (bits .and .u8 off 8 != 0) = false := by simpa using hb
              have HY := Lib.hid (selL_no off 3 hb)
              go_wp2_with fail
              go_round
              case rel => exact ⟨4, _, by omega, rfl, by rw [HY.out]; exact HS2.out, by rw [HY.out], rfl⟩
              case measure => simp [intOf]
          · cases group
            · go_wp2_with fail
              obtain ⟨T, hT⟩ : ∃ T, T = S2 ++ (⟨#[41]⟩ : ByteArray) := ⟨_, rfl⟩
              have hTl : T.data.toList = lettersText on off false := by
                rw [hT]; unfold lettersText; rw [HD.out]; exact append_list HS2.out rfl
              have hTs : T.size ≤ 12 := by
                rw [size_of_list hTl]; unfold lettersText; rw [HD.out]; have := selL_len on 4; have := selL_len off 4; simp only [List.length_append, List.length_cons, List.length_nil]; omega
              have HR := Lib.hid (letters_read T on off f false h2 h3 hTl)
              clear hTl
              rw [← hT]
              clear hT
              refine (scan_Flags T 0 f _ T2.out (Nat.zero_le _) (by omega)).mono ?_
              rintro e w3 ⟨rfl, hB⟩
              have B3 := Lib.hid (below_next B2.out (Nat.le_refl _) (grownBy_below hB none) (by simp)); clear hB
              rw [HR.out]
              simp only [flagsV]
              go_wp2_with fail
              go_ret
              exact ⟨rfl, B3.out.alloc B3.out.size _⟩
            · go_wp2_with fail
              obtain ⟨T, hT⟩ : ∃ T, T = S2 ++ (⟨#[58]⟩ : ByteArray) := ⟨_, rfl⟩
              have hTl : T.data.toList = lettersText on off true := by
                rw [hT]; unfold lettersText; rw [HD.out]; exact append_list HS2.out rfl
              have hTs : T.size ≤ 12 := by
                rw [size_of_list hTl]; unfold lettersText; rw [HD.out]; have := selL_len on 4; have := selL_len off 4; simp only [List.length_append, List.length_cons, List.length_nil]; omega
              have HR := Lib.hid (letters_read T on off f true h2 h3 hTl)
              clear hTl
              rw [← hT]
              clear hT
              refine (scan_Flags T 0 f _ T2.out (Nat.zero_le _) (by omega)).mono ?_
              rintro e w3 ⟨rfl, hB⟩
              have B3 := Lib.hid (below_next B2.out (Nat.le_refl _) (grownBy_below hB none) (by simp)); clear hB
              rw [HR.out]
              simp only [flagsV]
              go_wp2_with fail
              go_ret
              exact ⟨rfl, B3.out.alloc B3.out.size _⟩
      · have hd' : (off % 16 != 0) = false := by simpa using hd
        have HD := Lib.hid (show (if off % 16 != 0 then [45] else ([] : List UInt8)) = [] by rw [if_neg hd])
        clear hd
        go_wp2_with fail
        go_loop [12, 13, 15] (fun sv wv iv => ∃ (k : Nat) (S : ByteArray), k ≤ 4 ∧ sv = .string S ∧ S.data.toList = [40, 63] ++ selL on 4 ++ [] ++ selL off k ∧ wv = .int .i64 (notV (orV f (selL on 4)) (selL off k)) ∧ iv = .int .i64 k) (fun _ _ i => 4 - (intOf i).toNat)
        case atStart => exact ⟨0, _, Nat.zero_le _, rfl, by simp only [selL, List.append_nil]; exact HS.out, rfl, rfl⟩
        case round =>
          obtain ⟨k, S2, hk2, rfl, hS, rfl, rfl⟩ := hrel
          have HS2 := Lib.hid hS; clear hS hz hk
          have hk' : k = 0 ∨ k = 1 ∨ k = 2 ∨ k = 3 ∨ k = 4 := by omega
          have hz2 : S2.size ≤ 11 := by
            rw [size_of_list HS2.out]; have := selL_len on 4; have := selL_len off k; simp only [List.length_append, List.length_cons, List.length_nil]; omega
          rcases hk' with rfl | rfl | rfl | rfl | rfl
          · by_cases hb : (bits .and .u8 off 1 != 0) = true
            · have HY := Lib.hid (selL_yes off 0 hb)
              go_wp2_with fail
              go_round
              case rel => exact ⟨1, _, by omega, rfl, by rw [HY.out, ← List.append_assoc]; exact append_list HS2.out rfl, by rw [HY.out]; simp only [notV, List.foldl_append]; rfl, rfl⟩
              case measure => simp [intOf]
            · have hb : (bits .and .u8 off 1 != 0) = false := by simpa using hb
              have HY := Lib.hid (selL_no off 0 hb)
              go_wp2_with fail
              go_round
              case rel => exact ⟨1, _, by omega, rfl, by rw [HY.out]; exact HS2.out, by rw [HY.out], rfl⟩
              case measure => simp [intOf]
          · by_cases hb : (bits .and .u8 off 2 != 0) = true
            · have HY := Lib.hid (selL_yes off 1 hb)
              go_wp2_with fail
              go_round
              case rel => exact ⟨2, _, by omega, rfl, by rw [HY.out, ← List.append_assoc]; exact append_list HS2.out rfl, by rw [HY.out]; simp only [notV, List.foldl_append]; rfl, rfl⟩
              case measure => simp [intOf]
            · have hb : (bits .and .u8 off 2 != 0) = false := by simpa using hb
              have HY := Lib.hid (selL_no off 1 hb)
              go_wp2_with fail
              go_round
              case rel => exact ⟨2, _, by omega, rfl, by rw [HY.out]; exact HS2.out, by rw [HY.out], rfl⟩
              case measure => simp [intOf]
          · by_cases hb : (bits .and .u8 off 4 != 0) = true
            · have HY := Lib.hid (selL_yes off 2 hb)
              go_wp2_with fail
              go_round
              case rel => exact ⟨3, _, by omega, rfl, by rw [HY.out, ← List.append_assoc]; exact append_list HS2.out rfl, by rw [HY.out]; simp only [notV, List.foldl_append]; rfl, rfl⟩
              case measure => simp [intOf]
            · have hb : (bits .and .u8 off 4 != 0) = false := by simpa using hb
              have HY := Lib.hid (selL_no off 2 hb)
              go_wp2_with fail
              go_round
              case rel => exact ⟨3, _, by omega, rfl, by rw [HY.out]; exact HS2.out, by rw [HY.out], rfl⟩
              case measure => simp [intOf]
          · by_cases hb : (bits .and .u8 off 8 != 0) = true
            · have HY := Lib.hid (selL_yes off 3 hb)
              go_wp2_with fail
              go_round
              case rel => exact ⟨4, _, by omega, rfl, by rw [HY.out, ← List.append_assoc]; exact append_list HS2.out rfl, by rw [HY.out]; simp only [notV, List.foldl_append]; rfl, rfl⟩
              case measure => simp [intOf]
            · have hb : (bits .and .u8 off 8 != 0) = false := by simpa using hb
              have HY := Lib.hid (selL_no off 3 hb)
              go_wp2_with fail
              go_round
              case rel => exact ⟨4, _, by omega, rfl, by rw [HY.out]; exact HS2.out, by rw [HY.out], rfl⟩
              case measure => simp [intOf]
          · cases group
            · go_wp2_with fail
              obtain ⟨T, hT⟩ : ∃ T, T = S2 ++ (⟨#[41]⟩ : ByteArray) := ⟨_, rfl⟩
              have hTl : T.data.toList = lettersText on off false := by
                rw [hT]; unfold lettersText; rw [HD.out]; exact append_list HS2.out rfl
              have hTs : T.size ≤ 12 := by
                rw [size_of_list hTl]; unfold lettersText; rw [HD.out]; have := selL_len on 4; have := selL_len off 4; simp only [List.length_append, List.length_cons, List.length_nil]; omega
              have HR := Lib.hid (letters_read T on off f false h2 h3 hTl)
              clear hTl
              rw [← hT]
              clear hT
              refine (scan_Flags T 0 f _ T2.out (Nat.zero_le _) (by omega)).mono ?_
              rintro e w3 ⟨rfl, hB⟩
              have B3 := Lib.hid (below_next B2.out (Nat.le_refl _) (grownBy_below hB none) (by simp)); clear hB
              rw [HR.out]
              simp only [flagsV]
              go_wp2_with fail
              go_ret
              exact ⟨rfl, B3.out.alloc B3.out.size _⟩
            · go_wp2_with fail
              obtain ⟨T, hT⟩ : ∃ T, T = S2 ++ (⟨#[58]⟩ : ByteArray) := ⟨_, rfl⟩
              have hTl : T.data.toList = lettersText on off true := by
                rw [hT]; unfold lettersText; rw [HD.out]; exact append_list HS2.out rfl
              have hTs : T.size ≤ 12 := by
                rw [size_of_list hTl]; unfold lettersText; rw [HD.out]; have := selL_len on 4; have := selL_len off 4; simp only [List.length_append, List.length_cons, List.length_nil]; omega
              have HR := Lib.hid (letters_read T on off f true h2 h3 hTl)
              clear hTl
              rw [← hT]
              clear hT
              refine (scan_Flags T 0 f _ T2.out (Nat.zero_le _) (by omega)).mono ?_
              rintro e w3 ⟨rfl, hB⟩
              have B3 := Lib.hid (below_next B2.out (Nat.le_refl _) (grownBy_below hB none) (by simp)); clear hB
              rw [HR.out]
              simp only [flagsV]
              go_wp2_with fail
              go_ret
              exact ⟨rfl, B3.out.alloc B3.out.size _⟩
end Go.Proofs.YtjmgboegipeijaaGreatDoor
