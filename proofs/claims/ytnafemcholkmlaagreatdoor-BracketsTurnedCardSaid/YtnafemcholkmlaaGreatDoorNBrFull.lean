/- brackets.Class: its contract, with any flags. A class and the same one turned. BracketsTurned: a class with ^ has just what the same one without does not have; with FlagFold it has all of an orbit, or none: the law's walk. The library's two tables for UTF-8, off what a row lists. -/
import Derived.Test.YtnafemcholkmlaaGreatDoorQBrClass
import Derived.Test.YtnafemcholkmlaaGreatDoorNFoldPure
import Derived.Test.YtnafemcholkmlaaGreatDoorNShiftPure
import Derived.Test.YtnafemcholkmlaaGreatDoorQNext
import Derived.Lib.LaidU8
import Derived.KernelRfl
import GoSem.PinnedTables
namespace Go.Proofs.YtnafemcholkmlaaGreatDoor
open Go Go.RowKit Go.Proofs Go.Shelf

/-- What folding does. -/
def foldO (f : Int) : Option ((Int → Bool) → Int → Bool) := if onB f 1 then some foldF else none
/-- The contract of brackets.Class. -/
theorem brackets_Class (s : ByteArray) (p : Nat) (f : Int) (w : World) (hp : p ≤ s.size) (hs : s.size ≤ 100000000) (hT : Tabs w) :
    Calls Tryz.prog 8 #[.string s, .int .i64 p, .int .i64 f] w (ClsOut w (clsQ s p (onB f 32) (foldO f))) := by
  unfold foldO
  by_cases hf : onB f 1 = true
  · rw [if_pos hf]
    by_cases hn : stands s p [91] = true
    · cases hi : itemP s (clsAt s p) (onB f 32) p with
      | wrong x a b =>
        have e : clsQ s p (onB f 32) (some foldF) = .wrong x a b := by unfold clsQ clsP; rw [hn, hi]; rfl
        rw [e]
        exact cls_first s p f w hp hs hT (onB f 32) rfl hn x a b hi
      | ok f0 q0 => exact cls_folded s p f w hp hs hT (onB f 32) rfl hf hn f0 q0 hi
    · have e : clsQ s p (onB f 32) (some foldF) = .wrong 1 p p := by unfold clsQ clsP; rw [if_pos hn]
      rw [e]
      exact cls_closed s p f w hp (onB f 32) rfl (Bool.eq_false_iff.2 hn)
  · rw [if_neg hf]
    exact brackets_plain s p f w hp hs hT (onB f 32) rfl (Bool.eq_false_iff.2 hf)

/-- What is wrong has a reason. -/
def ItemOk : ItemR → Prop
  | .wrong e _ _ => e ≠ 0
  | .ok _ _ => True
theorem itemP_ok (s : ByteArray) (p : Nat) (perl : Bool) (fr : Int) : ItemOk (itemP s p perl fr) := by
  unfold itemP
  split
  · split
    · show (72 : Int) ≠ 0; decide
    · trivial
  split
  · show (71 : Int) ≠ 0; decide
  have h1 := oneP_ok s p perl
  split
  · rename_i e f t he; rw [he] at h1; exact h1
  · trivial
  · split
    · show (72 : Int) ≠ 0; decide
    · split
      · rename_i k r a q _ _ _
        have h2 := oneP_ok s (q.toNat + 1) perl
        split
        · rename_i e f t he; rw [he] at h2; exact h2
        · show (72 : Int) ≠ 0; decide
        · split
          · show (72 : Int) ≠ 0; decide
          · trivial
      · trivial
theorem restP_ok (s : ByteArray) (perl : Bool) (fr : Int) : ∀ (n p : Nat) (g : Int → Bool), p ≤ s.size → s.size + 1 - p ≤ n → ItemOk (restP s perl fr n p g)
  | 0, p, _, hp, hn => by omega
  | n + 1, p, g, hp, hn => by
    unfold restP
    split
    · trivial
    · have h1 := itemP_ok s p perl fr
      cases hi : itemP s p perl fr with
      | wrong e f t => rw [hi] at h1; exact h1
      | ok f q =>
        have hq := itemP_q hp hi
        exact restP_ok s perl fr n q _ hq.2 (by omega)
theorem clsP_ok (s : ByteArray) (p : Nat) (perl : Bool) (hp : p ≤ s.size) : ItemOk (clsP s p perl) := by
  unfold clsP
  by_cases hn : stands s p [91] = true
  · rw [if_neg (by simpa using hn)]
    have h1 := itemP_ok s (clsAt s p) perl p
    cases hi : itemP s (clsAt s p) perl p with
    | wrong e f t => rw [hi] at h1; exact h1
    | ok f q =>
      have hq := itemP_q (clsAt_le hp hn).1 hi
      exact restP_ok s perl p _ q _ hq.2 (by omega)
  · rw [if_pos hn]
    show (1 : Int) ≠ 0; decide
theorem clsP_q {s : ByteArray} {p : Nat} {perl : Bool} {g : Int → Bool} {q : Nat} (hp : p ≤ s.size) (h : clsP s p perl = .ok g q) : p < q ∧ q ≤ s.size := by
  unfold clsP at h
  by_cases hn : stands s p [91] = true
  · rw [if_neg (by simpa using hn)] at h
    cases hi : itemP s (clsAt s p) perl p with
    | wrong e f t => rw [hi] at h; cases h
    | ok f q0 =>
      rw [hi] at h
      have hc := clsAt_le hp hn
      have hq := itemP_q hc.1 hi
      have := restP_q hq.2 h
      omega
  · rw [if_pos hn] at h; cases h
end Go.Proofs.YtnafemcholkmlaaGreatDoor

namespace Go.Proofs.YtnafemcholkmlaaGreatDoor
open Go Go.RowKit Go.Proofs Go.Shelf

theorem stands_notT {s : ByteArray} {p : Nat} {c d : UInt8} {t r : List UInt8} (hs : s.data.toList.drop p = c :: r) (h : c ≠ d) : stands s p (d :: t) = false := by
  unfold stands Lib.hasPrefix; rw [hs]; simp [List.isPrefixOf]; intro e; exact absurd e.symm h
theorem stands_isT {s : ByteArray} {p : Nat} {l rest : List UInt8} (h : s.data.toList.drop p = l ++ rest) : stands s p l = true := by
  unfold stands Lib.hasPrefix
  rw [h]; simp
theorem sizeT (b : ByteArray) : b.size = b.data.toList.length := by simp
/-- The two texts. -/
theorem turned_sh {s1 s2 : ByteArray} (items : List UInt8) (h1 : s1.data.toList = 91 :: (items ++ [93])) (h2 : s2.data.toList = 91 :: 94 :: (items ++ [93])) : Sh s1 s2 1 1 := by
  refine ⟨by rw [sizeT, sizeT, h1, h2]; simp, fun p hp => ?_⟩
  obtain ⟨q, rfl⟩ : ∃ q, p = q + 1 := ⟨p - 1, by omega⟩
  rw [h1, h2]; rfl
theorem turned_cls {s1 s2 : ByteArray} (items : List UInt8) (h1 : s1.data.toList = 91 :: (items ++ [93])) (h2 : s2.data.toList = 91 :: 94 :: (items ++ [93])) (hx : ∀ x r, items = x :: r → x ≠ 94) (perl : Bool) :
    stands s1 (0 + 1) [94] = false ∧ stands s2 (0 + 1) [94] = true ∧ ItemSame 1 (clsP s1 0 perl) (clsP s2 0 perl) := by
  have hsh := turned_sh items h1 h2
  have a1 : stands s1 (0 + 1) [94] = false := by
    have hd : s1.data.toList.drop (0 + 1) = items ++ [93] := by rw [h1]; rfl
    cases items with
    | nil => exact stands_notT (c := 93) (r := []) hd (by decide)
    | cons x r => exact stands_notT (c := x) (r := r ++ [93]) (by rw [hd]; rfl) (hx x r rfl)
  have a2 : stands s2 (0 + 1) [94] = true := stands_isT (l := [94]) (rest := items ++ [93]) (by rw [h2]; rfl)
  have b1 : stands s1 0 [91] = true := stands_isT (l := [91]) (rest := items ++ [93]) (by rw [h1]; rfl)
  have b2 : stands s2 0 [91] = true := stands_isT (l := [91]) (rest := 94 :: (items ++ [93])) (by rw [h2]; rfl)
  have z1 : s1.size = items.length + 2 := by rw [sizeT, h1]; simp
  have z2 : s2.size = items.length + 3 := by rw [sizeT, h2]; simp
  refine ⟨a1, a2, ?_⟩
  unfold clsP
  have c1 : clsAt s1 0 = 1 := by unfold clsAt; rw [a1]; rfl
  have c2 : clsAt s2 0 = 2 := by unfold clsAt; rw [a2]; rfl
  rw [if_neg (by simpa using b1), if_neg (by simpa using b2), c1, c2]
  have hi := itemP_sh hsh (Nat.le_refl 1) (by omega) perl (0 : Nat) (0 : Nat)
  have hi' : ItemSame 1 (itemP s1 1 perl ((0 : Nat) : Int)) (itemP s2 2 perl ((0 : Nat) : Int)) := hi
  cases e1 : itemP s1 1 perl ((0 : Nat) : Int) with
  | wrong e f t =>
    rw [e1] at hi'
    cases e2 : itemP s2 2 perl ((0 : Nat) : Int) with
    | wrong _ _ _ => rw [e2] at hi'; exact hi'
    | ok _ _ => rw [e2] at hi'; exact hi'.elim
  | ok f q =>
    rw [e1] at hi'
    have hq := itemP_q (by omega) e1
    cases e2 : itemP s2 2 perl ((0 : Nat) : Int) with
    | wrong _ _ _ => rw [e2] at hi'; exact hi'.elim
    | ok f2 q2 =>
      rw [e2] at hi'
      obtain ⟨rfl, rfl⟩ := hi'
      exact restP_sh hsh perl _ _ _ _ q _ (by omega) hq.2 (by omega) (by omega)
theorem orbL_of {x c : Int} (h : x ∈ orbL c) : orbL x = orbL c := by
  cases hl : letterB c with
  | false => rw [orbL_none hl, List.mem_singleton] at h; rw [h]
  | true => exact (orb_same (letter_mem hl) h).2
theorem foldF_orb {g : Int → Bool} {x c : Int} (h : x ∈ orbL c) : foldF g x = foldF g c := by unfold foldF; rw [orbL_of h]
end Go.Proofs.YtnafemcholkmlaaGreatDoor

namespace Go.Proofs.YtnafemcholkmlaaGreatDoor
open Go Go.RowKit Go.Proofs Go.Shelf

set_option maxRecDepth 100000 in
set_option maxHeartbeats 8000000 in
theorem law_bracketsTurned (items : ByteArray) (f c : Int) (w : World) (hT : Tabs w) (hs : items.size ≤ 140737488351232) :
    Calls Tryz.prog 4 #[.string items, .int .i64 f, .int .i32 c] w fun e w' => e = .returned (.bool true) ∧ Below w.heap.size w w' := by
  have HT := Lib.hid hT; clear hT
  by_cases hbig : 3000 < items.size
  · have hbi : (3000 : Int) < (items.size : Int) := by omega
    go_enter Tryz.func4, Tryz.ntmps4
    go_wp2_with fail
    refine (head07 w HT.out).mono ?_
    rintro e w1 ⟨rfl, hB⟩
    have B1 := Lib.hid hB; clear hB
    go_wp2_with fail
    go_ret
    exact ⟨rfl, B1.out⟩
  have hsm : ¬ (3000 : Int) < (items.size : Int) := by omega
  by_cases hzero : items.size = 0
  · have hze : (items.size : Int) = 0 := by omega
    have hX : ∀ x r, items.data.toList = x :: r → x ≠ 94 := fun x r h => by
      have := congrArg List.length h
      rw [← sizeT] at this
      simp at this; omega
    have HX := Lib.hid hX; clear hX
    have hz0 : ¬ (0 : Int) < (items.size : Int) := by omega
    clear hze
    go_enter Tryz.func4, Tryz.ntmps4
    go_wp2_with fail
    refine (head07 w HT.out).mono ?_
    rintro e w1 ⟨rfl, hB⟩
    have B1 := Lib.hid hB; have T1 := Lib.hid (HT.out.below hB); clear hB
    go_wp2_with fail
    obtain ⟨U1, hU1⟩ : ∃ U, U = (⟨#[91]⟩ : ByteArray) ++ items ++ (⟨#[93]⟩ : ByteArray) := ⟨_, rfl⟩
    obtain ⟨U2, hU2⟩ : ∃ U, U = (⟨#[91, 94]⟩ : ByteArray) ++ items ++ (⟨#[93]⟩ : ByteArray) := ⟨_, rfl⟩
    have l1 : U1.data.toList = 91 :: (items.data.toList ++ [93]) := by rw [hU1]; simp only [ByteArray.data_append, Array.toList_append]; rfl
    have l2 : U2.data.toList = 91 :: 94 :: (items.data.toList ++ [93]) := by rw [hU2]; simp only [ByteArray.data_append, Array.toList_append]; rfl
    have z1 : U1.size ≤ 3003 := by rw [sizeT, l1]; simp; omega
    have z2 : U2.size ≤ 3003 := by rw [sizeT, l2]; simp; omega
    obtain ⟨t1, t2, t3⟩ := turned_cls items.data.toList l1 l2 HX.out (onB f 32)
    have ho1 := clsP_ok U1 0 (onB f 32) (Nat.zero_le _)
    have Z1 := Lib.hid z1; have Z2 := Lib.hid z2; have HU2 := Lib.hid hU2; have HU1 := Lib.hid hU1
    have T1' := Lib.hid t1; have T2' := Lib.hid t2
    rw [← hU1]
    clear hU1 hU2 l1 l2 z1 z2 t1 t2
    cases hc1 : clsP U1 0 (onB f 32) with
    | wrong x a b =>
      rw [hc1] at t3 ho1
      cases hc2 : clsP U2 0 (onB f 32) with
      | ok _ _ => rw [hc2] at t3; exact t3.elim
      | wrong x2 a2 b2 =>
        rw [hc2] at t3
        obtain rfl : x2 = x := t3
        have hx0 : (x2 == 0) = false := by simpa [ItemOk] using ho1
        have Q1 := Lib.hid (show ∀ F, clsQ U1 0 (onB f 32) F = .wrong x2 a b from fun F => by unfold clsQ; rw [hc1])
        have Q2 := Lib.hid (show clsQ U2 0 (onB f 32) (foldO f) = .wrong x2 a2 b2 by unfold clsQ; rw [hc2])
        clear hc1 hc2 ho1
        refine (brackets_Class U1 0 f w1 (Nat.zero_le _) (by have := Z1.out; omega) T1.out).mono ?_
        rw [Q1.out]
        rintro e w2 ⟨hB2, rfl⟩
        have B2 := Lib.hid (B1.out.trans (hB2.mono B1.out.size)); have T2 := Lib.hid (T1.out.below hB2)
        have K2 := Lib.hid (Blk.new w2 [.int .i64 x2, .int .i64 a, .int .i64 b] 27)
        clear hB2
        go_wp2_with fail
        rw [← HU2.out]
        refine (brackets_Class U2 0 f _ (Nat.zero_le _) (by have := Z2.out; omega) (T2.out.alloc _)).mono ?_
        rw [Q2.out]
        rintro e w3 ⟨hB3, rfl⟩
        have K3 := Lib.hid (Blk.below K2.out hB3 K2.out.lt)
        have hz23 : w2.heap.size < w3.heap.size := by have := hB3.size; simp at this; omega
        have B3 := Lib.hid ((B2.out.alloc B2.out.size (.cells #[.int .i64 x2, .int .i64 a, .int .i64 b] 27)).trans (hB3.mono (by have := B2.out.size; simp; omega)))
        have T3 := Lib.hid ((T2.out.alloc (.cells #[.int .i64 x2, .int .i64 a, .int .i64 b] 27)).below hB3)
        have K4 := Lib.hid (K3.out.alloc (.cells #[.int .i64 x2, .int .i64 a2, .int .i64 b2] 27))
        have k40 := Blk.cell K4.out (j := 0) rfl
        clear hB3
        go_wp2_with fail
        rw [← HU1.out]
        refine (brackets_Class U1 0 (bits BinOp.or IntKind.i64 f 1) _ (Nat.zero_le _) (by have := Z1.out; omega) (T3.out.alloc _)).mono ?_
        rw [onB_or_other, Q1.out]
        rintro e w4 ⟨hB4, rfl⟩
        have K5 := Lib.hid (Blk.below (K3.out.alloc (.cells #[.int .i64 x2, .int .i64 a2, .int .i64 b2] 27)) hB4 (by have := K3.out.lt; simp; omega))
        have B4 := Lib.hid ((B3.out.alloc B3.out.size (.cells #[.int .i64 x2, .int .i64 a2, .int .i64 b2] 27)).trans (hB4.mono (by have := B3.out.size; simp; omega)))
        have K6 := Lib.hid (K5.out.alloc (.cells #[.int .i64 x2, .int .i64 a, .int .i64 b] 27))
        have N6 := Lib.hid (Blk.new w4 [.int .i64 x2, .int .i64 a, .int .i64 b] 27)
        have B5 := Lib.hid (B4.out.alloc B4.out.size (.cells #[.int .i64 x2, .int .i64 a, .int .i64 b] 27))
        clear hB4 k40
        go_wp2_with fail
        have HEQ := Lib.hid (show ∀ y, y ∈ orbL c → 0 ≤ c → c ≤ 1114111 → hasB [] y = hasB [] c from fun y _ _ _ => by unfold hasB; simp [memR])
        generalize hW5 : w4.alloc (.cells #[.int .i64 x2, .int .i64 a, .int .i64 b] 27) = W5 at K6 N6 B5 ⊢
        generalize hb4 : w4.heap.size = b4 at N6 ⊢
        clear hW5 hb4
        by_cases hcr : 0 ≤ c ∧ c ≤ 1114111
        · have HCR := Lib.hid hcr; clear hcr
          refine (ref03_Orbit c W5 HCR.out.1 HCR.out.2).mono ?_
          rintro e w6 ⟨v, rfl, ho, hB6⟩
          have hpos : 0 < (orbL c).length := List.length_pos_of_mem (orb_self c)
          obtain ⟨g6, cap6, rfl, _, _⟩ := World.ownsRow.form ho hpos
          have HO := Lib.hid ho
          have K7 := Lib.hid (Blk.below K6.out hB6 K6.out.lt); have N7 := Lib.hid (Blk.below N6.out hB6 N6.out.lt)
          have B6 := Lib.hid (B5.out.trans (hB6.mono B5.out.size))
          have hnil := True.intro
          have hlen : (orbL c).length ≤ 3 := by rw [← (orb_good HCR.out.1 HCR.out.2).2.2.2.length_eq]; exact (orb_good HCR.out.1 HCR.out.2).2.1
          obtain ⟨O, hO⟩ : ∃ O, orbL c = O := ⟨_, rfl⟩
          rw [hO] at HO hlen hpos ⊢
          have HOO := Lib.hid hO; have HLEN := Lib.hid hlen
          clear ho hB6 hO hlen hpos
          go_wp2_with fail
          go_loop [18] (fun iv => ∃ k : Nat, k ≤ O.length ∧ iv = .int .i64 k) (fun iv => O.length - (intOf iv).toNat)
          case atStart => exact ⟨0, Nat.zero_le _, rfl⟩
          case round =>
            obtain ⟨k, hk, rfl⟩ := hrel
            have hol := HLEN.out
            by_cases hlt : k < O.length
            · have gk := HO.out.cellAt k (by omega)
              rw [vR_get O k hlt] at gk
              obtain ⟨y, hy⟩ : ∃ y, O[k] = y := ⟨_, rfl⟩
              rw [hy] at gk
              have HY := Lib.hid (show y ∈ orbL c by rw [HOO.out, ← hy]; exact List.getElem_mem hlt)
              clear hy
              go_wp2_with fail
              refine (ref02_Has [] none 0 _ y w6 (RangesV.nil w6 0)).mono ?_
              rintro e w7 ⟨rfl, rfl⟩
              go_wp2_with fail
              refine (ref02_Has [] none 0 _ c w7 (RangesV.nil w7 0)).mono ?_
              rintro e w8 ⟨rfl, rfl⟩
              rw [HEQ.out y HY.out HCR.out.1 HCR.out.2]
              have hbb : (hasB [] c != hasB [] c) = false := by simp
              go_wp2_with fail
              go_round
              case rel => exact ⟨k + 1, hlt, by go_num⟩
              case measure => simp [intOf]; omega
            · obtain rfl : k = O.length := by omega
              have k7 := Blk.cell K7.out (j := 0) rfl; have n7 := Blk.cell N7.out (j := 0) rfl
              go_wp2_with fail
              go_ret
              exact ⟨rfl, B6.out⟩
        · refine (ref03_Orbit_out c W5 (by omega)).mono ?_
          rintro e w6 ⟨rfl, rfl⟩
          have k7 := Blk.cell K6.out (j := 0) rfl; have n7 := Blk.cell N6.out (j := 0) rfl
          go_wp2_with fail
          go_loop [18] (fun iv => iv = .int .i64 0) (fun _ => 0)
          case atStart => rfl
          case round =>
            subst hrel
            go_wp2_with fail
            go_ret
            exact ⟨rfl, B5.out⟩
    | ok g q =>
      rw [hc1] at t3
      cases hc2 : clsP U2 0 (onB f 32) with
      | wrong _ _ _ => rw [hc2] at t3; exact t3.elim
      | ok g2 q2 =>
        rw [hc2] at t3
        obtain ⟨rfl, rfl⟩ := t3
        have hq1 := clsP_q (Nat.zero_le _) hc1
        have Q1 := Lib.hid (show ∀ F, clsQ U1 0 (onB f 32) F = .ok (fun x => (match F with | none => g2 x | some F => F g2 x) != false) q from fun F => by unfold clsQ; rw [hc1, T1'.out]; rfl)
        have Q2 := Lib.hid (show clsQ U2 0 (onB f 32) (foldO f) = .ok (fun x => (match foldO f with | none => g2 x | some F => F g2 x) != true) (q + 1) by unfold clsQ; rw [hc2, T2'.out]; rfl)
        have hqq : (q : Int) ≤ 3003 := by have := Z1.out; omega
        clear hc1 hc2 ho1 hq1
        refine (brackets_Class U1 0 f w1 (Nat.zero_le _) (by have := Z1.out; omega) T1.out).mono ?_
        rw [Q1.out]
        rintro e w2 ⟨hB2, va, outa, rfl, hLa, hIa⟩
        obtain ⟨aa, ac, rfl, hra, _⟩ := hLa.ranges (by have := hIa.len; omega)
        have IA := Lib.hid hIa; have RA := Lib.hid hra
        have B2 := Lib.hid (B1.out.trans (hB2.mono B1.out.size)); have T2 := Lib.hid (T1.out.below hB2)
        have K2 := Lib.hid (Blk.new w2 [.int .i64 0, .int .i64 0, .int .i64 0] 27)
        clear hB2 hLa hIa hra
        go_wp2_with fail
        rw [← HU2.out]
        refine (brackets_Class U2 0 f _ (Nat.zero_le _) (by have := Z2.out; omega) (T2.out.alloc _)).mono ?_
        rw [Q2.out]
        rintro e w3 ⟨hB3, vb, outb, rfl, hLb, hIb⟩
        obtain ⟨ba, bc, rfl, hrb, _⟩ := hLb.ranges (by have := hIb.len; omega)
        have IB := Lib.hid hIb; have RB := Lib.hid hrb
        have K3 := Lib.hid (Blk.below K2.out hB3 K2.out.lt)
        have hz23 : w2.heap.size < w3.heap.size := by have := hB3.size; simp at this; omega
        have RA3 := Lib.hid ((RA.out.below ((Below.refl _ w2).alloc (Nat.le_refl _) (.cells #[.int .i64 0, .int .i64 0, .int .i64 0] 27))).below (hB3.mono (by simp)))
        have B3 := Lib.hid ((B2.out.alloc B2.out.size (.cells #[.int .i64 0, .int .i64 0, .int .i64 0] 27)).trans (hB3.mono (by have := B2.out.size; simp; omega)))
        have T3 := Lib.hid ((T2.out.alloc (.cells #[.int .i64 0, .int .i64 0, .int .i64 0] 27)).below hB3)
        have K4 := Lib.hid (K3.out.alloc (.cells #[.int .i64 0, .int .i64 0, .int .i64 0] 27))
        have k40 := Blk.cell K4.out (j := 0) rfl
        have RA4 := Lib.hid (RA3.out.below ((Below.refl _ w3).alloc (Nat.le_refl _) (.cells #[.int .i64 0, .int .i64 0, .int .i64 0] 27) |>.mono (by omega)))
        have RB4 := Lib.hid (RB.out.below ((Below.refl _ w3).alloc (Nat.le_refl _) (.cells #[.int .i64 0, .int .i64 0, .int .i64 0] 27)))
        have HNot := Lib.hid (ref02_Not outa aa outa.length ac w2.heap.size (w3.alloc (.cells #[.int .i64 0, .int .i64 0, .int .i64 0] 27)) RA4.out (by simp; omega) (by have := IA.out.len; omega))
        clear hB3 hLb hIb hrb
        go_wp2_with fail
        refine (HNot.out).mono ?_
        rintro e w4 ⟨vn, outn, rfl, hLn, hs1, hs2, hs3, hBn⟩
        obtain rfl : outb = outn := IsSet.unique IB.out ⟨hs1, fun x => by
          rw [hs2]; show (decide (0 ≤ x) && decide (x ≤ 1114111) && !memR outa x) = _; rw [IA.out.2]
          cases decide (0 ≤ x) <;> cases decide (x ≤ 1114111) <;> simp⟩
        obtain ⟨na, nc, rfl, hrn, _⟩ := hLn.ranges (by have := IB.out.len; omega)
        have RB5 := Lib.hid ((RB4.out.below (hBn.mono (by simp))).mono (B' := w4.heap.size) (by have := hBn.size; simp at this; omega))
        have RN := Lib.hid hrn
        have K5 := Lib.hid (Blk.below K4.out hBn (by simp; have := K3.out.lt; omega))
        have T4 := Lib.hid ((T3.out.alloc (.cells #[.int .i64 0, .int .i64 0, .int .i64 0] 27)).below hBn)
        have B4 := Lib.hid ((B3.out.alloc B3.out.size (.cells #[.int .i64 0, .int .i64 0, .int .i64 0] 27)).trans (hBn.mono (by have := B3.out.size; simp; omega)))
        clear hLn hs1 hs2 hs3 hBn hrn k40
        go_wp2_with fail
        refine (ref02_Same outb na ba nc bc w4.heap.size w4 RN.out RB5.out (Nat.le_refl _)).mono ?_
        rintro e w5 ⟨rfl, hB5⟩
        have K6 := Lib.hid (Blk.below K5.out hB5 K5.out.lt)
        have T5 := Lib.hid (T4.out.below hB5)
        have B5 := Lib.hid (B4.out.trans (hB5.mono B4.out.size))
        clear hB5
        go_wp2_with fail
        rw [← HU1.out]
        refine (brackets_Class U1 0 (bits BinOp.or IntKind.i64 f 1) _ (Nat.zero_le _) (by have := Z1.out; omega) T5.out).mono ?_
        rw [onB_or_other, show foldO (bits BinOp.or IntKind.i64 f 1) = some foldF by unfold foldO; rw [if_pos (onB_or_same f)], Q1.out (some foldF)]
        rintro e w6 ⟨hB6, vd, outd, rfl, hLd, hId⟩
        obtain ⟨da, dc, rfl, hrd, _⟩ := hLd.ranges (by have := hId.len; omega)
        have DD := Lib.hid hId; have RD := Lib.hid hrd
        have K7 := Lib.hid ((Blk.below K6.out hB6 K6.out.lt))
        have B6 := Lib.hid (B5.out.trans (hB6.mono B5.out.size))
        clear hB6 hLd hId hrd
        go_wp2_with fail
        have K6 := Lib.hid (K7.out.alloc (.cells #[.int .i64 0, .int .i64 0, .int .i64 0] 27))
        have N6 := Lib.hid (Blk.new w6 [.int .i64 0, .int .i64 0, .int .i64 0] 27)
        have B5 := Lib.hid (B6.out.alloc B6.out.size (.cells #[.int .i64 0, .int .i64 0, .int .i64 0] 27))
        have RD6 := Lib.hid (RD.out.below ((Below.refl _ w6).alloc (Nat.le_refl _) (.cells #[.int .i64 0, .int .i64 0, .int .i64 0] 27)))
        have HEQ := Lib.hid (show ∀ y, y ∈ orbL c → 0 ≤ c → c ≤ 1114111 → hasB outd y = hasB outd c from fun y hy h0 h1 => by
          unfold hasB
          rw [DD.out.2, DD.out.2]
          dsimp only
          have hr := (orb_good h0 h1).2.2.1 y ((orb_good h0 h1).2.2.2.mem_iff.2 hy)
          rw [show ((match some foldF with | none => g2 y | some F => F g2 y) != false) = ((match some foldF with | none => g2 c | some F => F g2 c) != false) from congrArg (· != false) (foldF_orb (g := g2) hy)]
          rw [decide_eq_true h0, decide_eq_true h1, decide_eq_true (by omega : 0 ≤ y), decide_eq_true (by omega : y ≤ 1114111)])
        clear K7 B6 RD
        generalize hW5 : w6.alloc (.cells #[.int .i64 0, .int .i64 0, .int .i64 0] 27) = W5 at K6 N6 B5 RD6 ⊢
        generalize hb4 : w6.heap.size = b4 at N6 RD6 ⊢
        clear hW5 hb4
        by_cases hcr : 0 ≤ c ∧ c ≤ 1114111
        · have HCR := Lib.hid hcr; clear hcr
          refine (ref03_Orbit c W5 HCR.out.1 HCR.out.2).mono ?_
          rintro e w6 ⟨v, rfl, ho, hB6⟩
          have hpos : 0 < (orbL c).length := List.length_pos_of_mem (orb_self c)
          obtain ⟨g6, cap6, rfl, _, _⟩ := World.ownsRow.form ho hpos
          have HO := Lib.hid ho
          have K7 := Lib.hid (Blk.below K6.out hB6 K6.out.lt); have N7 := Lib.hid (Blk.below N6.out hB6 N6.out.lt)
          have B6 := Lib.hid (B5.out.trans (hB6.mono B5.out.size))
          have RD7 := Lib.hid (RD6.out.below (hB6.mono (Nat.le_of_lt N6.out.lt)))
          have hlen : (orbL c).length ≤ 3 := by rw [← (orb_good HCR.out.1 HCR.out.2).2.2.2.length_eq]; exact (orb_good HCR.out.1 HCR.out.2).2.1
          obtain ⟨O, hO⟩ : ∃ O, orbL c = O := ⟨_, rfl⟩
          rw [hO] at HO hlen hpos ⊢
          have HOO := Lib.hid hO; have HLEN := Lib.hid hlen
          clear ho hB6 hO hlen hpos
          go_wp2_with fail
          go_loop [18] (fun iv => ∃ k : Nat, k ≤ O.length ∧ iv = .int .i64 k) (fun iv => O.length - (intOf iv).toNat)
          case atStart => exact ⟨0, Nat.zero_le _, rfl⟩
          case round =>
            obtain ⟨k, hk, rfl⟩ := hrel
            have hol := HLEN.out
            by_cases hlt : k < O.length
            · have gk := HO.out.cellAt k (by omega)
              rw [vR_get O k hlt] at gk
              obtain ⟨y, hy⟩ : ∃ y, O[k] = y := ⟨_, rfl⟩
              rw [hy] at gk
              have HY := Lib.hid (show y ∈ orbL c by rw [HOO.out, ← hy]; exact List.getElem_mem hlt)
              clear hy
              go_wp2_with fail
              refine (ref02_Has outd da dc _ y w6 RD7.out).mono ?_
              rintro e w7 ⟨rfl, rfl⟩
              go_wp2_with fail
              refine (ref02_Has outd da dc _ c w7 RD7.out).mono ?_
              rintro e w8 ⟨rfl, rfl⟩
              rw [HEQ.out y HY.out HCR.out.1 HCR.out.2]
              have hbb : (hasB outd c != hasB outd c) = false := by simp
              go_wp2_with fail
              go_round
              case rel => exact ⟨k + 1, hlt, by go_num⟩
              case measure => simp [intOf]; omega
            · obtain rfl : k = O.length := by omega
              have k7 := Blk.cell K7.out (j := 0) rfl; have n7 := Blk.cell N7.out (j := 0) rfl
              go_wp2_with fail
              go_ret
              exact ⟨rfl, B6.out⟩
        · refine (ref03_Orbit_out c W5 (by omega)).mono ?_
          rintro e w6 ⟨rfl, rfl⟩
          have k7 := Blk.cell K6.out (j := 0) rfl; have n7 := Blk.cell N6.out (j := 0) rfl
          go_wp2_with fail
          go_loop [18] (fun iv => iv = .int .i64 0) (fun _ => 0)
          case atStart => rfl
          case round =>
            subst hrel
            go_wp2_with fail
            go_ret
            exact ⟨rfl, B5.out⟩

  · have hz0 : (0 : Int) < (items.size : Int) := by omega
    have hz1 : 0 < items.size := by omega
    by_cases h94 : items[0] = 94
    · have e94 : ((items[0].toNat : Int) == 94) = true := by rw [h94]; rfl
      go_enter Tryz.func4, Tryz.ntmps4
      go_wp2_with fail
      refine (head07 w HT.out).mono ?_
      rintro e w1 ⟨rfl, hB⟩
      have B1 := Lib.hid hB; clear hB
      go_wp2_with fail
      go_ret
      exact ⟨rfl, B1.out⟩
    · have e94 : ((items[0].toNat : Int) == 94) = false := by
        rw [beq_eq_false_iff_ne]
        intro e
        exact h94 (UInt8.toNat_inj.1 (by have : (94 : UInt8).toNat = 94 := rfl; omega))
      have hX : ∀ x r, items.data.toList = x :: r → x ≠ 94 := fun x r h e => by
        have := getElem_toList items 0 hz1
        rw [h] at this
        simp at this
        exact h94 (by rw [← this, e])
      have HX := Lib.hid hX; clear hX h94
      go_enter Tryz.func4, Tryz.ntmps4
      go_wp2_with fail
      refine (head07 w HT.out).mono ?_
      rintro e w1 ⟨rfl, hB⟩
      have B1 := Lib.hid hB; have T1 := Lib.hid (HT.out.below hB); clear hB
      go_wp2_with fail
      obtain ⟨U1, hU1⟩ : ∃ U, U = (⟨#[91]⟩ : ByteArray) ++ items ++ (⟨#[93]⟩ : ByteArray) := ⟨_, rfl⟩
      obtain ⟨U2, hU2⟩ : ∃ U, U = (⟨#[91, 94]⟩ : ByteArray) ++ items ++ (⟨#[93]⟩ : ByteArray) := ⟨_, rfl⟩
      have l1 : U1.data.toList = 91 :: (items.data.toList ++ [93]) := by rw [hU1]; simp only [ByteArray.data_append, Array.toList_append]; rfl
      have l2 : U2.data.toList = 91 :: 94 :: (items.data.toList ++ [93]) := by rw [hU2]; simp only [ByteArray.data_append, Array.toList_append]; rfl
      have z1 : U1.size ≤ 3003 := by rw [sizeT, l1]; simp; omega
      have z2 : U2.size ≤ 3003 := by rw [sizeT, l2]; simp; omega
      obtain ⟨t1, t2, t3⟩ := turned_cls items.data.toList l1 l2 HX.out (onB f 32)
      have ho1 := clsP_ok U1 0 (onB f 32) (Nat.zero_le _)
      have Z1 := Lib.hid z1; have Z2 := Lib.hid z2; have HU2 := Lib.hid hU2; have HU1 := Lib.hid hU1
      have T1' := Lib.hid t1; have T2' := Lib.hid t2
      rw [← hU1]
      clear hU1 hU2 l1 l2 z1 z2 t1 t2
      cases hc1 : clsP U1 0 (onB f 32) with
      | wrong x a b =>
        rw [hc1] at t3 ho1
        cases hc2 : clsP U2 0 (onB f 32) with
        | ok _ _ => rw [hc2] at t3; exact t3.elim
        | wrong x2 a2 b2 =>
          rw [hc2] at t3
          obtain rfl : x2 = x := t3
          have hx0 : (x2 == 0) = false := by simpa [ItemOk] using ho1
          have Q1 := Lib.hid (show ∀ F, clsQ U1 0 (onB f 32) F = .wrong x2 a b from fun F => by unfold clsQ; rw [hc1])
          have Q2 := Lib.hid (show clsQ U2 0 (onB f 32) (foldO f) = .wrong x2 a2 b2 by unfold clsQ; rw [hc2])
          clear hc1 hc2 ho1
          refine (brackets_Class U1 0 f w1 (Nat.zero_le _) (by have := Z1.out; omega) T1.out).mono ?_
          rw [Q1.out]
          rintro e w2 ⟨hB2, rfl⟩
          have B2 := Lib.hid (B1.out.trans (hB2.mono B1.out.size)); have T2 := Lib.hid (T1.out.below hB2)
          have K2 := Lib.hid (Blk.new w2 [.int .i64 x2, .int .i64 a, .int .i64 b] 27)
          clear hB2
          go_wp2_with fail
          rw [← HU2.out]
          refine (brackets_Class U2 0 f _ (Nat.zero_le _) (by have := Z2.out; omega) (T2.out.alloc _)).mono ?_
          rw [Q2.out]
          rintro e w3 ⟨hB3, rfl⟩
          have K3 := Lib.hid (Blk.below K2.out hB3 K2.out.lt)
          have hz23 : w2.heap.size < w3.heap.size := by have := hB3.size; simp at this; omega
          have B3 := Lib.hid ((B2.out.alloc B2.out.size (.cells #[.int .i64 x2, .int .i64 a, .int .i64 b] 27)).trans (hB3.mono (by have := B2.out.size; simp; omega)))
          have T3 := Lib.hid ((T2.out.alloc (.cells #[.int .i64 x2, .int .i64 a, .int .i64 b] 27)).below hB3)
          have K4 := Lib.hid (K3.out.alloc (.cells #[.int .i64 x2, .int .i64 a2, .int .i64 b2] 27))
          have k40 := Blk.cell K4.out (j := 0) rfl
          clear hB3
          go_wp2_with fail
          rw [← HU1.out]
          refine (brackets_Class U1 0 (bits BinOp.or IntKind.i64 f 1) _ (Nat.zero_le _) (by have := Z1.out; omega) (T3.out.alloc _)).mono ?_
          rw [onB_or_other, Q1.out]
          rintro e w4 ⟨hB4, rfl⟩
          have K5 := Lib.hid (Blk.below (K3.out.alloc (.cells #[.int .i64 x2, .int .i64 a2, .int .i64 b2] 27)) hB4 (by have := K3.out.lt; simp; omega))
          have B4 := Lib.hid ((B3.out.alloc B3.out.size (.cells #[.int .i64 x2, .int .i64 a2, .int .i64 b2] 27)).trans (hB4.mono (by have := B3.out.size; simp; omega)))
          have K6 := Lib.hid (K5.out.alloc (.cells #[.int .i64 x2, .int .i64 a, .int .i64 b] 27))
          have N6 := Lib.hid (Blk.new w4 [.int .i64 x2, .int .i64 a, .int .i64 b] 27)
          have B5 := Lib.hid (B4.out.alloc B4.out.size (.cells #[.int .i64 x2, .int .i64 a, .int .i64 b] 27))
          clear hB4 k40
          go_wp2_with fail
          have HEQ := Lib.hid (show ∀ y, y ∈ orbL c → 0 ≤ c → c ≤ 1114111 → hasB [] y = hasB [] c from fun y _ _ _ => by unfold hasB; simp [memR])
          generalize hW5 : w4.alloc (.cells #[.int .i64 x2, .int .i64 a, .int .i64 b] 27) = W5 at K6 N6 B5 ⊢
          generalize hb4 : w4.heap.size = b4 at N6 ⊢
          clear hW5 hb4
          by_cases hcr : 0 ≤ c ∧ c ≤ 1114111
          · have HCR := Lib.hid hcr; clear hcr
            refine (ref03_Orbit c W5 HCR.out.1 HCR.out.2).mono ?_
            rintro e w6 ⟨v, rfl, ho, hB6⟩
            have hpos : 0 < (orbL c).length := List.length_pos_of_mem (orb_self c)
            obtain ⟨g6, cap6, rfl, _, _⟩ := World.ownsRow.form ho hpos
            have HO := Lib.hid ho
            have K7 := Lib.hid (Blk.below K6.out hB6 K6.out.lt); have N7 := Lib.hid (Blk.below N6.out hB6 N6.out.lt)
            have B6 := Lib.hid (B5.out.trans (hB6.mono B5.out.size))
            have hnil := True.intro
            have hlen : (orbL c).length ≤ 3 := by rw [← (orb_good HCR.out.1 HCR.out.2).2.2.2.length_eq]; exact (orb_good HCR.out.1 HCR.out.2).2.1
            obtain ⟨O, hO⟩ : ∃ O, orbL c = O := ⟨_, rfl⟩
            rw [hO] at HO hlen hpos ⊢
            have HOO := Lib.hid hO; have HLEN := Lib.hid hlen
            clear ho hB6 hO hlen hpos
            go_wp2_with fail
            go_loop [18] (fun iv => ∃ k : Nat, k ≤ O.length ∧ iv = .int .i64 k) (fun iv => O.length - (intOf iv).toNat)
            case atStart => exact ⟨0, Nat.zero_le _, rfl⟩
            case round =>
              obtain ⟨k, hk, rfl⟩ := hrel
              have hol := HLEN.out
              by_cases hlt : k < O.length
              · have gk := HO.out.cellAt k (by omega)
                rw [vR_get O k hlt] at gk
                obtain ⟨y, hy⟩ : ∃ y, O[k] = y := ⟨_, rfl⟩
                rw [hy] at gk
                have HY := Lib.hid (show y ∈ orbL c by rw [HOO.out, ← hy]; exact List.getElem_mem hlt)
                clear hy
                go_wp2_with fail
                refine (ref02_Has [] none 0 _ y w6 (RangesV.nil w6 0)).mono ?_
                rintro e w7 ⟨rfl, rfl⟩
                go_wp2_with fail
                refine (ref02_Has [] none 0 _ c w7 (RangesV.nil w7 0)).mono ?_
                rintro e w8 ⟨rfl, rfl⟩
                rw [HEQ.out y HY.out HCR.out.1 HCR.out.2]
                have hbb : (hasB [] c != hasB [] c) = false := by simp
                go_wp2_with fail
                go_round
                case rel => exact ⟨k + 1, hlt, by go_num⟩
                case measure => simp [intOf]; omega
              · obtain rfl : k = O.length := by omega
                have k7 := Blk.cell K7.out (j := 0) rfl; have n7 := Blk.cell N7.out (j := 0) rfl
                go_wp2_with fail
                go_ret
                exact ⟨rfl, B6.out⟩
          · refine (ref03_Orbit_out c W5 (by omega)).mono ?_
            rintro e w6 ⟨rfl, rfl⟩
            have k7 := Blk.cell K6.out (j := 0) rfl; have n7 := Blk.cell N6.out (j := 0) rfl
            go_wp2_with fail
            go_loop [18] (fun iv => iv = .int .i64 0) (fun _ => 0)
            case atStart => rfl
            case round =>
              subst hrel
              go_wp2_with fail
              go_ret
              exact ⟨rfl, B5.out⟩
      | ok g q =>
        rw [hc1] at t3
        cases hc2 : clsP U2 0 (onB f 32) with
        | wrong _ _ _ => rw [hc2] at t3; exact t3.elim
        | ok g2 q2 =>
          rw [hc2] at t3
          obtain ⟨rfl, rfl⟩ := t3
          have hq1 := clsP_q (Nat.zero_le _) hc1
          have Q1 := Lib.hid (show ∀ F, clsQ U1 0 (onB f 32) F = .ok (fun x => (match F with | none => g2 x | some F => F g2 x) != false) q from fun F => by unfold clsQ; rw [hc1, T1'.out]; rfl)
          have Q2 := Lib.hid (show clsQ U2 0 (onB f 32) (foldO f) = .ok (fun x => (match foldO f with | none => g2 x | some F => F g2 x) != true) (q + 1) by unfold clsQ; rw [hc2, T2'.out]; rfl)
          have hqq : (q : Int) ≤ 3003 := by have := Z1.out; omega
          clear hc1 hc2 ho1 hq1
          refine (brackets_Class U1 0 f w1 (Nat.zero_le _) (by have := Z1.out; omega) T1.out).mono ?_
          rw [Q1.out]
          rintro e w2 ⟨hB2, va, outa, rfl, hLa, hIa⟩
          obtain ⟨aa, ac, rfl, hra, _⟩ := hLa.ranges (by have := hIa.len; omega)
          have IA := Lib.hid hIa; have RA := Lib.hid hra
          have B2 := Lib.hid (B1.out.trans (hB2.mono B1.out.size)); have T2 := Lib.hid (T1.out.below hB2)
          have K2 := Lib.hid (Blk.new w2 [.int .i64 0, .int .i64 0, .int .i64 0] 27)
          clear hB2 hLa hIa hra
          go_wp2_with fail
          rw [← HU2.out]
          refine (brackets_Class U2 0 f _ (Nat.zero_le _) (by have := Z2.out; omega) (T2.out.alloc _)).mono ?_
          rw [Q2.out]
          rintro e w3 ⟨hB3, vb, outb, rfl, hLb, hIb⟩
          obtain ⟨ba, bc, rfl, hrb, _⟩ := hLb.ranges (by have := hIb.len; omega)
          have IB := Lib.hid hIb; have RB := Lib.hid hrb
          have K3 := Lib.hid (Blk.below K2.out hB3 K2.out.lt)
          have hz23 : w2.heap.size < w3.heap.size := by have := hB3.size; simp at this; omega
          have RA3 := Lib.hid ((RA.out.below ((Below.refl _ w2).alloc (Nat.le_refl _) (.cells #[.int .i64 0, .int .i64 0, .int .i64 0] 27))).below (hB3.mono (by simp)))
          have B3 := Lib.hid ((B2.out.alloc B2.out.size (.cells #[.int .i64 0, .int .i64 0, .int .i64 0] 27)).trans (hB3.mono (by have := B2.out.size; simp; omega)))
          have T3 := Lib.hid ((T2.out.alloc (.cells #[.int .i64 0, .int .i64 0, .int .i64 0] 27)).below hB3)
          have K4 := Lib.hid (K3.out.alloc (.cells #[.int .i64 0, .int .i64 0, .int .i64 0] 27))
          have k40 := Blk.cell K4.out (j := 0) rfl
          have RA4 := Lib.hid (RA3.out.below ((Below.refl _ w3).alloc (Nat.le_refl _) (.cells #[.int .i64 0, .int .i64 0, .int .i64 0] 27) |>.mono (by omega)))
          have RB4 := Lib.hid (RB.out.below ((Below.refl _ w3).alloc (Nat.le_refl _) (.cells #[.int .i64 0, .int .i64 0, .int .i64 0] 27)))
          have HNot := Lib.hid (ref02_Not outa aa outa.length ac w2.heap.size (w3.alloc (.cells #[.int .i64 0, .int .i64 0, .int .i64 0] 27)) RA4.out (by simp; omega) (by have := IA.out.len; omega))
          clear hB3 hLb hIb hrb
          go_wp2_with fail
          refine (HNot.out).mono ?_
          rintro e w4 ⟨vn, outn, rfl, hLn, hs1, hs2, hs3, hBn⟩
          obtain rfl : outb = outn := IsSet.unique IB.out ⟨hs1, fun x => by
            rw [hs2]; show (decide (0 ≤ x) && decide (x ≤ 1114111) && !memR outa x) = _; rw [IA.out.2]
            cases decide (0 ≤ x) <;> cases decide (x ≤ 1114111) <;> simp⟩
          obtain ⟨na, nc, rfl, hrn, _⟩ := hLn.ranges (by have := IB.out.len; omega)
          have RB5 := Lib.hid ((RB4.out.below (hBn.mono (by simp))).mono (B' := w4.heap.size) (by have := hBn.size; simp at this; omega))
          have RN := Lib.hid hrn
          have K5 := Lib.hid (Blk.below K4.out hBn (by simp; have := K3.out.lt; omega))
          have T4 := Lib.hid ((T3.out.alloc (.cells #[.int .i64 0, .int .i64 0, .int .i64 0] 27)).below hBn)
          have B4 := Lib.hid ((B3.out.alloc B3.out.size (.cells #[.int .i64 0, .int .i64 0, .int .i64 0] 27)).trans (hBn.mono (by have := B3.out.size; simp; omega)))
          clear hLn hs1 hs2 hs3 hBn hrn k40
          go_wp2_with fail
          refine (ref02_Same outb na ba nc bc w4.heap.size w4 RN.out RB5.out (Nat.le_refl _)).mono ?_
          rintro e w5 ⟨rfl, hB5⟩
          have K6 := Lib.hid (Blk.below K5.out hB5 K5.out.lt)
          have T5 := Lib.hid (T4.out.below hB5)
          have B5 := Lib.hid (B4.out.trans (hB5.mono B4.out.size))
          clear hB5
          go_wp2_with fail
          rw [← HU1.out]
          refine (brackets_Class U1 0 (bits BinOp.or IntKind.i64 f 1) _ (Nat.zero_le _) (by have := Z1.out; omega) T5.out).mono ?_
          rw [onB_or_other, show foldO (bits BinOp.or IntKind.i64 f 1) = some foldF by unfold foldO; rw [if_pos (onB_or_same f)], Q1.out (some foldF)]
          rintro e w6 ⟨hB6, vd, outd, rfl, hLd, hId⟩
          obtain ⟨da, dc, rfl, hrd, _⟩ := hLd.ranges (by have := hId.len; omega)
          have DD := Lib.hid hId; have RD := Lib.hid hrd
          have K7 := Lib.hid ((Blk.below K6.out hB6 K6.out.lt))
          have B6 := Lib.hid (B5.out.trans (hB6.mono B5.out.size))
          clear hB6 hLd hId hrd
          go_wp2_with fail
          have K6 := Lib.hid (K7.out.alloc (.cells #[.int .i64 0, .int .i64 0, .int .i64 0] 27))
          have N6 := Lib.hid (Blk.new w6 [.int .i64 0, .int .i64 0, .int .i64 0] 27)
          have B5 := Lib.hid (B6.out.alloc B6.out.size (.cells #[.int .i64 0, .int .i64 0, .int .i64 0] 27))
          have RD6 := Lib.hid (RD.out.below ((Below.refl _ w6).alloc (Nat.le_refl _) (.cells #[.int .i64 0, .int .i64 0, .int .i64 0] 27)))
          have HEQ := Lib.hid (show ∀ y, y ∈ orbL c → 0 ≤ c → c ≤ 1114111 → hasB outd y = hasB outd c from fun y hy h0 h1 => by
            unfold hasB
            rw [DD.out.2, DD.out.2]
            dsimp only
            have hr := (orb_good h0 h1).2.2.1 y ((orb_good h0 h1).2.2.2.mem_iff.2 hy)
            rw [show ((match some foldF with | none => g2 y | some F => F g2 y) != false) = ((match some foldF with | none => g2 c | some F => F g2 c) != false) from congrArg (· != false) (foldF_orb (g := g2) hy)]
            rw [decide_eq_true h0, decide_eq_true h1, decide_eq_true (by omega : 0 ≤ y), decide_eq_true (by omega : y ≤ 1114111)])
          clear K7 B6 RD
          generalize hW5 : w6.alloc (.cells #[.int .i64 0, .int .i64 0, .int .i64 0] 27) = W5 at K6 N6 B5 RD6 ⊢
          generalize hb4 : w6.heap.size = b4 at N6 RD6 ⊢
          clear hW5 hb4
          by_cases hcr : 0 ≤ c ∧ c ≤ 1114111
          · have HCR := Lib.hid hcr; clear hcr
            refine (ref03_Orbit c W5 HCR.out.1 HCR.out.2).mono ?_
            rintro e w6 ⟨v, rfl, ho, hB6⟩
            have hpos : 0 < (orbL c).length := List.length_pos_of_mem (orb_self c)
            obtain ⟨g6, cap6, rfl, _, _⟩ := World.ownsRow.form ho hpos
            have HO := Lib.hid ho
            have K7 := Lib.hid (Blk.below K6.out hB6 K6.out.lt); have N7 := Lib.hid (Blk.below N6.out hB6 N6.out.lt)
            have B6 := Lib.hid (B5.out.trans (hB6.mono B5.out.size))
            have RD7 := Lib.hid (RD6.out.below (hB6.mono (Nat.le_of_lt N6.out.lt)))
            have hlen : (orbL c).length ≤ 3 := by rw [← (orb_good HCR.out.1 HCR.out.2).2.2.2.length_eq]; exact (orb_good HCR.out.1 HCR.out.2).2.1
            obtain ⟨O, hO⟩ : ∃ O, orbL c = O := ⟨_, rfl⟩
            rw [hO] at HO hlen hpos ⊢
            have HOO := Lib.hid hO; have HLEN := Lib.hid hlen
            clear ho hB6 hO hlen hpos
            go_wp2_with fail
            go_loop [18] (fun iv => ∃ k : Nat, k ≤ O.length ∧ iv = .int .i64 k) (fun iv => O.length - (intOf iv).toNat)
            case atStart => exact ⟨0, Nat.zero_le _, rfl⟩
            case round =>
              obtain ⟨k, hk, rfl⟩ := hrel
              have hol := HLEN.out
              by_cases hlt : k < O.length
              · have gk := HO.out.cellAt k (by omega)
                rw [vR_get O k hlt] at gk
                obtain ⟨y, hy⟩ : ∃ y, O[k] = y := ⟨_, rfl⟩
                rw [hy] at gk
                have HY := Lib.hid (show y ∈ orbL c by rw [HOO.out, ← hy]; exact List.getElem_mem hlt)
                clear hy
                go_wp2_with fail
                refine (ref02_Has outd da dc _ y w6 RD7.out).mono ?_
                rintro e w7 ⟨rfl, rfl⟩
                go_wp2_with fail
                refine (ref02_Has outd da dc _ c w7 RD7.out).mono ?_
                rintro e w8 ⟨rfl, rfl⟩
                rw [HEQ.out y HY.out HCR.out.1 HCR.out.2]
                have hbb : (hasB outd c != hasB outd c) = false := by simp
                go_wp2_with fail
                go_round
                case rel => exact ⟨k + 1, hlt, by go_num⟩
                case measure => simp [intOf]; omega
              · obtain rfl : k = O.length := by omega
                have k7 := Blk.cell K7.out (j := 0) rfl; have n7 := Blk.cell N7.out (j := 0) rfl
                go_wp2_with fail
                go_ret
                exact ⟨rfl, B6.out⟩
          · refine (ref03_Orbit_out c W5 (by omega)).mono ?_
            rintro e w6 ⟨rfl, rfl⟩
            have k7 := Blk.cell K6.out (j := 0) rfl; have n7 := Blk.cell N6.out (j := 0) rfl
            go_wp2_with fail
            go_loop [18] (fun iv => iv = .int .i64 0) (fun _ => 0)
            case atStart => rfl
            case round =>
              subst hrel
              go_wp2_with fail
              go_ret
              exact ⟨rfl, B5.out⟩
end Go.Proofs.YtnafemcholkmlaaGreatDoor

namespace Go.Proofs.YtnafemcholkmlaaGreatDoor
open Go Go.RowKit Go.Proofs

theorem first_pinned : Go.Pinned.utf8First = Lib.firstData := by kernel_rfl

theorem tabs_of_laid {w : World} (h : Lib.VarReads Tryz.prog w "unicode/utf8.first" Go.Pinned.utf8First) (h4 : Lib.VarReads Tryz.prog w "unicode/utf8.acceptRanges" Lib.acceptData) : Tabs w :=
  utf8Tabs_of_reads { Tryz.lays197 with } ⟨by kernel_rfl, by kernel_rfl, by kernel_rfl, by kernel_rfl, by kernel_rfl, by kernel_rfl, by kernel_rfl⟩ (first_pinned ▸ h) h4
end Go.Proofs.YtnafemcholkmlaaGreatDoor
