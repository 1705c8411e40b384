/- brackets.Class: its contract, with any flags. The document's union: martelloref02.Union. The document's Fold: the plain law. The document's class: martelloref07.Class. The document's Fold: martelloref03.Fold. BracketsClasses: what any text has at any place as a class, the place behind, or what is wrong, is the document's, with any flags: the law's walk. The library's two tables for UTF-8, off what a row lists. -/
import Derived.Test.YtnafemcholkmlaaGreatDoorQBrClass
import Derived.Test.YtnafemcholkmlaaGreatDoorNFoldPure
import Derived.Test.YtnafemcholkmlaaGreatDoorNShiftPure
import Derived.Test.YtnafemcholkmlaaGreatDoorQNormWalk
import Derived.Test.YtnafemcholkmlaaGreatDoorQBrClsA
import Derived.Deep.AppendLies
import Derived.Test.YtnafemcholkmlaaGreatDoorQBrCatch
import Derived.Test.YtnafemcholkmlaaGreatDoorCRefOne
import Derived.Test.YtnafemcholkmlaaGreatDoorQNext
import Derived.Lib.LaidU8
import Derived.KernelRfl
import GoSem.PinnedTables
namespace Go.Proofs.YtnafemcholkmlaaGreatDoor
open Go Go.RowKit Go.Proofs Go.Shelf
open Lib (hid)

def foldO (f : Int) : Option ((Int → Bool) → Int → Bool) := if onB f 1 then some foldF else none
theorem brackets_Class (s : ByteArray) (p : Nat) (f : Int) (w : World) (hp : p ≤ s.size) (hs : s.size ≤ 100000000) (hT : Tabs w) :
    Calls Tryz.prog 8 #[.string s, .int .i64 p, .int .i64 f] w (ClsOut w (clsQ s p (onB f 32) (foldO f))) := by
  unfold foldO
  by_cases hf : onB f 1 = true
  · rw [if_pos hf]
    by_cases hn : stands s p [91] = true
    · cases hi : itemP s (clsAt s p) (onB f 32) p with
      | wrong x a b =>
        have e : clsQ s p (onB f 32) (some foldF) = .wrong x a b := by unfold clsQ clsP; rw [hn, hi]; rfl
        rw [e]
        exact cls_first s p f w hp hs hT (onB f 32) rfl hn x a b hi
      | ok f0 q0 => exact cls_folded s p f w hp hs hT (onB f 32) rfl hf hn f0 q0 hi
    · have e : clsQ s p (onB f 32) (some foldF) = .wrong 1 p p := by unfold clsQ clsP; rw [if_pos hn]
      rw [e]
      exact cls_closed s p f w hp (onB f 32) rfl (Bool.eq_false_iff.2 hn)
  · rw [if_neg hf]
    exact brackets_plain s p f w hp hs hT (onB f 32) rfl (Bool.eq_false_iff.2 hf)

def ItemOk : ItemR → Prop
  | .wrong e _ _ => e ≠ 0
  | .ok _ _ => True
theorem itemP_ok (s : ByteArray) (p : Nat) (perl : Bool) (fr : Int) : ItemOk (itemP s p perl fr) := by
  unfold itemP
  split
  · split
    · show (72 : Int) ≠ 0; decide
    · trivial
  split
  · show (71 : Int) ≠ 0; decide
  have h1 := oneP_ok s p perl
  split
  · rename_i e f t he; rw [he] at h1; exact h1
  · trivial
  · split
    · show (72 : Int) ≠ 0; decide
    · split
      · rename_i k r a q _ _ _
        have h2 := oneP_ok s (q.toNat + 1) perl
        split
        · rename_i e f t he; rw [he] at h2; exact h2
        · show (72 : Int) ≠ 0; decide
        · split
          · show (72 : Int) ≠ 0; decide
          · trivial
      · trivial
theorem restP_ok (s : ByteArray) (perl : Bool) (fr : Int) : ∀ (n p : Nat) (g : Int → Bool), p ≤ s.size → s.size + 1 - p ≤ n → ItemOk (restP s perl fr n p g)
  | 0, p, _, hp, hn => by omega
  | n + 1, p, g, hp, hn => by
    unfold restP
    split
    · trivial
    · have h1 := itemP_ok s p perl fr
      cases hi : itemP s p perl fr with
      | wrong e f t => rw [hi] at h1; exact h1
      | ok f q =>
        have hq := itemP_q hp hi
        exact restP_ok s perl fr n q _ hq.2 (by omega)

theorem RangesAt.flat {w : World} {b : Nat} : ∀ {rs : List (Int × Int)} {o : Nat}, RangesAt w rs b o → ∀ j u, (flatR rs)[j]? = some u → w.cell? ((⟨b, o, none⟩ : Addr).add j) = some u
  | [], _, _, j, u, h => by simp [flatR] at h
  | (l, r) :: rs, o, h, j, u, hj => by
    rw [Addr.add_lit]
    match j, hj with
    | 0, hj => simp [flatR] at hj; rw [← hj]; exact h.1
    | 1, hj => simp [flatR] at hj; rw [← hj]; exact h.2.1
    | j + 2, hj =>
      have := RangesAt.flat h.2.2 j u (by simpa [flatR] using hj)
      rw [Addr.add_lit] at this
      rw [show o + (j + 2) = o + 2 + j by omega]
      exact this
theorem RangesV.src {w : World} {B : Nat} {rs : List (Int × Int)} {a : Addr} {n c : Nat} (h : RangesV w B rs (some a) n c) : ∀ j u, (flatR rs)[j]? = some u → w.cell? (a.add j) = some u := by
  obtain ⟨h1, h2, h3⟩ := h
  rcases h3 with h3 | ⟨b, o, e, hlt, hr⟩
  · obtain rfl : rs = [] := List.eq_nil_of_length_eq_zero (by omega)
    intro j u hj; simp [flatR] at hj
  · cases e
    exact hr.flat
theorem RangesV.gone {w : World} {B : Nat} {rs : List (Int × Int)} {n c : Nat} (h : RangesV w B rs none n c) : rs = [] := by
  obtain ⟨h1, h2, h3⟩ := h
  rcases h3 with h3 | ⟨b, o, e, _⟩
  · exact List.eq_nil_of_length_eq_zero (by omega)
  · cases e

set_option maxRecDepth 100000 in
set_option maxHeartbeats 4000000 in
theorem ref02_Union (ra rb : List (Int × Int)) (sa sb : Option Addr) (ca cb B : Nat) (w : World) (ha : RangesV w B ra sa ra.length ca) (hb : RangesV w B rb sb rb.length cb) (za : sa = none → ca = 0) (zb : sb = none → cb = 0) (hB : B ≤ w.heap.size) (hN : ra.length + rb.length ≤ 1000000000) :
    Calls Tryz.prog 17 #[.slice sa ra.length ca, .slice sb rb.length cb] w (SetOf w (fun c => memR ra c || memR rb c) (ra.length + rb.length)) := by
  obtain ⟨i0, hi, hz0, hz1, hz2⟩ := info_parts infoRange
  have HE := hid (World.ownsRow_made (base := w.heap.size) (e := 43) (size := 2) w #[] 0 (Nat.le_refl _) (Nat.zero_le _) rfl)
  have hB1 : Below w.heap.size w (w.alloc (.cells #[] 43)) := (Below.refl _ w).alloc (Nat.le_refl _) _
  have HA := hid (ha.below (hB1.mono hB)); have HB := hid hb; have HB1 := hid hB1
  obtain ⟨AB, hAB⟩ : ∃ AB, AB = ra ++ rb := ⟨_, rfl⟩
  have hlAB : AB.length = ra.length + rb.length := by rw [hAB, List.length_append]
  have hfAB : flatR AB = flatR ra ++ flatR rb := by rw [hAB, flatR_append]
  have hmAB : (fun c => memR AB c) = fun c => memR ra c || memR rb c := by rw [hAB]; exact funext fun c => memR_append _ _ _
  have HNO := hid (fun (v : Value) (W : World) (hW : Below w.heap.size w W) (h : W.ownsRow w.heap.size 43 2 v AB.length (flatR AB)) => (show ∃ sv cv, v = .slice sv AB.length cv ∧ Calls Tryz.prog 15 #[.slice sv AB.length cv] W (SetOf w (fun c => memR ra c || memR rb c) (ra.length + rb.length)) by
    obtain ⟨sv, cv, rfl, hr⟩ := (AllV.of_own h).ranges (by omega)
    refine ⟨sv, cv, rfl, (ref02_Norm AB sv _ cv W.heap.size W hr (Nat.le_refl _) (by omega)).mono ?_⟩
    rintro e w' ⟨v', out, rfl, q1, q2, q3, q4, q5⟩
    refine ⟨v', out, rfl, Joins.ownsRow_le q1 hW.size, q2, fun c => ?_, by omega, hW.trans (q5.mono hW.size)⟩
    rw [q3]; show (_ && memR AB c) = (_ && (memR ra c || memR rb c)); rw [show memR AB c = (memR ra c || memR rb c) from congrFun hmAB c]))
  have HAB := hid hAB; have HLAB := hid hlAB; have HFAB := hid hfAB
  clear hAB hlAB hfAB hmAB
  clear ha hb hB1
  cases sa with
  | none =>
    obtain rfl := HA.out.gone
    obtain rfl := za rfl
    cases sb with
    | none =>
      obtain rfl := HB.out.gone
      obtain rfl := zb rfl
      go_enter Tryz.func17, Tryz.ntmps17
      go_wp2_with (at_builtin; refine wpList_append_own_none rfl _ _ 24 rfl w.heap.size 43 i0 2 Tryz.underlying24 hi _ _ _ rfl HE.out rfl ?_)
      obtain ⟨sv, cv, e, hc⟩ := HNO.out _ _ HB1.out (own_congr HE.out (by rw [HLAB.out]; rfl) (by rw [HFAB.out]; rfl))
      have hl0 : AB.length = 0 := by rw [HLAB.out]; rfl
      rw [hl0] at e hc
      cases e
      have HCC := hid hc
      clear hc
      refine (HCC.out).mono ?_
      rintro e w7 ⟨v, out, rfl, q⟩
      have Q := hid q; clear q
      go_wp2_with fail
      go_ret
      exact ⟨v, out, rfl, Q.out⟩
    | some b =>
      have hb4 := HB.out.below (HB1.out.mono hB)
      go_enter Tryz.func17, Tryz.ntmps17
      go_wp2_with (at_builtin; first
        | refine wpList_append_own_none rfl (.tmp 5) (.tmp 6) 24 rfl w.heap.size 43 i0 2 Tryz.underlying24 hi _ _ _ rfl HE.out rfl ?_
        | (refine wpList_append_own _ rfl _ _ 24 rfl w.heap.size 43 i0 (.agg #[.int .i32 0, .int .i32 0]) 2 8 Tryz.underlying24 hi hz0 hz1 hz2 rfl (by decide) (.slice (some ⟨w.heap.size, 0, none⟩) 0 0) _ _ rfl HE.out b rb.length cb (flatR rb) rfl (flatR_length rb) hb4.src (flatR_one rb) (by unfold maxLen; simp at hN; omega) (by simp at hN; omega) (by simp) ?_; intro v6 w6 hown6 hgrow6))
      intro hnil6
      have B6 := hid (below_next HB1.out (Nat.le_refl _) hgrow6 (fun j hj => by simp [Value.ownBlock] at hj; omega))
      obtain ⟨sv, cv, rfl, hc⟩ := HNO.out v6 w6 B6.out (own_congr hown6 (by rw [HLAB.out]; simp) (by rw [HFAB.out]; simp [flatR]))
      have HCC := hid hc
      clear hc hown6 hgrow6 hnil6 hb4
      go_wp2_with fail
      refine (HCC.out).mono ?_
      rintro e w7 ⟨v, out, rfl, q⟩
      have Q := hid q; clear q
      go_wp2_with fail
      go_ret
      exact ⟨v, out, rfl, Q.out⟩
  | some a =>
    have HBN := hid (show ∀ W, Below w.heap.size w W → RangesV W B rb sb rb.length cb from fun W h => HB.out.below (h.mono hB))
    go_enter Tryz.func17, Tryz.ntmps17
    go_wp2_with (at_builtin; refine wpList_append_own _ rfl _ _ 24 rfl w.heap.size 43 i0 (.agg #[.int .i32 0, .int .i32 0]) 2 8 Tryz.underlying24 hi hz0 hz1 hz2 rfl (by decide) (.slice (some ⟨w.heap.size, 0, none⟩) 0 0) _ _ rfl HE.out a ra.length ca (flatR ra) rfl (flatR_length ra) HA.out.src (flatR_one ra) (by unfold maxLen; omega) (by omega) (by simp) ?_; intro v4 w4 hown4 hgrow4)
    intro hnil4
    have B4 := hid (below_next HB1.out (Nat.le_refl _) hgrow4 (fun j hj => by simp [Value.ownBlock] at hj; omega))
    cases sb with
    | none =>
      obtain rfl := HB.out.gone
      obtain rfl := zb rfl
      go_wp2_with (at_builtin; refine wpList_append_own_none rfl _ _ 24 rfl w.heap.size 43 i0 2 Tryz.underlying24 hi v4 _ _ rfl hown4 rfl ?_)
      obtain ⟨sv, cv, rfl, hc⟩ := HNO.out v4 w4 B4.out (own_congr hown4 (by rw [HLAB.out]; simp) (by rw [HFAB.out]; simp [flatR]))
      have HCC := hid hc
      clear hc hown4 hgrow4 hnil4
      refine (HCC.out).mono ?_
      rintro e w7 ⟨v, out, rfl, q⟩
      have Q := hid q; clear q
      go_wp2_with fail
      go_ret
      exact ⟨v, out, rfl, Q.out⟩
    | some b =>
      have hb4 := HBN.out w4 B4.out
      go_wp2_with (at_builtin; refine wpList_append_own _ rfl _ _ 24 rfl w.heap.size 43 i0 (.agg #[.int .i32 0, .int .i32 0]) 2 8 Tryz.underlying24 hi hz0 hz1 hz2 rfl (by decide) v4 _ _ rfl hown4 b rb.length cb (flatR rb) rfl (flatR_length rb) hb4.src (flatR_one rb) (by unfold maxLen; omega) (by omega) B4.out.size ?_; intro v6 w6 hown6 hgrow6)
      intro hnil6
      have B6 := hid (below_next B4.out (Nat.le_refl _) hgrow6 (fun j hj => (hown4.lt j hj).1))
      obtain ⟨sv, cv, rfl, hc⟩ := HNO.out v6 w6 B6.out (own_congr hown6 (by rw [HLAB.out]; simp) (by rw [HFAB.out]; simp))
      have HCC := hid hc
      clear hc hown6 hgrow6 hnil6 hb4 hown4 hgrow4 hnil4
      go_wp2_with fail
      refine (HCC.out).mono ?_
      rintro e w7 ⟨v, out, rfl, q⟩
      have Q := hid q; clear q
      go_wp2_with fail
      go_ret
      exact ⟨v, out, rfl, Q.out⟩

set_option maxRecDepth 100000 in
theorem letters_low : (lettersL.all fun y => decide (y < 12288)) = true := by kernel_rfl
def Low (g : Int → Bool) (M : List Int) : Prop := ∀ x, x ∈ M ↔ ∃ y, g y = true ∧ y < 12288 ∧ x ∈ orbL y
theorem low_fold {out rs : List (Int × Int)} (h : IsSet out (memR rs)) {M : List Int} (hM : Low (memR out) M) (x : Int) (h0 : 0 ≤ x) (h1 : x ≤ 1114111) : (memR out x || decide (x ∈ M)) = foldF (memR rs) x := by
  have hin : ∀ y, 0 ≤ y → y ≤ 1114111 → memR out y = memR rs y := fun y a b => by rw [h.2, decide_eq_true a, decide_eq_true b]; rfl
  have hr : ∀ y ∈ orbL x, 0 ≤ y ∧ y ≤ 1114111 := fun y hy => (orb_good h0 h1).2.2.1 y ((orb_good h0 h1).2.2.2.mem_iff.2 hy)
  unfold foldF
  rw [Bool.eq_iff_iff, Bool.or_eq_true, decide_eq_true_eq, hM x, List.any_eq_true]
  constructor
  · rintro (g1 | ⟨y, g1, _, g3⟩)
    · exact ⟨x, orb_self x, by rw [← hin x h0 h1]; exact g1⟩
    · cases hl : letterB y with
      | false =>
        rw [orbL_none hl, List.mem_singleton] at g3
        subst g3
        exact ⟨x, orb_self x, by rw [← hin x h0 h1]; exact g1⟩
      | true =>
        have hs := orb_same (letter_mem hl) g3
        have hy : y ∈ orbL x := by rw [hs.2]; exact orb_self y
        exact ⟨y, hy, by rw [← hin y (hr y hy).1 (hr y hy).2]; exact g1⟩
  · rintro ⟨y, hy, g1⟩
    cases hl : letterB x with
    | false =>
      rw [orbL_none hl, List.mem_singleton] at hy
      subst hy
      exact .inl (by rw [hin y h0 h1]; exact g1)
    | true =>
      have hs := orb_same (letter_mem hl) hy
      refine .inr ⟨y, by rw [hin y (hr y hy).1 (hr y hy).2]; exact g1, ?_, by rw [hs.2]; exact orb_self x⟩
      have := List.all_eq_true.1 letters_low y hs.1
      simpa using this
theorem RangesAt.dropP {w : World} {b : Nat} : ∀ {rs : List (Int × Int)} {o : Nat} (k : Nat), RangesAt w rs b o → RangesAt w (rs.drop k) b (o + k * 2)
  | _, _, 0, h => by simpa using h
  | [], _, k + 1, _ => by simp [RangesAt]
  | (_, _) :: rs, o, k + 1, h => by
    have := RangesAt.dropP k h.2.2
    rw [List.drop_succ_cons, show o + (k + 1) * 2 = o + 2 + k * 2 by omega]
    exact this
theorem RangesAt.takeP {w : World} {b : Nat} : ∀ {rs : List (Int × Int)} {o : Nat} (k : Nat), RangesAt w rs b o → RangesAt w (rs.take k) b o
  | _, _, 0, _ => by simp [RangesAt]
  | [], _, k + 1, _ => by simp [RangesAt]
  | (_, _) :: rs, o, k + 1, h => ⟨h.1, h.2.1, RangesAt.takeP k h.2.2⟩

def nextR (s : ByteArray) (perl : Bool) (fr : Int) : Nat → Nat → (Int → Bool) → ItemR
  | 0, _, _ => .wrong 0 0 0
  | n + 1, q, g => match itemP s q perl fr with
    | .wrong e f t => .wrong e f t
    | .ok f q' => restP s perl fr n q' fun c => g c || f c
theorem restP_next {s : ByteArray} {perl : Bool} {fr : Int} {n q : Nat} {g : Int → Bool} (h : ¬ stands s q [93] = true) : restP s perl fr n q g = nextR s perl fr n q g := by
  cases n with
  | zero => rfl
  | succ n =>
    unfold restP
    rw [if_neg h]
    rfl
structure RMid (w : World) (s : ByteArray) (p : Nat) (perl : Bool) (R : ItemR) (b : Bool) (q : Nat) (g : Int → Bool) (out : List (Int × Int)) (v : Value) (W : World) : Prop where
  k : Blk W w.heap.size [.int .i64 0, .int .i64 0, .int .i64 0] 27
  bl : Below w.heap.size w W
  o : W.ownsRow (w.heap.size + 1) 43 2 v out.length (flatR out)
  m : ∀ c, 0 ≤ c → c ≤ 1114111 → memR out c = g c
  l : out.length ≤ 1000 * q
  iq : q ≤ s.size
  r : ∃ n, s.size + 1 - q ≤ n ∧ (if b = true then nextR s perl p n q g else restP s perl p n q g) = R
theorem RMid.next {w W : World} {s : ByteArray} {p : Nat} {perl : Bool} {R : ItemR} {b : Bool} {q : Nat} {g : Int → Bool} {out : List (Int × Int)} {v : Value} (h : RMid w s p perl R b q g out v W) (hn : b = true ∨ ¬ stands s q [93] = true) : ∃ n, s.size + 1 - q ≤ n ∧ nextR s perl p n q g = R := by
  obtain ⟨n, h1, h2⟩ := h.r
  refine ⟨n, h1, ?_⟩
  cases b with
  | true => exact h2
  | false =>
    rcases hn with hn | hn
    · cases hn
    · rw [← h2, ← restP_next hn]; rfl
theorem itemP_far {s : ByteArray} {q : Nat} {perl : Bool} {fr : Int} (h : s.size ≤ q) : itemP s q perl fr = .wrong 71 fr s.size := by
  unfold itemP
  have hn : namedP s q = none := by
    unfold namedP
    rw [if_neg fun h1 => by obtain ⟨h2, _⟩ := (stands_two s q 91 58).1 h1; omega]
  rw [hn]
  simp only
  rw [if_pos h]
theorem nextR_far {s : ByteArray} {q n : Nat} {perl : Bool} {fr : Int} {g : Int → Bool} (h : s.size ≤ q) (hn : 0 < n) : nextR s perl fr n q g = .wrong 71 fr s.size := by
  obtain ⟨m, rfl⟩ : ∃ m, n = m + 1 := ⟨n - 1, by omega⟩
  simp only [nextR, itemP_far h]

set_option maxRecDepth 100000 in
set_option maxHeartbeats 2000000 in
theorem rcls_closed (s : ByteArray) (p : Nat) (f : Int) (w : World) (_ : s.size ≤ 100000000) (hn : ¬ stands s p [91] = true) :
    Calls Tryz.prog 9 #[.string s, .int .i64 p, .int .i64 f] w (ClsOut w (.wrong 1 p p)) := by
  have K0 := hid (Blk.new w [.int .i64 0, .int .i64 0, .int .i64 0] 27)
  have B0 := hid ((Below.refl w.heap.size w).alloc (Nat.le_refl _) (.cells #[.int .i64 0, .int .i64 0, .int .i64 0] 27))
  have k0 := Blk.cell K0.out (j := 0) rfl; have k1 := Blk.cell K0.out (j := 1) rfl; have k2 := Blk.cell K0.out (j := 2) rfl
  have f0 := K0.out.frozen 0; have f1 := K0.out.frozen 1; have f2 := K0.out.frozen 2
  by_cases hp : p < s.size
  · have g1 : ((s[p].toNat : Int) != 91) = true := by
      rw [bne_iff_ne]; intro e
      exact hn ((stands_one s p 91).2 ⟨hp, UInt8.toNat_inj.1 (by have : (91 : UInt8).toNat = 91 := rfl; omega)⟩)
    have g2 : (p : Int) < (s.size : Int) := by omega
    clear hn
    go_enter Tryz.func9, Tryz.ntmps9
    go_wp2_with fail
    refine bodyPost_ret (v := .tuple #[.slice none 0 0, .int .i64 0, .agg #[.int .i64 1, .int .i64 p, .int .i64 p]]) ?_ rfl ⟨?_, rfl⟩
    · simp [results, Tryz.results9, go_sem]
    · exact (Below.refl _ w).alloc (Nat.le_refl _) _
  · have g2 : (s.size : Int) ≤ (p : Int) := by omega
    clear hn
    go_enter Tryz.func9, Tryz.ntmps9
    go_wp2_with fail
    refine bodyPost_ret (v := .tuple #[.slice none 0 0, .int .i64 0, .agg #[.int .i64 1, .int .i64 p, .int .i64 p]]) ?_ rfl ⟨?_, rfl⟩
    · simp [results, Tryz.results9, go_sem]
    · exact (Below.refl _ w).alloc (Nat.le_refl _) _

def turnF (FO : Option ((Int → Bool) → Int → Bool)) (g : Int → Bool) (t : Bool) : Int → Bool := fun c => (match FO with | none => g c | some F => F g c) != t
theorem clsQ_ok {s : ByteArray} {p : Nat} {perl : Bool} {FO : Option ((Int → Bool) → Int → Bool)} {g : Int → Bool} {q : Nat} {t : Bool} (h : clsP s p perl = .ok g q) (ht : stands s (p + 1) [94] = t) : clsQ s p perl FO = .ok (turnF FO g t) q := by
  unfold clsQ turnF; rw [h, ht]; rfl
def FoldR (w : World) (rs : List (Int × Int)) (e : Ending) (w' : World) : Prop := ∃ v out, e = .returned v ∧ Laid w w' out v ∧ IsSet out (foldF (memR rs)) ∧ Below w.heap.size w w'
def FoldC : Prop := ∀ (rs : List (Int × Int)) (sa : Option Addr) (sc : Nat) (W : World), setRight rs = true → RangesV W W.heap.size rs sa rs.length sc → Calls Tryz.prog 25 #[.slice sa rs.length sc] W (FoldR W rs)

set_option maxRecDepth 100000 in
set_option maxHeartbeats 8000000 in
theorem rcls_items (HF : FoldC) (s : ByteArray) (p : Nat) (f : Int) (w : World) (hs : s.size ≤ 100000000) (hT : Tabs w) (perl : Bool) (hP : (bits BinOp.and IntKind.i64 f 32 != 0) = perl) (fold : Bool) (hf : (bits BinOp.and IntKind.i64 f 1 != 0) = fold) (hn : stands s p [91] = true) :
    Calls Tryz.prog 9 #[.string s, .int .i64 p, .int .i64 f] w (ClsOut w (clsQ s p perl (if fold = true then some foldF else none))) := by
  obtain ⟨i0, hi, hz0, hz1, hz2⟩ := info_parts infoRange
  obtain ⟨FO, hFO⟩ : ∃ FO, FO = if fold = true then some foldF else none := ⟨_, rfl⟩
  rw [← hFO]
  have HFO := hid hFO; have HFC := hid HF; clear hFO HF
  have HT := hid hT
  have K0 := hid (Blk.new w [.int .i64 0, .int .i64 0, .int .i64 0] 27)
  have B0 := hid ((Below.refl w.heap.size w).alloc (Nat.le_refl _) (.cells #[.int .i64 0, .int .i64 0, .int .i64 0] 27))
  have hlt := hT.lt
  obtain ⟨hp, h91⟩ := (stands_one s p 91).1 hn
  have g1 : ((s[p].toNat : Int) != 91) = false := by rw [h91]; rfl
  have g2 : (p : Int) < (s.size : Int) := by omega
  clear hT h91
  obtain ⟨R, hR⟩ : ∃ R, R = clsP s p perl := ⟨_, rfl⟩
  have hst : nextR s perl p (s.size + 2) (clsAt s p) (fun _ => false) = R := by
    rw [hR]; unfold clsP
    rw [if_neg (not_not_intro hn)]
    simp only [nextR, Bool.false_or]
    cases itemP s (clsAt s p) perl ↑p with
    | wrong _ _ _ => rfl
    | ok _ _ => rfl
  have HST := hid hst; have HR := hid hR
  clear hst hR
  obtain ⟨t, htt⟩ : ∃ t, stands s (p + 1) [94] = t := ⟨_, rfl⟩
  have HTT := hid htt
  have HC := hid (show clsAt s p = if t = true then p + 2 else p + 1 by unfold clsAt; rw [htt])
  have hcase : (t = true ∧ ∃ h : p + 1 < s.size, s[p + 1] = 94) ∨ (t = false ∧ p + 1 < s.size ∧ ∀ h : p + 1 < s.size, ¬ s[p + 1] = 94) ∨ (t = false ∧ s.size ≤ p + 1) := by
    cases t with
    | true => exact .inl ⟨rfl, (stands_one s (p + 1) 94).1 htt⟩
    | false =>
      by_cases h : p + 1 < s.size
      · exact .inr (.inl ⟨rfl, h, fun _ e => by rw [(stands_one s (p + 1) 94).2 ⟨h, e⟩] at htt; cases htt⟩)
      · exact .inr (.inr ⟨rfl, by omega⟩)
  clear htt
  rcases hcase with ⟨rfl, h94, e94⟩ | ⟨rfl, h94, e94⟩ | ⟨rfl, h94⟩
  · have g3 : (p : Int) + 1 < (s.size : Int) := by omega
    have g4 : ((s[p + 1].toNat : Int) == 94) = true := by rw [e94]; rfl
    clear e94
    go_enter Tryz.func9, Tryz.ntmps9
    go_wp2_with fail
    go_loopw [9, 11, 12] (fun iv av bv W => ∃ (q : Nat) (g : Int → Bool) (out : List (Int × Int)) (b : Bool), iv = .int .i64 q ∧ bv = .bool b ∧ RMid w s p perl R b q g out av W) (fun iv _ _ _ => s.size + 1 - (intOf iv).toNat)
    case atStart => exact ⟨p + 2, fun _ => false, [], true, by go_num, rfl, K0.out, B0.out, World.ownsRow_nil _ _ _ _, fun _ _ _ => rfl, by simp, by omega, s.size + 2, by omega, by have := HST.out; rw [HC.out] at this; exact this⟩
    case round =>
      obtain ⟨q, g, out, b, rfl, rfl, H⟩ := hrel
      have HM := hid H
      have hq := H.iq
      have k0 := Blk.cell H.k (j := 0) rfl; have k1 := Blk.cell H.k (j := 1) rfl; have k2 := Blk.cell H.k (j := 2) rfl
      have f0 := H.k.frozen 0; have f1 := H.k.frozen 1; have f2 := H.k.frozen 2
      have hoz := H.o
      have hol := H.l
      have hwz := H.bl.size
      clear H
      by_cases hz : q < s.size
      · have hz' : (q : Int) < (s.size : Int) := by omega
        by_cases hx : stands s q [93] = true ∧ b = false
        · obtain ⟨h93, rfl⟩ := hx
          have e93 : ((s[q].toNat : Int) == 93) = true := by rw [((stands_one s q 93).1 h93).2]; rfl
          obtain ⟨sa, sc, rfl, hr⟩ := (AllV.of_own hoz).ranges (by omega)
          have HQ := hid (show clsQ s p perl FO = .ok (turnF FO g true) (q + 1) by
            obtain ⟨n, h1, h2⟩ := HM.out.r
            obtain ⟨m, rfl⟩ : ∃ m, n = m + 1 := ⟨n - 1, by omega⟩
            refine clsQ_ok ?_ HTT.out
            rw [← HR.out, ← h2]; show restP s perl p (m + 1) q g = _; unfold restP; rw [if_pos h93])
          have HNO := hid (ref02_Norm out sa out.length sc wr.heap.size wr hr (Nat.le_refl _) (by omega))
          clear hr hoz h93
          go_wp2_with fail
          refine (HNO.out).mono ?_
          rintro e w5 ⟨v5, out5, rfl, hL, hs5, hm5, hn5, hB⟩
          have hI5 : IsSet out5 (turnF none g false) := (show IsSet out5 (memR out) from ⟨hs5, hm5⟩).congr fun c h0 h1 => by rw [HM.out.m c h0 h1]; unfold turnF; simp
          have K5 := hid (HM.out.k.below hB HM.out.k.lt); have B5 := hid (HM.out.bl.trans (hB.mono HM.out.bl.size))
          have L5 := hid (Laid.far (w0 := w.alloc (.cells #[.int .i64 0, .int .i64 0, .int .i64 0] 27)) hL (by have := HM.out.k.lt; simp; omega))
          obtain ⟨sa5, sc5, rfl, hr5, _⟩ := Laid.ranges hL (by have := hI5.len; omega)
          have I5 := hid hI5; have R5 := hid hr5; have S5 := hid hs5
          clear hL hs5 hm5 hn5 hB hI5 hr5
          cases fold with
          | false =>
            obtain rfl : FO = none := HFO.out
            go_wp2_with fail
            refine (ref02_Not out5 sa5 out5.length sc5 w5.heap.size w5 R5.out (Nat.le_refl _) (by have := I5.out.len; omega)).mono ?_
            rintro e w9 ⟨v9, out9, rfl, hL, hs9, hm9, hn9, hB⟩
            have hI9 : IsSet out9 (turnF (none) g true) := (show IsSet out9 (fun c => !memR out5 c) from ⟨hs9, hm9⟩).congr fun c h0 h1 => by
              rw [I5.out.2, decide_eq_true h0, decide_eq_true h1]; unfold turnF; simp
            have K9 := hid (K5.out.below hB K5.out.lt); have B9 := hid (B5.out.trans (hB.mono B5.out.size))
            have L9 := hid (Laid.far (w0 := w.alloc (.cells #[.int .i64 0, .int .i64 0, .int .i64 0] 27)) hL (by have := K5.out.lt; simp; omega))
            obtain ⟨sa9, sc9, rfl, hr9, _⟩ := Laid.ranges hL (by have := hI9.len; omega)
            have I9 := hid hI9
            clear hL hs9 hm9 hn9 hB hI9 hr9
            clear k0 k1 k2 f0 f1 f2
            have k0 := Blk.cell K9.out (j := 0) rfl; have k1 := Blk.cell K9.out (j := 1) rfl; have k2 := Blk.cell K9.out (j := 2) rfl
            have f0 := K9.out.frozen 0; have f1 := K9.out.frozen 1; have f2 := K9.out.frozen 2
            go_wp2_with fail
            refine bodyPost_ret (v := .tuple #[.slice sa9 out9.length sc9, .int .i64 ((q : Int) + 1), .agg #[.int .i64 0, .int .i64 0, .int .i64 0]]) ?_ rfl ?_
            · simp [results, Tryz.results9, go_sem, k0, k1, k2]
            · rw [HQ.out]
              exact ⟨(((B9.out.setCell (by simp) _).setCell (by simp) _).setCell (by simp) _), _, out9, rfl, laid_cells3 L9.out _ _ _, I9.out⟩
          | true =>
            obtain rfl : FO = some foldF := HFO.out
            go_wp2_with fail
            refine (HFC.out out5 sa5 sc5 w5 S5.out R5.out).mono ?_
            rintro e w6 ⟨v6, out6, rfl, hL, hI, hB⟩
            have hI6 : IsSet out6 (turnF (some foldF) g false) := hI.congr fun c h0 h1 => by
              rw [foldF_congr (g' := g) (fun c h0 h1 => by rw [I5.out.2, decide_eq_true h0, decide_eq_true h1]; unfold turnF; simp) c h0 h1]
              unfold turnF; simp
            have K6 := hid (K5.out.below hB K5.out.lt); have B6 := hid (B5.out.trans (hB.mono B5.out.size))
            have L6 := hid (Laid.far (w0 := w.alloc (.cells #[.int .i64 0, .int .i64 0, .int .i64 0] 27)) hL (by have := K5.out.lt; simp; omega))
            obtain ⟨sa6, sc6, rfl, hr6, _⟩ := Laid.ranges hL (by have := hI6.len; omega)
            have I6 := hid hI6; have R6 := hid hr6
            clear hL hI hB hI6 hr6
            go_wp2_with fail
            refine (ref02_Not out6 sa6 out6.length sc6 w6.heap.size w6 R6.out (Nat.le_refl _) (by have := I6.out.len; omega)).mono ?_
            rintro e w9 ⟨v9, out9, rfl, hL, hs9, hm9, hn9, hB⟩
            have hI9 : IsSet out9 (turnF (some foldF) g true) := (show IsSet out9 (fun c => !memR out6 c) from ⟨hs9, hm9⟩).congr fun c h0 h1 => by
              rw [I6.out.2, decide_eq_true h0, decide_eq_true h1]; unfold turnF; simp
            have K9 := hid (K6.out.below hB K6.out.lt); have B9 := hid (B6.out.trans (hB.mono B6.out.size))
            have L9 := hid (Laid.far (w0 := w.alloc (.cells #[.int .i64 0, .int .i64 0, .int .i64 0] 27)) hL (by have := K6.out.lt; simp; omega))
            obtain ⟨sa9, sc9, rfl, hr9, _⟩ := Laid.ranges hL (by have := hI9.len; omega)
            have I9 := hid hI9
            clear hL hs9 hm9 hn9 hB hI9 hr9
            clear k0 k1 k2 f0 f1 f2
            have k0 := Blk.cell K9.out (j := 0) rfl; have k1 := Blk.cell K9.out (j := 1) rfl; have k2 := Blk.cell K9.out (j := 2) rfl
            have f0 := K9.out.frozen 0; have f1 := K9.out.frozen 1; have f2 := K9.out.frozen 2
            go_wp2_with fail
            refine bodyPost_ret (v := .tuple #[.slice sa9 out9.length sc9, .int .i64 ((q : Int) + 1), .agg #[.int .i64 0, .int .i64 0, .int .i64 0]]) ?_ rfl ?_
            · simp [results, Tryz.results9, go_sem, k0, k1, k2]
            · rw [HQ.out]
              exact ⟨(((B9.out.setCell (by simp) _).setCell (by simp) _).setCell (by simp) _), _, out9, rfl, laid_cells3 L9.out _ _ _, I9.out⟩
        · have hx' : b = true ∨ ¬ stands s q [93] = true := by
            cases b with
            | true => exact .inl rfl
            | false => exact .inr fun h => hx ⟨h, rfl⟩
          obtain ⟨n, hn1, hn2⟩ := HM.out.next hx'
          obtain ⟨m, rfl⟩ : ∃ m, n = m + 1 := ⟨n - 1, by omega⟩
          have hcc : (((s[q].toNat : Int) == 93) = false) ∨ ((((s[q].toNat : Int) == 93) = true) ∧ b = true) := by
            by_cases h : s[q] = 93
            · refine .inr ⟨by rw [h]; rfl, ?_⟩
              rcases hx' with h1 | h1
              · exact h1
              · exact absurd ((stands_one s q 93).2 ⟨hz, h⟩) h1
            · exact .inl (by rw [beq_eq_false_iff_ne]; have := u8_ne h; have h9 : (93 : UInt8).toNat = 93 := rfl; omega)
          have HN2 := hid hn2
          clear hx hx' hn2
          have HIT := hid (ref07_item s q perl p wr (by omega) (HT.out.below HM.out.bl) hz)
          have hqi : ∀ fi q1, itemP s q perl p = .ok fi q1 → q < q1 ∧ q1 ≤ s.size := fun fi q1 h => itemP_q hq h
          have hok := itemP_ok s q perl p
          cases hit : itemP s q perl p with
          | wrong x a d =>
            rw [hit] at HIT hok
            have hx0 : (x != 0) = true := by rw [bne_iff_ne]; exact hok
            have HQ := hid (show clsQ s p perl FO = .wrong x a d by
              have h3 : clsP s p perl = .wrong x a d := by rw [← HR.out, ← HN2.out]; simp only [nextR, hit]
              unfold clsQ; rw [h3])
            clear hit hok hqi hoz
            rcases hcc with e93 | ⟨e93, rfl⟩
            all_goals
              go_wp2_with fail
              refine (HIT.out).mono ?_
              rintro e w5 ⟨hB, rfl⟩
              have K5 := hid (HM.out.k.below hB HM.out.k.lt); have B5 := hid (HM.out.bl.trans (hB.mono HM.out.bl.size))
              have K6 := hid (K5.out.alloc (.cells #[.int .i64 x, .int .i64 a, .int .i64 d] 27))
              have B6 := hid (B5.out.alloc B5.out.size (.cells #[.int .i64 x, .int .i64 a, .int .i64 d] 27))
              clear hB k0 k1 k2 f0 f1 f2
              go_wp2_with fail
              have N6 := Blk.new w5 [.int .i64 x, .int .i64 a, .int .i64 d] 27
              change Blk (w5.alloc (.cells #[.int .i64 x, .int .i64 a, .int .i64 d] 27)) _ _ _ at N6
              have hne : w.heap.size ≠ w5.heap.size := by have := K5.out.lt; omega
              generalize w5.alloc (.cells #[.int .i64 x, .int .i64 a, .int .i64 d] 27) = W6 at N6 K6 B6 ⊢
              generalize w5.heap.size = X at N6 hne ⊢
              have n0 := Blk.cell N6 (j := 0) rfl; have n1 := Blk.cell N6 (j := 1) rfl; have n2 := Blk.cell N6 (j := 2) rfl
              have k0 := Blk.cell K6.out (j := 0) rfl; have k1 := Blk.cell K6.out (j := 1) rfl; have k2 := Blk.cell K6.out (j := 2) rfl
              have f0 := K6.out.frozen 0; have f1 := K6.out.frozen 1; have f2 := K6.out.frozen 2
              have HN6 := hid N6; clear N6
              go_region
              all_goals
                go_wp2_with fail
                refine bodyPost_ret (v := .tuple #[.slice none 0 0, .int .i64 0, .agg #[.int .i64 x, .int .i64 a, .int .i64 d]]) ?_ rfl ?_
                · simp [results, Tryz.results9, go_sem, k0, k1, k2]
                · rw [HQ.out]
                  exact ⟨((((B6.out.setCell (by simp) _).setCell (by simp) _).setCell (by simp) _)).drew, rfl⟩
          | ok fi q1 =>
            rw [hit] at HIT
            obtain ⟨hq1, hq2⟩ := hqi fi q1 hit
            have HNX := hid (show restP s perl p m q1 (fun c => g c || fi c) = R by rw [← HN2.out]; simp only [nextR, hit])
            clear hit hok hqi
            rcases hcc with e93 | ⟨e93, rfl⟩
            all_goals
              have HOZ := hid hoz
              clear hoz
              go_wp2_with fail
              refine (HIT.out).mono ?_
              rintro e w5 ⟨hB, v2, out2, rfl, hL, hM, hN⟩
              have K5 := hid (HM.out.k.below hB HM.out.k.lt); have B5 := hid (HM.out.bl.trans (hB.mono HM.out.bl.size))
              have K6 := hid (K5.out.alloc (.cells #[.int .i64 0, .int .i64 0, .int .i64 0] 27))
              have B6 := hid (B5.out.alloc B5.out.size (.cells #[.int .i64 0, .int .i64 0, .int .i64 0] 27))
              have O6 := hid (World.ownsRow.alloc (HOZ.out.kept (grownBy_below hB none) (by
                cases hv : u11.ownBlock with
                | none => exact .inl rfl
                | some _ => exact .inr (by simp))) (.cells #[.int .i64 0, .int .i64 0, .int .i64 0] 27))
              have L6 := World.ownsRow.alloc hL (.cells #[.int .i64 0, .int .i64 0, .int .i64 0] 27)
              have M6 := hid hM
              have hz6 : w.heap.size + 1 ≤ (w5.alloc (.cells #[.int .i64 0, .int .i64 0, .int .i64 0] 27)).heap.size := by have := K5.out.lt; simp; omega
              clear hB hL hM k0 k1 k2 f0 f1 f2
              rcases L6.2 with ⟨rfl, h0⟩ | ⟨g2, cap2, cur2, rfl, _, hg2, hnc, _, _, hx2⟩
              · obtain rfl : out2 = [] := List.eq_nil_of_length_eq_zero h0
                clear L6
                go_wp2_with (at_builtin; refine wpList_append_own_none rfl _ _ 24 rfl (w.heap.size + 1) 43 i0 2 Tryz.underlying24 hi _ _ _ rfl O6.out rfl ?_)
                go_roundw
                case rel =>
                  exact ⟨q1, fun c => g c || fi c, out, false, rfl, rfl, K6.out, B6.out, O6.out, fun c h0 h1 => by
                    have := M6.out c h0 h1
                    have h9 : memR [] c = false := by simp [memR]
                    rw [HM.out.m c h0 h1, ← this, h9, Bool.or_false], by omega, hq2, m, by omega, HNX.out⟩
                case measure => simp [intOf]; omega
              · have hnews : ∀ j u, (flatR out2)[j]? = some u → (w5.alloc (.cells #[.int .i64 0, .int .i64 0, .int .i64 0] 27)).cell? ((⟨g2, 0, none⟩ : Addr).add j) = some u := fun j u hj => by
                  rw [Addr.add_lit, Nat.zero_add]; exact cell_row hg2 hx2 j u hj
                have HNW := hid hnews
                clear L6 hg2 hx2 hnews
                go_wp2_with (at_builtin; refine wpList_append_own _ rfl _ _ 24 rfl (w.heap.size + 1) 43 i0 (.agg #[.int .i32 0, .int .i32 0]) 2 8 Tryz.underlying24 hi hz0 hz1 hz2 rfl (by decide) u11 _ _ rfl O6.out ⟨g2, 0, none⟩ out2.length cap2 (flatR out2) rfl (flatR_length out2) HNW.out (flatR_one out2) (by unfold maxLen; omega) (by omega) hz6 ?_; intro v7 w7 hown7 hgrow7 hnil7)
                go_roundw
                case rel =>
                  refine ⟨q1, fun c => g c || fi c, out ++ out2, false, rfl, rfl, K6.out.grown hgrow7 (fun e => by have := (O6.out.lt _ e.symm).1; omega), below_next B6.out (Nat.le_refl _) hgrow7 (fun j hj => by have := (O6.out.lt j hj).1; omega), by rw [List.length_append, flatR_append]; exact hown7, fun c h0 h1 => ?_, by rw [List.length_append]; omega, hq2, m, by omega, HNX.out⟩
                  rw [memR_append, HM.out.m c h0 h1, M6.out c h0 h1]
                case measure => simp [intOf]; omega
      · have hz' : (s.size : Int) ≤ (q : Int) := by omega
        have HQ := hid (show clsQ s p perl FO = .wrong 71 p s.size by
          obtain ⟨n, h1, h2⟩ := HM.out.next (.inr (stands_one_no s q 93 (by omega)))
          have h3 : clsP s p perl = .wrong 71 p s.size := by
            rw [← HR.out, ← h2]; exact nextR_far (by omega) (by omega)
          unfold clsQ; rw [h3])
        clear hoz
        go_wp2_with fail
        refine bodyPost_ret (v := .tuple #[.slice none 0 0, .int .i64 0, .agg #[.int .i64 71, .int .i64 p, .int .i64 s.size]]) ?_ rfl ?_
        · simp [results, Tryz.results9, go_sem, k0, k1, k2]
        · rw [HQ.out]
          exact ⟨(((HM.out.bl.setCell (by simp) _).setCell (by simp) _).setCell (by simp) _), rfl⟩
  · have g3 : (p : Int) + 1 < (s.size : Int) := by omega
    have g4 : ((s[p + 1].toNat : Int) == 94) = false := by rw [beq_eq_false_iff_ne]; have := u8_ne (e94 h94); have h9 : (94 : UInt8).toNat = 94 := rfl; omega
    clear e94
    go_enter Tryz.func9, Tryz.ntmps9
    go_wp2_with fail
    go_loopw [9, 11, 12] (fun iv av bv W => ∃ (q : Nat) (g : Int → Bool) (out : List (Int × Int)) (b : Bool), iv = .int .i64 q ∧ bv = .bool b ∧ RMid w s p perl R b q g out av W) (fun iv _ _ _ => s.size + 1 - (intOf iv).toNat)
    case atStart => exact ⟨p + 1, fun _ => false, [], true, by go_num, rfl, K0.out, B0.out, World.ownsRow_nil _ _ _ _, fun _ _ _ => rfl, by simp, by omega, s.size + 2, by omega, by have := HST.out; rw [HC.out] at this; exact this⟩
    case round =>
      obtain ⟨q, g, out, b, rfl, rfl, H⟩ := hrel
      have HM := hid H
      have hq := H.iq
      have k0 := Blk.cell H.k (j := 0) rfl; have k1 := Blk.cell H.k (j := 1) rfl; have k2 := Blk.cell H.k (j := 2) rfl
      have f0 := H.k.frozen 0; have f1 := H.k.frozen 1; have f2 := H.k.frozen 2
      have hoz := H.o
      have hol := H.l
      have hwz := H.bl.size
      clear H
      by_cases hz : q < s.size
      · have hz' : (q : Int) < (s.size : Int) := by omega
        by_cases hx : stands s q [93] = true ∧ b = false
        · obtain ⟨h93, rfl⟩ := hx
          have e93 : ((s[q].toNat : Int) == 93) = true := by rw [((stands_one s q 93).1 h93).2]; rfl
          obtain ⟨sa, sc, rfl, hr⟩ := (AllV.of_own hoz).ranges (by omega)
          have HQ := hid (show clsQ s p perl FO = .ok (turnF FO g false) (q + 1) by
            obtain ⟨n, h1, h2⟩ := HM.out.r
            obtain ⟨m, rfl⟩ : ∃ m, n = m + 1 := ⟨n - 1, by omega⟩
            refine clsQ_ok ?_ HTT.out
            rw [← HR.out, ← h2]; show restP s perl p (m + 1) q g = _; unfold restP; rw [if_pos h93])
          have HNO := hid (ref02_Norm out sa out.length sc wr.heap.size wr hr (Nat.le_refl _) (by omega))
          clear hr hoz h93
          go_wp2_with fail
          refine (HNO.out).mono ?_
          rintro e w5 ⟨v5, out5, rfl, hL, hs5, hm5, hn5, hB⟩
          have hI5 : IsSet out5 (turnF none g false) := (show IsSet out5 (memR out) from ⟨hs5, hm5⟩).congr fun c h0 h1 => by rw [HM.out.m c h0 h1]; unfold turnF; simp
          have K5 := hid (HM.out.k.below hB HM.out.k.lt); have B5 := hid (HM.out.bl.trans (hB.mono HM.out.bl.size))
          have L5 := hid (Laid.far (w0 := w.alloc (.cells #[.int .i64 0, .int .i64 0, .int .i64 0] 27)) hL (by have := HM.out.k.lt; simp; omega))
          obtain ⟨sa5, sc5, rfl, hr5, _⟩ := Laid.ranges hL (by have := hI5.len; omega)
          have I5 := hid hI5; have R5 := hid hr5; have S5 := hid hs5
          clear hL hs5 hm5 hn5 hB hI5 hr5
          cases fold with
          | false =>
            obtain rfl : FO = none := HFO.out
            clear k0 k1 k2 f0 f1 f2
            have k0 := Blk.cell K5.out (j := 0) rfl; have k1 := Blk.cell K5.out (j := 1) rfl; have k2 := Blk.cell K5.out (j := 2) rfl
            have f0 := K5.out.frozen 0; have f1 := K5.out.frozen 1; have f2 := K5.out.frozen 2
            go_wp2_with fail
            refine bodyPost_ret (v := .tuple #[.slice sa5 out5.length sc5, .int .i64 ((q : Int) + 1), .agg #[.int .i64 0, .int .i64 0, .int .i64 0]]) ?_ rfl ?_
            · simp [results, Tryz.results9, go_sem, k0, k1, k2]
            · rw [HQ.out]
              exact ⟨(((B5.out.setCell (by simp) _).setCell (by simp) _).setCell (by simp) _), _, out5, rfl, laid_cells3 L5.out _ _ _, I5.out⟩
          | true =>
            obtain rfl : FO = some foldF := HFO.out
            go_wp2_with fail
            refine (HFC.out out5 sa5 sc5 w5 S5.out R5.out).mono ?_
            rintro e w6 ⟨v6, out6, rfl, hL, hI, hB⟩
            have hI6 : IsSet out6 (turnF (some foldF) g false) := hI.congr fun c h0 h1 => by
              rw [foldF_congr (g' := g) (fun c h0 h1 => by rw [I5.out.2, decide_eq_true h0, decide_eq_true h1]; unfold turnF; simp) c h0 h1]
              unfold turnF; simp
            have K6 := hid (K5.out.below hB K5.out.lt); have B6 := hid (B5.out.trans (hB.mono B5.out.size))
            have L6 := hid (Laid.far (w0 := w.alloc (.cells #[.int .i64 0, .int .i64 0, .int .i64 0] 27)) hL (by have := K5.out.lt; simp; omega))
            obtain ⟨sa6, sc6, rfl, hr6, _⟩ := Laid.ranges hL (by have := hI6.len; omega)
            have I6 := hid hI6; have R6 := hid hr6
            clear hL hI hB hI6 hr6
            clear k0 k1 k2 f0 f1 f2
            have k0 := Blk.cell K6.out (j := 0) rfl; have k1 := Blk.cell K6.out (j := 1) rfl; have k2 := Blk.cell K6.out (j := 2) rfl
            have f0 := K6.out.frozen 0; have f1 := K6.out.frozen 1; have f2 := K6.out.frozen 2
            go_wp2_with fail
            refine bodyPost_ret (v := .tuple #[.slice sa6 out6.length sc6, .int .i64 ((q : Int) + 1), .agg #[.int .i64 0, .int .i64 0, .int .i64 0]]) ?_ rfl ?_
            · simp [results, Tryz.results9, go_sem, k0, k1, k2]
            · rw [HQ.out]
              exact ⟨(((B6.out.setCell (by simp) _).setCell (by simp) _).setCell (by simp) _), _, out6, rfl, laid_cells3 L6.out _ _ _, I6.out⟩
        · have hx' : b = true ∨ ¬ stands s q [93] = true := by
            cases b with
            | true => exact .inl rfl
            | false => exact .inr fun h => hx ⟨h, rfl⟩
          obtain ⟨n, hn1, hn2⟩ := HM.out.next hx'
          obtain ⟨m, rfl⟩ : ∃ m, n = m + 1 := ⟨n - 1, by omega⟩
          have hcc : (((s[q].toNat : Int) == 93) = false) ∨ ((((s[q].toNat : Int) == 93) = true) ∧ b = true) := by
            by_cases h : s[q] = 93
            · refine .inr ⟨by rw [h]; rfl, ?_⟩
              rcases hx' with h1 | h1
              · exact h1
              · exact absurd ((stands_one s q 93).2 ⟨hz, h⟩) h1
            · exact .inl (by rw [beq_eq_false_iff_ne]; have := u8_ne h; have h9 : (93 : UInt8).toNat = 93 := rfl; omega)
          have HN2 := hid hn2
          clear hx hx' hn2
          have HIT := hid (ref07_item s q perl p wr (by omega) (HT.out.below HM.out.bl) hz)
          have hqi : ∀ fi q1, itemP s q perl p = .ok fi q1 → q < q1 ∧ q1 ≤ s.size := fun fi q1 h => itemP_q hq h
          have hok := itemP_ok s q perl p
          cases hit : itemP s q perl p with
          | wrong x a d =>
            rw [hit] at HIT hok
            have hx0 : (x != 0) = true := by rw [bne_iff_ne]; exact hok
            have HQ := hid (show clsQ s p perl FO = .wrong x a d by
              have h3 : clsP s p perl = .wrong x a d := by rw [← HR.out, ← HN2.out]; simp only [nextR, hit]
              unfold clsQ; rw [h3])
            clear hit hok hqi hoz
            rcases hcc with e93 | ⟨e93, rfl⟩
            all_goals
              go_wp2_with fail
              refine (HIT.out).mono ?_
              rintro e w5 ⟨hB, rfl⟩
              have K5 := hid (HM.out.k.below hB HM.out.k.lt); have B5 := hid (HM.out.bl.trans (hB.mono HM.out.bl.size))
              have K6 := hid (K5.out.alloc (.cells #[.int .i64 x, .int .i64 a, .int .i64 d] 27))
              have B6 := hid (B5.out.alloc B5.out.size (.cells #[.int .i64 x, .int .i64 a, .int .i64 d] 27))
              clear hB k0 k1 k2 f0 f1 f2
              go_wp2_with fail
              have N6 := Blk.new w5 [.int .i64 x, .int .i64 a, .int .i64 d] 27
              change Blk (w5.alloc (.cells #[.int .i64 x, .int .i64 a, .int .i64 d] 27)) _ _ _ at N6
              have hne : w.heap.size ≠ w5.heap.size := by have := K5.out.lt; omega
              generalize w5.alloc (.cells #[.int .i64 x, .int .i64 a, .int .i64 d] 27) = W6 at N6 K6 B6 ⊢
              generalize w5.heap.size = X at N6 hne ⊢
              have n0 := Blk.cell N6 (j := 0) rfl; have n1 := Blk.cell N6 (j := 1) rfl; have n2 := Blk.cell N6 (j := 2) rfl
              have k0 := Blk.cell K6.out (j := 0) rfl; have k1 := Blk.cell K6.out (j := 1) rfl; have k2 := Blk.cell K6.out (j := 2) rfl
              have f0 := K6.out.frozen 0; have f1 := K6.out.frozen 1; have f2 := K6.out.frozen 2
              have HN6 := hid N6; clear N6
              go_region
              all_goals
                go_wp2_with fail
                refine bodyPost_ret (v := .tuple #[.slice none 0 0, .int .i64 0, .agg #[.int .i64 x, .int .i64 a, .int .i64 d]]) ?_ rfl ?_
                · simp [results, Tryz.results9, go_sem, k0, k1, k2]
                · rw [HQ.out]
                  exact ⟨((((B6.out.setCell (by simp) _).setCell (by simp) _).setCell (by simp) _)).drew, rfl⟩
          | ok fi q1 =>
            rw [hit] at HIT
            obtain ⟨hq1, hq2⟩ := hqi fi q1 hit
            have HNX := hid (show restP s perl p m q1 (fun c => g c || fi c) = R by rw [← HN2.out]; simp only [nextR, hit])
            clear hit hok hqi
            rcases hcc with e93 | ⟨e93, rfl⟩
            all_goals
              have HOZ := hid hoz
              clear hoz
              go_wp2_with fail
              refine (HIT.out).mono ?_
              rintro e w5 ⟨hB, v2, out2, rfl, hL, hM, hN⟩
              have K5 := hid (HM.out.k.below hB HM.out.k.lt); have B5 := hid (HM.out.bl.trans (hB.mono HM.out.bl.size))
              have K6 := hid (K5.out.alloc (.cells #[.int .i64 0, .int .i64 0, .int .i64 0] 27))
              have B6 := hid (B5.out.alloc B5.out.size (.cells #[.int .i64 0, .int .i64 0, .int .i64 0] 27))
              have O6 := hid (World.ownsRow.alloc (HOZ.out.kept (grownBy_below hB none) (by
                cases hv : u11.ownBlock with
                | none => exact .inl rfl
                | some _ => exact .inr (by simp))) (.cells #[.int .i64 0, .int .i64 0, .int .i64 0] 27))
              have L6 := World.ownsRow.alloc hL (.cells #[.int .i64 0, .int .i64 0, .int .i64 0] 27)
              have M6 := hid hM
              have hz6 : w.heap.size + 1 ≤ (w5.alloc (.cells #[.int .i64 0, .int .i64 0, .int .i64 0] 27)).heap.size := by have := K5.out.lt; simp; omega
              clear hB hL hM k0 k1 k2 f0 f1 f2
              rcases L6.2 with ⟨rfl, h0⟩ | ⟨g2, cap2, cur2, rfl, _, hg2, hnc, _, _, hx2⟩
              · obtain rfl : out2 = [] := List.eq_nil_of_length_eq_zero h0
                clear L6
                go_wp2_with (at_builtin; refine wpList_append_own_none rfl _ _ 24 rfl (w.heap.size + 1) 43 i0 2 Tryz.underlying24 hi _ _ _ rfl O6.out rfl ?_)
                go_roundw
                case rel =>
                  exact ⟨q1, fun c => g c || fi c, out, false, rfl, rfl, K6.out, B6.out, O6.out, fun c h0 h1 => by
                    have := M6.out c h0 h1
                    have h9 : memR [] c = false := by simp [memR]
                    rw [HM.out.m c h0 h1, ← this, h9, Bool.or_false], by omega, hq2, m, by omega, HNX.out⟩
                case measure => simp [intOf]; omega
              · have hnews : ∀ j u, (flatR out2)[j]? = some u → (w5.alloc (.cells #[.int .i64 0, .int .i64 0, .int .i64 0] 27)).cell? ((⟨g2, 0, none⟩ : Addr).add j) = some u := fun j u hj => by
                  rw [Addr.add_lit, Nat.zero_add]; exact cell_row hg2 hx2 j u hj
                have HNW := hid hnews
                clear L6 hg2 hx2 hnews
                go_wp2_with (at_builtin; refine wpList_append_own _ rfl _ _ 24 rfl (w.heap.size + 1) 43 i0 (.agg #[.int .i32 0, .int .i32 0]) 2 8 Tryz.underlying24 hi hz0 hz1 hz2 rfl (by decide) u11 _ _ rfl O6.out ⟨g2, 0, none⟩ out2.length cap2 (flatR out2) rfl (flatR_length out2) HNW.out (flatR_one out2) (by unfold maxLen; omega) (by omega) hz6 ?_; intro v7 w7 hown7 hgrow7 hnil7)
                go_roundw
                case rel =>
                  refine ⟨q1, fun c => g c || fi c, out ++ out2, false, rfl, rfl, K6.out.grown hgrow7 (fun e => by have := (O6.out.lt _ e.symm).1; omega), below_next B6.out (Nat.le_refl _) hgrow7 (fun j hj => by have := (O6.out.lt j hj).1; omega), by rw [List.length_append, flatR_append]; exact hown7, fun c h0 h1 => ?_, by rw [List.length_append]; omega, hq2, m, by omega, HNX.out⟩
                  rw [memR_append, HM.out.m c h0 h1, M6.out c h0 h1]
                case measure => simp [intOf]; omega
      · have hz' : (s.size : Int) ≤ (q : Int) := by omega
        have HQ := hid (show clsQ s p perl FO = .wrong 71 p s.size by
          obtain ⟨n, h1, h2⟩ := HM.out.next (.inr (stands_one_no s q 93 (by omega)))
          have h3 : clsP s p perl = .wrong 71 p s.size := by
            rw [← HR.out, ← h2]; exact nextR_far (by omega) (by omega)
          unfold clsQ; rw [h3])
        clear hoz
        go_wp2_with fail
        refine bodyPost_ret (v := .tuple #[.slice none 0 0, .int .i64 0, .agg #[.int .i64 71, .int .i64 p, .int .i64 s.size]]) ?_ rfl ?_
        · simp [results, Tryz.results9, go_sem, k0, k1, k2]
        · rw [HQ.out]
          exact ⟨(((HM.out.bl.setCell (by simp) _).setCell (by simp) _).setCell (by simp) _), rfl⟩
  · have g3 : ¬ (p : Int) + 1 < (s.size : Int) := by omega
    go_enter Tryz.func9, Tryz.ntmps9
    go_wp2_with fail
    go_loopw [9, 11, 12] (fun iv av bv W => ∃ (q : Nat) (g : Int → Bool) (out : List (Int × Int)) (b : Bool), iv = .int .i64 q ∧ bv = .bool b ∧ RMid w s p perl R b q g out av W) (fun iv _ _ _ => s.size + 1 - (intOf iv).toNat)
    case atStart => exact ⟨p + 1, fun _ => false, [], true, by go_num, rfl, K0.out, B0.out, World.ownsRow_nil _ _ _ _, fun _ _ _ => rfl, by simp, by omega, s.size + 2, by omega, by have := HST.out; rw [HC.out] at this; exact this⟩
    case round =>
      obtain ⟨q, g, out, b, rfl, rfl, H⟩ := hrel
      have HM := hid H
      have hq := H.iq
      have k0 := Blk.cell H.k (j := 0) rfl; have k1 := Blk.cell H.k (j := 1) rfl; have k2 := Blk.cell H.k (j := 2) rfl
      have f0 := H.k.frozen 0; have f1 := H.k.frozen 1; have f2 := H.k.frozen 2
      have hoz := H.o
      have hol := H.l
      have hwz := H.bl.size
      clear H
      by_cases hz : q < s.size
      · have hz' : (q : Int) < (s.size : Int) := by omega
        by_cases hx : stands s q [93] = true ∧ b = false
        · obtain ⟨h93, rfl⟩ := hx
          have e93 : ((s[q].toNat : Int) == 93) = true := by rw [((stands_one s q 93).1 h93).2]; rfl
          obtain ⟨sa, sc, rfl, hr⟩ := (AllV.of_own hoz).ranges (by omega)
          have HQ := hid (show clsQ s p perl FO = .ok (turnF FO g false) (q + 1) by
            obtain ⟨n, h1, h2⟩ := HM.out.r
            obtain ⟨m, rfl⟩ : ∃ m, n = m + 1 := ⟨n - 1, by omega⟩
            refine clsQ_ok ?_ HTT.out
            rw [← HR.out, ← h2]; show restP s perl p (m + 1) q g = _; unfold restP; rw [if_pos h93])
          have HNO := hid (ref02_Norm out sa out.length sc wr.heap.size wr hr (Nat.le_refl _) (by omega))
          clear hr hoz h93
          go_wp2_with fail
          refine (HNO.out).mono ?_
          rintro e w5 ⟨v5, out5, rfl, hL, hs5, hm5, hn5, hB⟩
          have hI5 : IsSet out5 (turnF none g false) := (show IsSet out5 (memR out) from ⟨hs5, hm5⟩).congr fun c h0 h1 => by rw [HM.out.m c h0 h1]; unfold turnF; simp
          have K5 := hid (HM.out.k.below hB HM.out.k.lt); have B5 := hid (HM.out.bl.trans (hB.mono HM.out.bl.size))
          have L5 := hid (Laid.far (w0 := w.alloc (.cells #[.int .i64 0, .int .i64 0, .int .i64 0] 27)) hL (by have := HM.out.k.lt; simp; omega))
          obtain ⟨sa5, sc5, rfl, hr5, _⟩ := Laid.ranges hL (by have := hI5.len; omega)
          have I5 := hid hI5; have R5 := hid hr5; have S5 := hid hs5
          clear hL hs5 hm5 hn5 hB hI5 hr5
          cases fold with
          | false =>
            obtain rfl : FO = none := HFO.out
            clear k0 k1 k2 f0 f1 f2
            have k0 := Blk.cell K5.out (j := 0) rfl; have k1 := Blk.cell K5.out (j := 1) rfl; have k2 := Blk.cell K5.out (j := 2) rfl
            have f0 := K5.out.frozen 0; have f1 := K5.out.frozen 1; have f2 := K5.out.frozen 2
            go_wp2_with fail
            refine bodyPost_ret (v := .tuple #[.slice sa5 out5.length sc5, .int .i64 ((q : Int) + 1), .agg #[.int .i64 0, .int .i64 0, .int .i64 0]]) ?_ rfl ?_
            · simp [results, Tryz.results9, go_sem, k0, k1, k2]
            · rw [HQ.out]
              exact ⟨(((B5.out.setCell (by simp) _).setCell (by simp) _).setCell (by simp) _), _, out5, rfl, laid_cells3 L5.out _ _ _, I5.out⟩
          | true =>
            obtain rfl : FO = some foldF := HFO.out
            go_wp2_with fail
            refine (HFC.out out5 sa5 sc5 w5 S5.out R5.out).mono ?_
            rintro e w6 ⟨v6, out6, rfl, hL, hI, hB⟩
            have hI6 : IsSet out6 (turnF (some foldF) g false) := hI.congr fun c h0 h1 => by
              rw [foldF_congr (g' := g) (fun c h0 h1 => by rw [I5.out.2, decide_eq_true h0, decide_eq_true h1]; unfold turnF; simp) c h0 h1]
              unfold turnF; simp
            have K6 := hid (K5.out.below hB K5.out.lt); have B6 := hid (B5.out.trans (hB.mono B5.out.size))
            have L6 := hid (Laid.far (w0 := w.alloc (.cells #[.int .i64 0, .int .i64 0, .int .i64 0] 27)) hL (by have := K5.out.lt; simp; omega))
            obtain ⟨sa6, sc6, rfl, hr6, _⟩ := Laid.ranges hL (by have := hI6.len; omega)
            have I6 := hid hI6; have R6 := hid hr6
            clear hL hI hB hI6 hr6
            clear k0 k1 k2 f0 f1 f2
            have k0 := Blk.cell K6.out (j := 0) rfl; have k1 := Blk.cell K6.out (j := 1) rfl; have k2 := Blk.cell K6.out (j := 2) rfl
            have f0 := K6.out.frozen 0; have f1 := K6.out.frozen 1; have f2 := K6.out.frozen 2
            go_wp2_with fail
            refine bodyPost_ret (v := .tuple #[.slice sa6 out6.length sc6, .int .i64 ((q : Int) + 1), .agg #[.int .i64 0, .int .i64 0, .int .i64 0]]) ?_ rfl ?_
            · simp [results, Tryz.results9, go_sem, k0, k1, k2]
            · rw [HQ.out]
              exact ⟨(((B6.out.setCell (by simp) _).setCell (by simp) _).setCell (by simp) _), _, out6, rfl, laid_cells3 L6.out _ _ _, I6.out⟩
        · have hx' : b = true ∨ ¬ stands s q [93] = true := by
            cases b with
            | true => exact .inl rfl
            | false => exact .inr fun h => hx ⟨h, rfl⟩
          obtain ⟨n, hn1, hn2⟩ := HM.out.next hx'
          obtain ⟨m, rfl⟩ : ∃ m, n = m + 1 := ⟨n - 1, by omega⟩
          have hcc : (((s[q].toNat : Int) == 93) = false) ∨ ((((s[q].toNat : Int) == 93) = true) ∧ b = true) := by
            by_cases h : s[q] = 93
            · refine .inr ⟨by rw [h]; rfl, ?_⟩
              rcases hx' with h1 | h1
              · exact h1
              · exact absurd ((stands_one s q 93).2 ⟨hz, h⟩) h1
            · exact .inl (by rw [beq_eq_false_iff_ne]; have := u8_ne h; have h9 : (93 : UInt8).toNat = 93 := rfl; omega)
          have HN2 := hid hn2
          clear hx hx' hn2
          have HIT := hid (ref07_item s q perl p wr (by omega) (HT.out.below HM.out.bl) hz)
          have hqi : ∀ fi q1, itemP s q perl p = .ok fi q1 → q < q1 ∧ q1 ≤ s.size := fun fi q1 h => itemP_q hq h
          have hok := itemP_ok s q perl p
          cases hit : itemP s q perl p with
          | wrong x a d =>
            rw [hit] at HIT hok
            have hx0 : (x != 0) = true := by rw [bne_iff_ne]; exact hok
            have HQ := hid (show clsQ s p perl FO = .wrong x a d by
              have h3 : clsP s p perl = .wrong x a d := by rw [← HR.out, ← HN2.out]; simp only [nextR, hit]
              unfold clsQ; rw [h3])
            clear hit hok hqi hoz
            rcases hcc with e93 | ⟨e93, rfl⟩
            all_goals
              go_wp2_with fail
              refine (HIT.out).mono ?_
              rintro e w5 ⟨hB, rfl⟩
              have K5 := hid (HM.out.k.below hB HM.out.k.lt); have B5 := hid (HM.out.bl.trans (hB.mono HM.out.bl.size))
              have K6 := hid (K5.out.alloc (.cells #[.int .i64 x, .int .i64 a, .int .i64 d] 27))
              have B6 := hid (B5.out.alloc B5.out.size (.cells #[.int .i64 x, .int .i64 a, .int .i64 d] 27))
              clear hB k0 k1 k2 f0 f1 f2
              go_wp2_with fail
              have N6 := Blk.new w5 [.int .i64 x, .int .i64 a, .int .i64 d] 27
              change Blk (w5.alloc (.cells #[.int .i64 x, .int .i64 a, .int .i64 d] 27)) _ _ _ at N6
              have hne : w.heap.size ≠ w5.heap.size := by have := K5.out.lt; omega
              generalize w5.alloc (.cells #[.int .i64 x, .int .i64 a, .int .i64 d] 27) = W6 at N6 K6 B6 ⊢
              generalize w5.heap.size = X at N6 hne ⊢
              have n0 := Blk.cell N6 (j := 0) rfl; have n1 := Blk.cell N6 (j := 1) rfl; have n2 := Blk.cell N6 (j := 2) rfl
              have k0 := Blk.cell K6.out (j := 0) rfl; have k1 := Blk.cell K6.out (j := 1) rfl; have k2 := Blk.cell K6.out (j := 2) rfl
              have f0 := K6.out.frozen 0; have f1 := K6.out.frozen 1; have f2 := K6.out.frozen 2
              have HN6 := hid N6; clear N6
              go_region
              all_goals
                go_wp2_with fail
                refine bodyPost_ret (v := .tuple #[.slice none 0 0, .int .i64 0, .agg #[.int .i64 x, .int .i64 a, .int .i64 d]]) ?_ rfl ?_
                · simp [results, Tryz.results9, go_sem, k0, k1, k2]
                · rw [HQ.out]
                  exact ⟨((((B6.out.setCell (by simp) _).setCell (by simp) _).setCell (by simp) _)).drew, rfl⟩
          | ok fi q1 =>
            rw [hit] at HIT
            obtain ⟨hq1, hq2⟩ := hqi fi q1 hit
            have HNX := hid (show restP s perl p m q1 (fun c => g c || fi c) = R by rw [← HN2.out]; simp only [nextR, hit])
            clear hit hok hqi
            rcases hcc with e93 | ⟨e93, rfl⟩
            all_goals
              have HOZ := hid hoz
              clear hoz
              go_wp2_with fail
              refine (HIT.out).mono ?_
              rintro e w5 ⟨hB, v2, out2, rfl, hL, hM, hN⟩
              have K5 := hid (HM.out.k.below hB HM.out.k.lt); have B5 := hid (HM.out.bl.trans (hB.mono HM.out.bl.size))
              have K6 := hid (K5.out.alloc (.cells #[.int .i64 0, .int .i64 0, .int .i64 0] 27))
              have B6 := hid (B5.out.alloc B5.out.size (.cells #[.int .i64 0, .int .i64 0, .int .i64 0] 27))
              have O6 := hid (World.ownsRow.alloc (HOZ.out.kept (grownBy_below hB none) (by
                cases hv : u11.ownBlock with
                | none => exact .inl rfl
                | some _ => exact .inr (by simp))) (.cells #[.int .i64 0, .int .i64 0, .int .i64 0] 27))
              have L6 := World.ownsRow.alloc hL (.cells #[.int .i64 0, .int .i64 0, .int .i64 0] 27)
              have M6 := hid hM
              have hz6 : w.heap.size + 1 ≤ (w5.alloc (.cells #[.int .i64 0, .int .i64 0, .int .i64 0] 27)).heap.size := by have := K5.out.lt; simp; omega
              clear hB hL hM k0 k1 k2 f0 f1 f2
              rcases L6.2 with ⟨rfl, h0⟩ | ⟨g2, cap2, cur2, rfl, _, hg2, hnc, _, _, hx2⟩
              · obtain rfl : out2 = [] := List.eq_nil_of_length_eq_zero h0
                clear L6
                go_wp2_with (at_builtin; refine wpList_append_own_none rfl _ _ 24 rfl (w.heap.size + 1) 43 i0 2 Tryz.underlying24 hi _ _ _ rfl O6.out rfl ?_)
                go_roundw
                case rel =>
                  exact ⟨q1, fun c => g c || fi c, out, false, rfl, rfl, K6.out, B6.out, O6.out, fun c h0 h1 => by
                    have := M6.out c h0 h1
                    have h9 : memR [] c = false := by simp [memR]
                    rw [HM.out.m c h0 h1, ← this, h9, Bool.or_false], by omega, hq2, m, by omega, HNX.out⟩
                case measure => simp [intOf]; omega
              · have hnews : ∀ j u, (flatR out2)[j]? = some u → (w5.alloc (.cells #[.int .i64 0, .int .i64 0, .int .i64 0] 27)).cell? ((⟨g2, 0, none⟩ : Addr).add j) = some u := fun j u hj => by
                  rw [Addr.add_lit, Nat.zero_add]; exact cell_row hg2 hx2 j u hj
                have HNW := hid hnews
                clear L6 hg2 hx2 hnews
                go_wp2_with (at_builtin; refine wpList_append_own _ rfl _ _ 24 rfl (w.heap.size + 1) 43 i0 (.agg #[.int .i32 0, .int .i32 0]) 2 8 Tryz.underlying24 hi hz0 hz1 hz2 rfl (by decide) u11 _ _ rfl O6.out ⟨g2, 0, none⟩ out2.length cap2 (flatR out2) rfl (flatR_length out2) HNW.out (flatR_one out2) (by unfold maxLen; omega) (by omega) hz6 ?_; intro v7 w7 hown7 hgrow7 hnil7)
                go_roundw
                case rel =>
                  refine ⟨q1, fun c => g c || fi c, out ++ out2, false, rfl, rfl, K6.out.grown hgrow7 (fun e => by have := (O6.out.lt _ e.symm).1; omega), below_next B6.out (Nat.le_refl _) hgrow7 (fun j hj => by have := (O6.out.lt j hj).1; omega), by rw [List.length_append, flatR_append]; exact hown7, fun c h0 h1 => ?_, by rw [List.length_append]; omega, hq2, m, by omega, HNX.out⟩
                  rw [memR_append, HM.out.m c h0 h1, M6.out c h0 h1]
                case measure => simp [intOf]; omega
      · have hz' : (s.size : Int) ≤ (q : Int) := by omega
        have HQ := hid (show clsQ s p perl FO = .wrong 71 p s.size by
          obtain ⟨n, h1, h2⟩ := HM.out.next (.inr (stands_one_no s q 93 (by omega)))
          have h3 : clsP s p perl = .wrong 71 p s.size := by
            rw [← HR.out, ← h2]; exact nextR_far (by omega) (by omega)
          unfold clsQ; rw [h3])
        clear hoz
        go_wp2_with fail
        refine bodyPost_ret (v := .tuple #[.slice none 0 0, .int .i64 0, .agg #[.int .i64 71, .int .i64 p, .int .i64 s.size]]) ?_ rfl ?_
        · simp [results, Tryz.results9, go_sem, k0, k1, k2]
        · rw [HQ.out]
          exact ⟨(((HM.out.bl.setCell (by simp) _).setCell (by simp) _).setCell (by simp) _), rfl⟩

theorem ref07_ClassF (HF : FoldC) (s : ByteArray) (p : Nat) (f : Int) (w : World) (hs : s.size ≤ 100000000) (hT : Tabs w) :
    Calls Tryz.prog 9 #[.string s, .int .i64 p, .int .i64 f] w (ClsOut w (clsQ s p (onB f 32) (foldO f))) := by
  by_cases hn : stands s p [91] = true
  · exact rcls_items HF s p f w hs hT (onB f 32) rfl (onB f 1) rfl hn
  · have e : clsQ s p (onB f 32) (foldO f) = .wrong 1 p p := by unfold clsQ clsP; rw [if_pos hn]
    rw [e]
    exact rcls_closed s p f w hs hn

theorem setFrom_all : ∀ {out : List (Int × Int)} {l0 : Int}, setFrom l0 out = true → ∀ r ∈ out, l0 + 2 ≤ r.1 ∧ r.1 ≤ r.2 ∧ r.2 ≤ 1114111
  | [], _, _, r, hr => by simp at hr
  | (l, h) :: out, l0, hs, r, hr => by
    simp only [setFrom, Bool.and_eq_true, decide_eq_true_eq] at hs
    rcases List.mem_cons.1 hr with rfl | hr
    · exact ⟨hs.1.1.1, hs.1.1.2, hs.1.2⟩
    · have := setFrom_all hs.2 r hr
      exact ⟨by omega, this.2⟩
theorem setFrom_at : ∀ {out : List (Int × Int)} {l0 : Int}, setFrom l0 out = true → ∀ j (hj : j < out.length), ∀ r ∈ out.drop (j + 1), out[j].2 + 2 ≤ r.1
  | [], _, _, j, hj, _, _ => absurd hj (Nat.not_lt_zero _)
  | (l, h) :: out, l0, hs, j, hj, r, hr => by
    simp only [setFrom, Bool.and_eq_true, decide_eq_true_eq] at hs
    match j, hj with
    | 0, _ => exact (setFrom_all hs.2 r (by simpa using hr)).1
    | j + 1, hj => exact setFrom_at hs.2 j (by simpa using hj) r (by simpa using hr)
structure FAt (W0 W : World) (v : Value) (M : List Int) : Prop where
  b : Below W0.heap.size W0 W
  o : W.ownsRow W0.heap.size 43 2 v (dupR M).length (flatR (dupR M))
structure FOrb (W0 W : World) (v : Value) (M : List Int) (ov : Value) (os : List Int) : Prop where
  a : FAt W0 W v M
  r : OwnR W W0.heap.size ov os
  d : ∀ k, ov.ownBlock = some k → v.ownBlock ≠ some k
structure FOut (out : List (Int × Int)) (j : Nat) (M : List Int) (Q : Nat) : Prop where
  g : Low (memR (out.take j)) M
  l : M.length ≤ 3 * Q
  q : Q ≤ 12288
  n : ∀ r ∈ out.drop j, (Q : Int) ≤ r.1

structure FIn (W0 W : World) (v : Value) (out : List (Int × Int)) (j : Nat) (lo : Int) (d : Nat) (M : List Int) (Q : Nat) : Prop where
  a : FAt W0 W v M
  g : ∀ x, x ∈ M ↔ (∃ y, memR (out.take j) y = true ∧ y < 12288 ∧ x ∈ orbL y) ∨ ∃ y, lo ≤ y ∧ y < lo + d ∧ x ∈ orbL y
  l : M.length ≤ 3 * Q + 3 * d
  e : d = 0 ∨ lo + d ≤ 12288
theorem FIn.take {W0 W W' : World} {v v' : Value} {out : List (Int × Int)} {j : Nat} {lo : Int} {d : Nat} {M : List Int} {Q : Nat} (h : FIn W0 W v out j lo d M Q) (ha : FAt W0 W' v' (M ++ orbL (lo + d))) (hol : (orbL (lo + d)).length ≤ 3) (hlt : lo + d < 12288) : FIn W0 W' v' out j lo (d + 1) (M ++ orbL (lo + d)) Q := by
  refine ⟨ha, fun x => ?_, by have := h.l; rw [List.length_append]; omega, .inr (by omega)⟩
  rw [List.mem_append, h.g x]
  constructor
  · rintro ((g | ⟨y, g1, g2, g3⟩) | g)
    · exact .inl g
    · exact .inr ⟨y, g1, by omega, g3⟩
    · exact .inr ⟨lo + d, by omega, by omega, g⟩
  · rintro (g | ⟨y, g1, g2, g3⟩)
    · exact .inl (.inl g)
    · by_cases e : y = lo + d
      · subst e; exact .inr g3
      · exact .inl (.inr ⟨y, g1, by omega, g3⟩)
theorem FIn.done {W0 W : World} {v : Value} {out : List (Int × Int)} {j : Nat} {d : Nat} {M : List Int} {Q : Nat} (hj : j < out.length) (hs : setRight out = true) (h : FIn W0 W v out j out[j].1 d M Q) (ho : (Q : Int) ≤ out[j].1) (hQ : Q ≤ 12288) (hn : ∀ r ∈ out.drop j, (Q : Int) ≤ r.1) (hd : out[j].1 + d ≤ out[j].2 + 1) (hend : ¬ (out[j].1 + d ≤ out[j].2 ∧ out[j].1 + d < 12288)) : ∃ Q', FOut out (j + 1) M Q' := by
  have hall := setFrom_all (l0 := -2) hs out[j] (List.getElem_mem hj)
  have hnx := setFrom_at (l0 := -2) hs j hj
  have hg : Low (memR (out.take (j + 1))) M := fun x => by
    rw [h.g x]
    constructor
    · rintro (⟨y, g1, g2, g3⟩ | ⟨y, g1, g2, g3⟩)
      · exact ⟨y, by rw [memR_take out y j hj, g1]; rfl, g2, g3⟩
      · refine ⟨y, by rw [memR_take out y j hj, decide_eq_true g1, decide_eq_true (by omega : y ≤ out[j].2)]; simp, ?_, g3⟩
        rcases h.e with e | e <;> omega
    · rintro ⟨y, g1, g2, g3⟩
      rw [memR_take out y j hj, Bool.or_eq_true, Bool.and_eq_true, decide_eq_true_eq, decide_eq_true_eq] at g1
      rcases g1 with g1 | g1
      · exact .inl ⟨y, g1, g2, g3⟩
      · exact .inr ⟨y, g1.1, by omega, g3⟩
  by_cases h0 : d = 0
  · exact ⟨Q, hg, by have := h.l; omega, hQ, fun r hr => hn r (List.mem_of_mem_drop (i := 1) (by rw [List.drop_drop]; exact hr))⟩
  · obtain ⟨n, hn'⟩ : ∃ n : Nat, out[j].1 + d = n := ⟨(out[j].1 + d).toNat, by omega⟩
    have he := h.e.resolve_left h0
    exact ⟨n, hg, by have := h.l; omega, by omega, fun r hr => by have := hnx r hr; omega⟩

theorem own_form {W : World} {B : Nat} {v : Value} {D : List (Int × Int)} (h : W.ownsRow B 43 2 v D.length (flatR D)) (hN : D.length ≤ 140737488351232) : ∃ ma mc, v = .slice ma D.length mc ∧ (ma = none → mc = 0) ∧ RangesV W W.heap.size D ma D.length mc := by
  obtain ⟨ma, mc, e, hr⟩ := (AllV.of_own h).ranges hN
  refine ⟨ma, mc, e, fun hn => ?_, hr⟩
  rcases h.2 with ⟨h1, _⟩ | ⟨g, cap, cur, h1, _⟩
  · rw [h1] at e; injection e with e1 e2 e3; exact e3.symm
  · rw [h1] at e; injection e with e1 e2 e3; rw [hn] at e1; cases e1
def lenV : Value → Nat
  | .slice _ n _ => n
  | _ => 0
structure FMid (W0 W : World) (M : List Int) (D : List (Int × Int)) (sa4 : Option Addr) (c4 : Nat) (o9 : List (Int × Int)) (sa9 : Option Addr) (c9 : Nat) : Prop where
  b : Below W0.heap.size W0 W
  d : RangesV W W0.heap.size D sa4 D.length c4
  dz : sa4 = none → c4 = 0
  o : RangesV W W.heap.size o9 sa9 o9.length c9
  oz : sa9 = none → c9 = 0
  ol : o9.length ≤ 600000
  dl : D.length ≤ 36900
  m : ∀ x, 0 ≤ x → x ≤ 1114111 → (memR o9 x || memR D x) = decide (x ∈ M)

set_option maxRecDepth 100000 in
set_option maxHeartbeats 8000000 in
theorem ref03_Fold : FoldC := by
  intro rs sa sc w hrs hr
  obtain ⟨i0, hi, hz0, hz1, hz2⟩ := info_parts infoRange
  have hl := (IsSet.of_right hrs).len
  have HN := hid (ref02_Norm rs sa rs.length sc w.heap.size w hr (Nat.le_refl _) (by omega))
  clear hr
  go_enter Tryz.func25, Tryz.ntmps25
  go_wp2_with fail
  refine (HN.out).mono ?_
  rintro e w1 ⟨v1, out, rfl, hL, hs1, hm1, hn1, hB1⟩
  have IS := hid (show IsSet out (memR rs) from ⟨hs1, hm1⟩)
  have hol := IS.out.len
  obtain ⟨oa, oc, rfl, hoz, hr1⟩ := own_form hL (by omega)
  have HOZ1 := hid hoz; clear hoz
  have R1 := hid hr1; have B1 := hid hB1; have S1 := hid hs1
  clear hL hs1 hm1 hn1 hB1 hr1
  go_wp2_with fail
  go_loopw [4, 5] (fun mv iv W => ∃ (j : Nat) (M : List Int) (Q : Nat), j ≤ out.length ∧ iv = .int .i64 j ∧ FAt w1 W mv M ∧ FOut out j M Q) (fun _ iv _ => out.length - (intOf iv).toNat)
  case atStart => exact ⟨0, [], 0, Nat.zero_le _, rfl, ⟨Below.refl _ _, World.ownsRow_nil _ _ _ _⟩, fun x => by simp [memR], by simp, by omega, fun r hr => by have := (setFrom_all (l0 := -2) S1.out r (by simpa using hr)).1; omega⟩
  case round =>
    obtain ⟨j, M, Q, hj, rfl, hA, hO⟩ := hrel
    have A3 := hid hA; have O3 := hid hO; clear hA hO
    by_cases hjl : j < out.length
    case neg =>
      obtain rfl : j = out.length := by omega
      have hLow : Low (memR out) M := by have := O3.out.g; rw [List.take_length] at this; exact this
      have HLOW := hid (low_fold IS.out hLow)
      have hdl : (dupR M).length ≤ 36900 := by have := O3.out.l; have := O3.out.q; unfold dupR; rw [List.length_map]; omega
      have hfm := own_form A3.out.o (by omega)
      obtain ⟨ma, mc, rfl, hmz, hmr⟩ := hfm
      have HM0 := hid hmr; have HMZ := hid hmz; have BW := hid (B1.out.trans (A3.out.b.mono B1.out.size))
      have R3 := hid ((R1.out.below A3.out.b).mono A3.out.b.size)
      obtain ⟨D0, hD0⟩ : ∃ D0, dupR M = D0 := ⟨_, rfl⟩
      have HDM := hid (show ∀ x, memR D0 x = decide (x ∈ M) from fun x => by rw [← hD0]; exact memR_dup M x)
      rw [hD0] at hdl HM0 ⊢
      clear hmr hmz hLow hD0
      go_wp2_with fail
      obtain ⟨WX, hWX⟩ : ∃ WX, WX = wr := ⟨_, rfl⟩
      go_loopw [4, 9] (fun mv ov W => ∃ (D : List (Int × Int)) (sa4 : Option Addr) (c4 : Nat) (o9 : List (Int × Int)) (sa9 : Option Addr) (c9 : Nat), mv = .slice sa4 D.length c4 ∧ ov = .slice sa9 o9.length c9 ∧ FMid WX W M D sa4 c4 o9 sa9 c9) (fun mv _ _ => lenV mv)
      case atStart => exact ⟨D0, ma, mc, [], none, 0, rfl, rfl, hWX ▸ Below.refl _ _, hWX ▸ HM0.out, HMZ.out, ranges_nil _ _, fun _ => rfl, by simp, hdl, fun x _ _ => by rw [HDM.out x]; simp [memR]⟩
      case round =>
        obtain ⟨D, sa4, c4, o9, sa9, c9, rfl, rfl, hF⟩ := hrel
        have F4 := hid hF; clear hF
        rw [← hWX] at BW R3
        by_cases h5 : 500 < D.length
        · obtain ⟨b4, o4, rfl, hlt4, hat4⟩ := F4.out.d.2.2.resolve_left (by omega)
          have hcap := F4.out.d.2.1.1
          have HAT4 := hid hat4; clear hat4
          have h500 : (D.take 500).length = 500 := by rw [List.length_take]; omega
          have HU := ref02_Union o9 (D.take 500) sa9 (some ⟨b4, o4, none⟩) c9 c4 wr.heap.size wr F4.out.o ⟨rfl, ⟨by omega, by omega⟩, .inr ⟨b4, o4, rfl, by have := F4.out.b.size; omega, HAT4.out.takeP 500⟩⟩ F4.out.oz (fun h => by cases h) (Nat.le_refl _) (by have := F4.out.ol; omega)
          rw [h500] at HU
          have HU2 := hid HU
          clear HU
          go_wp2_with fail
          refine (HU2.out).mono ?_
          rintro e w5 ⟨v5, o5, rfl, hL5, hs5, hm5, hn5, hB5⟩
          have hI5 : IsSet o5 (fun c => memR o9 c || memR (D.take 500) c) := ⟨hs5, hm5⟩
          have hl5 := hI5.len
          obtain ⟨sa5, c5, rfl, hz5, hr5⟩ := own_form hL5 (by omega)
          have hdd : (D.drop 500).length = D.length - 500 := by rw [List.length_drop]
          have hdl4 := F4.out.dl
          have hsz4 := F4.out.b.size
          have hm5' : ∀ x, 0 ≤ x → x ≤ 1114111 → (memR o5 x || memR (D.drop 500) x) = decide (x ∈ M) := by
            intro x h0 h1
            have e : memR D x = (memR (D.take 500) x || memR (D.drop 500) x) := by rw [← memR_append, List.take_append_drop]
            have e5 : memR o5 x = (memR o9 x || memR (D.take 500) x) := by rw [hI5.2, decide_eq_true h0, decide_eq_true h1]; rfl
            rw [e5, ← F4.out.m x h0 h1, e, Bool.or_assoc]
          have hd5 : RangesV w5 WX.heap.size (D.drop 500) (some ⟨b4, o4 + 500 * 2, none⟩) (D.drop 500).length (c4 - 500) := by
            refine ⟨rfl, ⟨by omega, by omega⟩, .inr ⟨b4, o4 + 500 * 2, rfl, hlt4, ?_⟩⟩
            exact (RangesAt.below (B := wr.heap.size) hB5 (by omega) HAT4.out).dropP 500
          have hb5 : Below WX.heap.size WX w5 := F4.out.b.trans (hB5.mono hsz4)
          have F5 := hid (FMid.mk (W0 := WX) (M := M) hb5 hd5 (fun h => by cases h) hr5 hz5 (by omega) (by omega) hm5')
          clear hm5' hd5 hb5
          clear hL5 hs5 hm5 hn5 hB5 hI5 hl5 hz5 hr5
          go_wp2_with fail
          go_roundw
          case rel => exact ⟨D.drop 500, some ⟨b4, o4 + 500 * 2, none⟩, c4 - 500, o5, sa5, c5, by rw [hdd], rfl, F5.out⟩
          case measure => simp [lenV]; omega
        · have HU := ref02_Union o9 D sa9 sa4 c9 c4 wr.heap.size wr F4.out.o (F4.out.d.mono F4.out.b.size) F4.out.oz F4.out.dz (Nat.le_refl _) (by have := F4.out.ol; have := F4.out.dl; omega)
          have HU2 := hid HU
          clear HU
          go_wp2_with fail
          refine (HU2.out).mono ?_
          rintro e w5 ⟨v5, o5, rfl, hL5, hs5, hm5, hn5, hB5⟩
          have hI5 : IsSet o5 (fun c => memR o9 c || memR D c) := ⟨hs5, hm5⟩
          have hl5 := hI5.len
          obtain ⟨sa5, c5, rfl, hz5, hr5⟩ := own_form hL5 (by omega)
          have B5 := hid ((BW.out.trans (F4.out.b.mono BW.out.size)).trans (hB5.mono (BW.out.trans (F4.out.b.mono BW.out.size)).size))
          have I5 := hid hI5
          have HU3 := hid (ref02_Union out o5 oa sa5 oc c5 w5.heap.size w5 (((R3.out.below F4.out.b).mono F4.out.b.size).below hB5 |>.mono hB5.size) hr5 HOZ1.out hz5 (Nat.le_refl _) (by omega))
          clear hL5 hs5 hm5 hn5 hB5 hI5 hz5 hr5
          go_wp2_with fail
          refine (HU3.out).mono ?_
          rintro e w6 ⟨v6, o6, rfl, hL6, hs6, hm6, hn6, hB6⟩
          have Z := hid (show FoldR w rs (.returned v6) w6 from ⟨v6, o6, rfl, Joins.ownsRow_le hL6 B5.out.size, ⟨hs6, fun c => by
            rw [hm6]
            by_cases h0 : 0 ≤ c
            · by_cases h1 : c ≤ 1114111
              · have e5 : memR o5 c = decide (c ∈ M) := by rw [I5.out.2, decide_eq_true h0, decide_eq_true h1]; exact F4.out.m c h0 h1
                show (_ && (memR out c || memR o5 c)) = _
                rw [e5, HLOW.out c h0 h1]
              · rw [decide_eq_false h1]; simp
            · rw [decide_eq_false h0]; simp⟩, B5.out.trans (hB6.mono B5.out.size)⟩)
          clear hL6 hs6 hm6 hn6 hB6
          go_wp2_with fail
          go_ret
          exact Z.out
    case pos =>
      obtain ⟨b0, o0, e0, hlt0, hat⟩ := R1.out.2.2.resolve_left (by omega)
      subst e0
      obtain ⟨c0, c1⟩ := (hat.below A3.out.b hlt0).get j hjl
      obtain ⟨lo, hlo⟩ : ∃ lo, out[j].1 = lo := ⟨_, rfl⟩
      obtain ⟨hi', hhi⟩ : ∃ hi', out[j].2 = hi' := ⟨_, rfl⟩
      rw [hlo] at c0; rw [hhi] at c1
      have HLO := hid hlo; have HHI := hid hhi; have HAT := hid hat
      clear hlo hhi hat
      have hall := setFrom_all (l0 := -2) S1.out out[j] (List.getElem_mem hjl)
      rw [HLO.out, HHI.out] at hall
      obtain ⟨ha1, ha2, ha3⟩ := hall
      have hQl : (Q : Int) ≤ lo := by have := O3.out.n out[j] (by rw [List.drop_eq_getElem_cons hjl]; exact List.mem_cons_self); rw [HLO.out] at this; exact this
      go_wp2_with fail
      go_loopw [4, 6] (fun mv cv W => ∃ (d : Nat) (M : List Int), cv = .int .i32 (lo + d) ∧ lo + d ≤ hi' + 1 ∧ FIn w1 W mv out j lo d M Q) (fun _ cv _ => 1114113 - (intOf cv).toNat)
      case atStart => exact ⟨0, M, by simp, by omega, A3.out, fun x => by rw [O3.out.g x]; simp; intro y h1 h2; omega, by have := O3.out.l; omega, .inl rfl⟩
      case round =>
        obtain ⟨d, M4, rfl, hdh, hI⟩ := hrel
        have I4 := hid hI; clear hI
        obtain ⟨c0', c1'⟩ := (HAT.out.below I4.out.a.b hlt0).get j hjl
        rw [HLO.out] at c0'; rw [HHI.out] at c1'
        by_cases hce : lo + d ≤ hi' ∧ lo + d < 12288
        · obtain ⟨hc1, hc2⟩ := hce
          go_wp2_with fail
          refine (ref03_Orbit (lo + d) wr (by omega) (by omega)).mono ?_
          rintro e w8 ⟨ov, rfl, hown, hB8⟩
          have hpos : 0 < (orbL (lo + d)).length := List.length_pos_of_mem (orb_self _)
          have hol3 : (orbL (lo + d)).length ≤ 3 := by rw [← (orb_good (c := lo + d) (by omega) (by omega)).2.2.2.length_eq]; exact (orb_good (by omega) (by omega)).2.1
          have HTK := hid (fun (W' : World) (v' : Value) (ha : FAt w1 W' v' (M4 ++ orbL (lo + d))) => I4.out.take ha hol3 hc2)
          obtain ⟨og, ocap, rfl, hogB, _⟩ := World.ownsRow.form hown hpos
          have hz7 := I4.out.a.b.size
          obtain ⟨os, hos⟩ : ∃ os, orbL (lo + d) = os := ⟨_, rfl⟩
          rw [hos] at hown hpos hol3 HTK ⊢
          have hM4 : M4.length ≤ 36864 := by have := I4.out.l; have := O3.out.q; omega
          have O8 := hid (show FOrb w1 w8 u4 (M4 ++ os.take 0) (.slice (some ⟨og, 0, none⟩) os.length ocap) os from ⟨⟨I4.out.a.b.trans (hB8.mono hz7), by rw [List.take_zero, List.append_nil]; exact I4.out.a.o.kept (grownBy_below hB8 none) (by cases u4.ownBlock <;> simp)⟩, Joins.ownsRow_le hown hz7, fun k' hk' e => by
            have e2 : og = k' := Option.some.inj hk'
            have := (I4.out.a.o.lt k' e).2
            omega⟩)
          have HM4 := hid hM4; have HOL := hid hol3
          clear hown hB8 hogB hz7 hos hM4 hol3
          go_wp2_with fail
          go_loopw [4, 8] (fun mv qv W => ∃ q : Nat, q ≤ os.length ∧ qv = .int .i64 q ∧ FOrb w1 W mv (M4 ++ os.take q) (.slice (some ⟨og, 0, none⟩) os.length ocap) os) (fun _ qv _ => os.length - (intOf qv).toNat)
          case atStart => exact ⟨0, Nat.zero_le _, rfl, O8.out⟩
          case round =>
            obtain ⟨q, hq, rfl, hO9⟩ := hrel
            have O9 := hid hO9; clear hO9
            have hol9 := HOL.out
            by_cases hqo : q < os.length
            case neg =>
              obtain rfl : q = os.length := by omega
              have A9 := hid (show FAt w1 wr u4 (M4 ++ os) by have := O9.out.a; rw [List.take_length] at this; exact this)
              go_wp2_with fail
              go_roundw
              case rel => exact ⟨d + 1, M4 ++ os, by go_num, by omega, HTK.out wr u4 A9.out⟩
              case measure => simp [intOf]; omega
            case pos =>
              have gq := O9.out.r.cellAt q (by omega)
              rw [vR_get os q hqo] at gq
              obtain ⟨x, hx⟩ : ∃ x, os[q] = x := ⟨_, rfl⟩
              rw [hx] at gq
              have hqi : (q : Int) < (os.length : Int) := by omega
              have HX := hid hx; clear hx
              have hml : (dupR (M4 ++ os.take q)).length ≤ 36900 := by
                have := HM4.out
                unfold dupR
                simp only [List.length_map, List.length_append, List.length_take] at *
                omega
              have hzr := O9.out.a.b.size
              have HOO := hid O9.out.a.o; have HZR := hid hzr
              go_wp2_with fail
              go_region_law ((refine step_append_lies _ (by rfl) _ _ 24 (by rfl) w1.heap.size 43 i0 (.agg #[.int .i32 0, .int .i32 0]) 2 8 Tryz.underlying24 hi hz0 hz1 hz2 rfl (by decide) _ _ _ (by rfl) (HOO.out.alloc _) ⟨wr.heap.size, 0, none⟩ 1 1 [.int .i32 x, .int .i32 x] (by rfl) rfl (cells_two_at _ _ (by simp) _ _ _) (fun u hu => by simp at hu; subst hu; rfl) (by decide) (by unfold maxLen; omega) (by omega) (by have := HZR.out; simp; omega) (wr.heap.size + 1) (by simp) ?_; intro g2 cap2 w10 hown hgrow hat hgl))
              all_goals
                have htq : os.take (q + 1) = os.take q ++ [x] := by rw [List.take_succ_eq_append_getElem hqo, HX.out]
                have hdup : dupR (M4 ++ os.take (q + 1)) = dupR (M4 ++ os.take q) ++ [(x, x)] := by rw [htq, ← List.append_assoc]; simp [dupR]
                have hgn : u4.ownBlock ≠ some og → g2 ≠ og := by
                  intro h1 e
                  have := (O9.out.r.lt og rfl).2
                  rcases hat with h3 | h3
                  · exact h1 (by rw [h3, e])
                  · omega
                have hrd : OwnR ((wr.alloc (.cells #[.int .i32 x, .int .i32 x] 43)).drew) w1.heap.size (.slice (some ⟨og, 0, none⟩) os.length ocap) os := World.ownsRow.alloc O9.out.r (.cells #[.int .i32 x, .int .i32 x] 43)
                have F10 := hid (show FOrb w1 w10 (.slice (some ⟨g2, 0, none⟩) ((dupR (M4 ++ os.take q)).length + 1) cap2) (M4 ++ os.take (q + 1)) (.slice (some ⟨og, 0, none⟩) os.length ocap) os from ⟨⟨Below.grown ((O9.out.a.b.trans (below_drewN (Below.refl _ _) 1)).alloc (by have := HZR.out; simp; omega) _) hgrow (by have := HZR.out; simp; omega) (fun k' e => (HOO.out.lt k' e).1), by
                  rw [hdup, List.length_append, show flatR (dupR (M4 ++ os.take q) ++ [(x, x)]) = flatR (dupR (M4 ++ os.take q)) ++ [.int .i32 x, .int .i32 x] by simp [flatR]]
                  exact hown⟩, World.ownsRow.kept hrd hgrow (.inr fun e => O9.out.d og rfl e.symm), fun k' hk' e => by
                  have e2 : og = k' := Option.some.inj hk'
                  subst e2
                  exact hgn (O9.out.d og rfl) (Option.some.inj e)⟩)
                clear hown hgrow hat hgl hgn hdup htq gq hrd
                simp only [Act.put, Array.setIfInBounds]
                go_simp
                go_wp2_with fail
                go_roundw
                case rel => exact ⟨q + 1, hqo, by go_num, F10.out⟩
                case measure => simp [intOf]; omega
        · have HD := hid (show ∃ Q', FOut out (j + 1) M4 Q' by
            have := O3.out.q
            refine FIn.done hjl S1.out (d := d) (Q := Q) (W := wr) (W0 := w1) (v := u4) ?_ ?_ ?_ O3.out.n ?_ ?_
            · rw [HLO.out]; exact I4.out
            · rw [HLO.out]; exact hQl
            · exact this
            · rw [HLO.out, HHI.out]; exact hdh
            · rw [HLO.out, HHI.out]; exact hce)
          by_cases hc1 : lo + d ≤ hi'
          · have hc2 : ¬ lo + d < 12288 := fun h => hce ⟨hc1, h⟩
            clear hce
            go_wp2_with fail
            go_roundw
            case rel =>
              obtain ⟨Q', hO⟩ := HD.out
              exact ⟨j + 1, M4, Q', hjl, by go_num, I4.out.a, hO⟩
            case measure => simp [intOf]; omega
          · clear hce
            go_wp2_with fail
            go_roundw
            case rel =>
              obtain ⟨Q', hO⟩ := HD.out
              exact ⟨j + 1, M4, Q', hjl, by go_num, I4.out.a, hO⟩
            case measure => simp [intOf]; omega

set_option maxRecDepth 100000 in
set_option maxHeartbeats 8000000 in
theorem law_bracketsClasses (s : ByteArray) (pz f : Int) (w : World) (hT : Tabs w) (hs : s.size ≤ 140737488351232) :
    Calls Tryz.prog 3 #[.string s, .int .i64 pz, .int .i64 f] w fun e w' => e = .returned (.bool true) ∧ Below w.heap.size w w' := by
  have HT := hid hT; clear hT
  by_cases h0 : pz < 0
  · go_enter Tryz.func3, Tryz.ntmps3
    go_wp2_with fail
    refine (head07 w HT.out).mono ?_
    rintro e w1 ⟨rfl, hB⟩
    have B1 := hid hB; clear hB
    go_wp2_with fail
    go_ret
    exact ⟨rfl, B1.out⟩
  by_cases h1 : (s.size : Int) < pz
  · have h0' : 0 ≤ pz := by omega
    go_enter Tryz.func3, Tryz.ntmps3
    go_wp2_with fail
    refine (head07 w HT.out).mono ?_
    rintro e w1 ⟨rfl, hB⟩
    have B1 := hid hB; clear hB
    go_wp2_with fail
    go_ret
    exact ⟨rfl, B1.out⟩
  obtain ⟨p, rfl⟩ : ∃ p : Nat, pz = p := ⟨pz.toNat, by omega⟩
  by_cases h2 : 3000 < s.size
  · have h0' : 0 ≤ (p : Int) := by omega
    have h2' : (3000 : Int) < (s.size : Int) := by omega
    go_enter Tryz.func3, Tryz.ntmps3
    go_wp2_with fail
    refine (head07 w HT.out).mono ?_
    rintro e w1 ⟨rfl, hB⟩
    have B1 := hid hB; clear hB
    go_wp2_with fail
    go_ret
    exact ⟨rfl, B1.out⟩
  have hp : p ≤ s.size := by omega
  have h2' : ¬ (3000 : Int) < (s.size : Int) := by omega
  go_enter Tryz.func3, Tryz.ntmps3
  go_wp2_with fail
  refine (head07 w HT.out).mono ?_
  rintro e w1 ⟨rfl, hB⟩
  have B1 := hid hB; have T1 := hid (HT.out.below hB); clear hB
  go_wp2_with fail
  refine (brackets_Class s p f w1 hp (by omega) T1.out).mono ?_
  cases hq : clsQ s p (onB f 32) (foldO f) with
  | wrong x a d =>
    have HQ := hid hq; clear hq
    rintro e w2 ⟨hB2, rfl⟩
    have B2 := hid (B1.out.trans (hB2.mono B1.out.size)); have T2 := hid (T1.out.below hB2)
    have K2 := hid (Blk.new w2 [.int .i64 x, .int .i64 a, .int .i64 d] 27)
    clear hB2
    go_wp2_with fail
    refine (ref07_ClassF ref03_Fold s p f _ (by omega) (T2.out.alloc _)).mono ?_
    rw [HQ.out]
    rintro e w3 ⟨hB3, rfl⟩
    have K3 := hid (Blk.below K2.out hB3 K2.out.lt)
    have B3 := hid ((B2.out.alloc B2.out.size (.cells #[.int .i64 x, .int .i64 a, .int .i64 d] 27)).trans (hB3.mono (by have := B2.out.size; simp; omega)))
    have K4 := hid (K3.out.alloc (.cells #[.int .i64 x, .int .i64 a, .int .i64 d] 27))
    have B4 := hid (B3.out.alloc B3.out.size (.cells #[.int .i64 x, .int .i64 a, .int .i64 d] 27))
    have N4 := hid (Blk.new w3 [.int .i64 x, .int .i64 a, .int .i64 d] 27)
    clear hB3
    go_wp2_with fail
    refine (ref02_Same [] none none 0 0 _ _ (RangesV.nil _ _) (RangesV.nil _ _) (Nat.le_refl _)).mono ?_
    rintro e w5 ⟨rfl, hB5⟩
    have k5 := Blk.below K4.out hB5 K4.out.lt
    have n5 := Blk.below N4.out hB5 N4.out.lt
    have B5 := hid (B4.out.trans (hB5.mono B4.out.size))
    have k0 := Blk.cell k5 (j := 0) rfl; have k1 := Blk.cell k5 (j := 1) rfl; have k2 := Blk.cell k5 (j := 2) rfl
    have n0 := Blk.cell n5 (j := 0) rfl; have n1 := Blk.cell n5 (j := 1) rfl; have n2 := Blk.cell n5 (j := 2) rfl
    clear hB5 k5 n5
    go_wp2_with fail
    go_ret
    exact ⟨rfl, B5.out⟩
  | ok g q =>
    have HQ := hid hq; clear hq
    rintro e w2 ⟨hB2, va, outa, rfl, hLa, hIa⟩
    obtain ⟨aa, ac, rfl, hra, _⟩ := hLa.ranges (by have := hIa.len; omega)
    have IA := hid hIa; have RA := hid hra
    have B2 := hid (B1.out.trans (hB2.mono B1.out.size)); have T2 := hid (T1.out.below hB2)
    have K2 := hid (Blk.new w2 [.int .i64 0, .int .i64 0, .int .i64 0] 27)
    clear hB2 hLa hIa hra
    go_wp2_with fail
    refine (ref07_ClassF ref03_Fold s p f _ (by omega) (T2.out.alloc _)).mono ?_
    rw [HQ.out]
    rintro e w3 ⟨hB3, vb, outb, rfl, hLb, hIb⟩
    obtain rfl : outb = outa := IsSet.unique hIb IA.out
    obtain ⟨ba, bc, rfl, hrb, _⟩ := hLb.ranges (by have := hIb.len; omega)
    have RB := hid hrb
    have K3 := hid (Blk.below K2.out hB3 K2.out.lt)
    have RA3 := hid (((RA.out.below ((Below.refl _ w2).alloc (Nat.le_refl _) (.cells #[.int .i64 0, .int .i64 0, .int .i64 0] 27))).below (hB3.mono (by simp))).mono (B' := w3.heap.size) (by have := hB3.size; simp at this; omega))
    have B3 := hid ((B2.out.alloc B2.out.size (.cells #[.int .i64 0, .int .i64 0, .int .i64 0] 27)).trans (hB3.mono (by have := B2.out.size; simp; omega)))
    have K4 := hid (K3.out.alloc (.cells #[.int .i64 0, .int .i64 0, .int .i64 0] 27))
    have N4 := hid (Blk.new w3 [.int .i64 0, .int .i64 0, .int .i64 0] 27)
    have B4 := hid (B3.out.alloc B3.out.size (.cells #[.int .i64 0, .int .i64 0, .int .i64 0] 27))
    have RA4 := hid (RA3.out.below ((Below.refl _ w3).alloc (Nat.le_refl _) (.cells #[.int .i64 0, .int .i64 0, .int .i64 0] 27)))
    have RB4 := hid (RB.out.below ((Below.refl _ w3).alloc (Nat.le_refl _) (.cells #[.int .i64 0, .int .i64 0, .int .i64 0] 27)))
    clear hB3 hLb hIb hrb
    go_wp2_with fail
    refine (ref02_Same outb aa ba ac bc _ _ RA4.out RB4.out (by simp)).mono ?_
    rintro e w5 ⟨rfl, hB5⟩
    have k5 := Blk.below K4.out hB5 K4.out.lt
    have n5 := Blk.below N4.out hB5 N4.out.lt
    have B5 := hid (B4.out.trans (hB5.mono B4.out.size))
    have k0 := Blk.cell k5 (j := 0) rfl; have k1 := Blk.cell k5 (j := 1) rfl; have k2 := Blk.cell k5 (j := 2) rfl
    have n0 := Blk.cell n5 (j := 0) rfl; have n1 := Blk.cell n5 (j := 1) rfl; have n2 := Blk.cell n5 (j := 2) rfl
    clear hB5 k5 n5
    go_wp2_with fail
    go_ret
    exact ⟨rfl, B5.out⟩

theorem first_pinned : Go.Pinned.utf8First = Lib.firstData := by kernel_rfl

theorem tabs_of_laid {w : World} (h : Lib.VarReads Tryz.prog w "unicode/utf8.first" Go.Pinned.utf8First) (h4 : Lib.VarReads Tryz.prog w "unicode/utf8.acceptRanges" Lib.acceptData) : Tabs w :=
  utf8Tabs_of_reads { Tryz.lays197 with } ⟨by kernel_rfl, by kernel_rfl, by kernel_rfl, by kernel_rfl, by kernel_rfl, by kernel_rfl, by kernel_rfl⟩ (first_pinned ▸ h) h4
end Go.Proofs.YtnafemcholkmlaaGreatDoor
