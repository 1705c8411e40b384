/- brackets.Class: its contract, with any flags. The document's union: martelloref02.Union. BracketsUnion: a class of two lists of runes by their numbers has what both have: the law's walk. The library's two tables for UTF-8, off what a row lists. The library's table of powers of ten, off what a row lists. The library's table for trailing zeros, off what a row lists: the one cell that is read. A row's list of ranges: what is read as its datum is a plain list that lies in memory. -/
import Derived.Test.YtnafemcholkmlaaGreatDoorQBrClass
import Derived.Test.YtnafemcholkmlaaGreatDoorNFoldPure
import Derived.Test.YtnafemcholkmlaaGreatDoorNShiftPure
import Derived.Test.YtnafemcholkmlaaGreatDoorQNormWalk
import Derived.Test.YtnafemcholkmlaaGreatDoorQBrClsA
import Derived.Deep.AppendLies
import Derived.Test.YtnafemcholkmlaaGreatDoorURunsPure
import Derived.Test.YtnafemcholkmlaaGreatDoorQNext
import Derived.Lib.LaidU8
import Derived.KernelRfl
import GoSem.PinnedTables
import Derived.Test.YtnafemcholkmlaaGreatDoorProg
import Derived.Lib.LaidTab
import Derived.Lib.ItoaNum
import Derived.Test.YtnafemcholkmlaaGreatDoorQBase
import Derived.Test.YtnafemcholkmlaaGreatDoorShelf
import Derived.ChangeArms
import Derived.ChangeSame
import Derived.DataReads
import Derived.ProofKit
import Derived.SizedLaws
namespace Go.Proofs.YtnafemcholkmlaaGreatDoor
open Go Go.RowKit Go.Proofs Go.Shelf

/-- What folding does. -/
def foldO (f : Int) : Option ((Int → Bool) → Int → Bool) := if onB f 1 then some foldF else none
/-- The contract of brackets.Class. -/
theorem brackets_Class (s : ByteArray) (p : Nat) (f : Int) (w : World) (hp : p ≤ s.size) (hs : s.size ≤ 100000000) (hT : Tabs w) :
    Calls Tryz.prog 8 #[.string s, .int .i64 p, .int .i64 f] w (ClsOut w (clsQ s p (onB f 32) (foldO f))) := by
  unfold foldO
  by_cases hf : onB f 1 = true
  · rw [if_pos hf]
    by_cases hn : stands s p [91] = true
    · cases hi : itemP s (clsAt s p) (onB f 32) p with
      | wrong x a b =>
        have e : clsQ s p (onB f 32) (some foldF) = .wrong x a b := by unfold clsQ clsP; rw [hn, hi]; rfl
        rw [e]
        exact cls_first s p f w hp hs hT (onB f 32) rfl hn x a b hi
      | ok f0 q0 => exact cls_folded s p f w hp hs hT (onB f 32) rfl hf hn f0 q0 hi
    · have e : clsQ s p (onB f 32) (some foldF) = .wrong 1 p p := by unfold clsQ clsP; rw [if_pos hn]
      rw [e]
      exact cls_closed s p f w hp (onB f 32) rfl (Bool.eq_false_iff.2 hn)
  · rw [if_neg hf]
    exact brackets_plain s p f w hp hs hT (onB f 32) rfl (Bool.eq_false_iff.2 hf)

/-- What is wrong has a reason. -/
def ItemOk : ItemR → Prop
  | .wrong e _ _ => e ≠ 0
  | .ok _ _ => True
theorem itemP_ok (s : ByteArray) (p : Nat) (perl : Bool) (fr : Int) : ItemOk (itemP s p perl fr) := by
  unfold itemP
  split
  · split
    · show (72 : Int) ≠ 0; decide
    · trivial
  split
  · show (71 : Int) ≠ 0; decide
  have h1 := oneP_ok s p perl
  split
  · rename_i e f t he; rw [he] at h1; exact h1
  · trivial
  · split
    · show (72 : Int) ≠ 0; decide
    · split
      · rename_i k r a q _ _ _
        have h2 := oneP_ok s (q.toNat + 1) perl
        split
        · rename_i e f t he; rw [he] at h2; exact h2
        · show (72 : Int) ≠ 0; decide
        · split
          · show (72 : Int) ≠ 0; decide
          · trivial
      · trivial
theorem restP_ok (s : ByteArray) (perl : Bool) (fr : Int) : ∀ (n p : Nat) (g : Int → Bool), p ≤ s.size → s.size + 1 - p ≤ n → ItemOk (restP s perl fr n p g)
  | 0, p, _, hp, hn => by omega
  | n + 1, p, g, hp, hn => by
    unfold restP
    split
    · trivial
    · have h1 := itemP_ok s p perl fr
      cases hi : itemP s p perl fr with
      | wrong e f t => rw [hi] at h1; exact h1
      | ok f q =>
        have hq := itemP_q hp hi
        exact restP_ok s perl fr n q _ hq.2 (by omega)
theorem clsP_ok (s : ByteArray) (p : Nat) (perl : Bool) (hp : p ≤ s.size) : ItemOk (clsP s p perl) := by
  unfold clsP
  by_cases hn : stands s p [91] = true
  · rw [if_neg (by simpa using hn)]
    have h1 := itemP_ok s (clsAt s p) perl p
    cases hi : itemP s (clsAt s p) perl p with
    | wrong e f t => rw [hi] at h1; exact h1
    | ok f q =>
      have hq := itemP_q (clsAt_le hp hn).1 hi
      exact restP_ok s perl p _ q _ hq.2 (by omega)
  · rw [if_pos hn]
    show (1 : Int) ≠ 0; decide
theorem clsP_q {s : ByteArray} {p : Nat} {perl : Bool} {g : Int → Bool} {q : Nat} (hp : p ≤ s.size) (h : clsP s p perl = .ok g q) : p < q ∧ q ≤ s.size := by
  unfold clsP at h
  by_cases hn : stands s p [91] = true
  · rw [if_neg (by simpa using hn)] at h
    cases hi : itemP s (clsAt s p) perl p with
    | wrong e f t => rw [hi] at h; cases h
    | ok f q0 =>
      rw [hi] at h
      have hc := clsAt_le hp hn
      have hq := itemP_q hc.1 hi
      have := restP_q hq.2 h
      omega
  · rw [if_pos hn] at h; cases h
end Go.Proofs.YtnafemcholkmlaaGreatDoor

namespace Go.Proofs.YtnafemcholkmlaaGreatDoor
open Go Go.RowKit Go.Proofs Go.Shelf

theorem RangesAt.flat {w : World} {b : Nat} : ∀ {rs : List (Int × Int)} {o : Nat}, RangesAt w rs b o → ∀ j u, (flatR rs)[j]? = some u → w.cell? ((⟨b, o, none⟩ : Addr).add j) = some u
  | [], _, _, j, u, h => by simp [flatR] at h
  | (l, r) :: rs, o, h, j, u, hj => by
    rw [Addr.add_lit]
    match j, hj with
    | 0, hj => simp [flatR] at hj; rw [← hj]; exact h.1
    | 1, hj => simp [flatR] at hj; rw [← hj]; exact h.2.1
    | j + 2, hj =>
      have := RangesAt.flat h.2.2 j u (by simpa [flatR] using hj)
      rw [Addr.add_lit] at this
      rw [show o + (j + 2) = o + 2 + j by omega]
      exact this
theorem RangesV.src {w : World} {B : Nat} {rs : List (Int × Int)} {a : Addr} {n c : Nat} (h : RangesV w B rs (some a) n c) : ∀ j u, (flatR rs)[j]? = some u → w.cell? (a.add j) = some u := by
  obtain ⟨h1, h2, h3⟩ := h
  rcases h3 with h3 | ⟨b, o, e, hlt, hr⟩
  · obtain rfl : rs = [] := List.eq_nil_of_length_eq_zero (by omega)
    intro j u hj; simp [flatR] at hj
  · cases e
    exact hr.flat
theorem RangesV.gone {w : World} {B : Nat} {rs : List (Int × Int)} {n c : Nat} (h : RangesV w B rs none n c) : rs = [] := by
  obtain ⟨h1, h2, h3⟩ := h
  rcases h3 with h3 | ⟨b, o, e, _⟩
  · exact List.eq_nil_of_length_eq_zero (by omega)
  · cases e

set_option maxRecDepth 100000 in
set_option maxHeartbeats 4000000 in
theorem ref02_Union (ra rb : List (Int × Int)) (sa sb : Option Addr) (ca cb B : Nat) (w : World) (ha : RangesV w B ra sa ra.length ca) (hb : RangesV w B rb sb rb.length cb) (za : sa = none → ca = 0) (zb : sb = none → cb = 0) (hB : B ≤ w.heap.size) (hN : ra.length + rb.length ≤ 1000000000) :
    Calls Tryz.prog 17 #[.slice sa ra.length ca, .slice sb rb.length cb] w (SetOf w (fun c => memR ra c || memR rb c) (ra.length + rb.length)) := by
  obtain ⟨i0, hi, hz0, hz1, hz2⟩ := info_parts infoRange
  have HE := Lib.hid (World.ownsRow_made (base := w.heap.size) (e := 43) (size := 2) w #[] 0 (Nat.le_refl _) (Nat.zero_le _) rfl)
  have hB1 : Below w.heap.size w (w.alloc (.cells #[] 43)) := (Below.refl _ w).alloc (Nat.le_refl _) _
  have HA := Lib.hid (ha.below (hB1.mono hB)); have HB := Lib.hid hb; have HB1 := Lib.hid hB1
  obtain ⟨AB, hAB⟩ : ∃ AB, AB = ra ++ rb := ⟨_, rfl⟩
  have hlAB : AB.length = ra.length + rb.length := by rw [hAB, List.length_append]
  have hfAB : flatR AB = flatR ra ++ flatR rb := by rw [hAB, flatR_append]
  have hmAB : (fun c => memR AB c) = fun c => memR ra c || memR rb c := by rw [hAB]; exact funext fun c => memR_append _ _ _
  have HNO := Lib.hid (fun (v : Value) (W : World) (hW : Below w.heap.size w W) (h : W.ownsRow w.heap.size 43 2 v AB.length (flatR AB)) => (show ∃ sv cv, v = .slice sv AB.length cv ∧ Calls Tryz.prog 15 #[.slice sv AB.length cv] W (SetOf w (fun c => memR ra c || memR rb c) (ra.length + rb.length)) by
    obtain ⟨sv, cv, rfl, hr⟩ := (AllV.of_own h).ranges (by omega)
    refine ⟨sv, cv, rfl, (ref02_Norm AB sv _ cv W.heap.size W hr (Nat.le_refl _) (by omega)).mono ?_⟩
    rintro e w' ⟨v', out, rfl, q1, q2, q3, q4, q5⟩
    refine ⟨v', out, rfl, Joins.ownsRow_le q1 hW.size, q2, fun c => ?_, by omega, hW.trans (q5.mono hW.size)⟩
    rw [q3]; show (_ && memR AB c) = (_ && (memR ra c || memR rb c)); rw [show memR AB c = (memR ra c || memR rb c) from congrFun hmAB c]))
  have HAB := Lib.hid hAB; have HLAB := Lib.hid hlAB; have HFAB := Lib.hid hfAB
  clear hAB hlAB hfAB hmAB
  clear ha hb hB1
  cases sa with
  | none =>
    obtain rfl := HA.out.gone
    obtain rfl := za rfl
    cases sb with
    | none =>
      obtain rfl := HB.out.gone
      obtain rfl := zb rfl
      go_enter Tryz.func17, Tryz.ntmps17
      go_wp2_with (at_builtin; refine wpList_append_own_none rfl _ _ 24 rfl w.heap.size 43 i0 2 Tryz.underlying24 hi _ _ _ rfl HE.out rfl ?_)
      obtain ⟨sv, cv, e, hc⟩ := HNO.out _ _ HB1.out (own_congr HE.out (by rw [HLAB.out]; rfl) (by rw [HFAB.out]; rfl))
      have hl0 : AB.length = 0 := by rw [HLAB.out]; rfl
      rw [hl0] at e hc
      cases e
      have HCC := Lib.hid hc
      clear hc
      refine (HCC.out).mono ?_
      rintro e w7 ⟨v, out, rfl, q⟩
      have Q := Lib.hid q; clear q
      go_wp2_with fail
      go_ret
      exact ⟨v, out, rfl, Q.out⟩
    | some b =>
      have hb4 := HB.out.below (HB1.out.mono hB)
      go_enter Tryz.func17, Tryz.ntmps17
      go_wp2_with (at_builtin; first
        | refine wpList_append_own_none rfl (.tmp 5) (.tmp 6) 24 rfl w.heap.size 43 i0 2 Tryz.underlying24 hi _ _ _ rfl HE.out rfl ?_
        | (refine wpList_append_own _ rfl _ _ 24 rfl w.heap.size 43 i0 (.agg #[.int .i32 0, .int .i32 0]) 2 8 Tryz.underlying24 hi hz0 hz1 hz2 rfl (by decide) (.slice (some ⟨w.heap.size, 0, none⟩) 0 0) _ _ rfl HE.out b rb.length cb (flatR rb) rfl (flatR_length rb) hb4.src (flatR_one rb) (by unfold maxLen; simp at hN; omega) (by simp at hN; omega) (by simp) ?_; intro v6 w6 hown6 hgrow6))
      intro hnil6
      have B6 := Lib.hid (below_next HB1.out (Nat.le_refl _) hgrow6 (fun j hj => by simp [Value.ownBlock] at hj; omega))
      obtain ⟨sv, cv, rfl, hc⟩ := HNO.out v6 w6 B6.out (own_congr hown6 (by rw [HLAB.out]; simp) (by rw [HFAB.out]; simp [flatR]))
      have HCC := Lib.hid hc
      clear hc hown6 hgrow6 hnil6 hb4
      go_wp2_with fail
      refine (HCC.out).mono ?_
      rintro e w7 ⟨v, out, rfl, q⟩
      have Q := Lib.hid q; clear q
      go_wp2_with fail
      go_ret
      exact ⟨v, out, rfl, Q.out⟩
  | some a =>
    have HBN := Lib.hid (show ∀ W, Below w.heap.size w W → RangesV W B rb sb rb.length cb from fun W h => HB.out.below (h.mono hB))
    go_enter Tryz.func17, Tryz.ntmps17
    go_wp2_with (at_builtin; refine wpList_append_own _ rfl _ _ 24 rfl w.heap.size 43 i0 (.agg #[.int .i32 0, .int .i32 0]) 2 8 Tryz.underlying24 hi hz0 hz1 hz2 rfl (by decide) (.slice (some ⟨w.heap.size, 0, none⟩) 0 0) _ _ rfl HE.out a ra.length ca (flatR ra) rfl (flatR_length ra) HA.out.src (flatR_one ra) (by unfold maxLen; omega) (by omega) (by simp) ?_; intro v4 w4 hown4 hgrow4)
    intro hnil4
    have B4 := Lib.hid (below_next HB1.out (Nat.le_refl _) hgrow4 (fun j hj => by simp [Value.ownBlock] at hj; omega))
    cases sb with
    | none =>
      obtain rfl := HB.out.gone
      obtain rfl := zb rfl
      go_wp2_with (at_builtin; refine wpList_append_own_none rfl _ _ 24 rfl w.heap.size 43 i0 2 Tryz.underlying24 hi v4 _ _ rfl hown4 rfl ?_)
      obtain ⟨sv, cv, rfl, hc⟩ := HNO.out v4 w4 B4.out (own_congr hown4 (by rw [HLAB.out]; simp) (by rw [HFAB.out]; simp [flatR]))
      have HCC := Lib.hid hc
      clear hc hown4 hgrow4 hnil4
      refine (HCC.out).mono ?_
      rintro e w7 ⟨v, out, rfl, q⟩
      have Q := Lib.hid q; clear q
      go_wp2_with fail
      go_ret
      exact ⟨v, out, rfl, Q.out⟩
    | some b =>
      have hb4 := HBN.out w4 B4.out
      go_wp2_with (at_builtin; refine wpList_append_own _ rfl _ _ 24 rfl w.heap.size 43 i0 (.agg #[.int .i32 0, .int .i32 0]) 2 8 Tryz.underlying24 hi hz0 hz1 hz2 rfl (by decide) v4 _ _ rfl hown4 b rb.length cb (flatR rb) rfl (flatR_length rb) hb4.src (flatR_one rb) (by unfold maxLen; omega) (by omega) B4.out.size ?_; intro v6 w6 hown6 hgrow6)
      intro hnil6
      have B6 := Lib.hid (below_next B4.out (Nat.le_refl _) hgrow6 (fun j hj => (hown4.lt j hj).1))
      obtain ⟨sv, cv, rfl, hc⟩ := HNO.out v6 w6 B6.out (own_congr hown6 (by rw [HLAB.out]; simp) (by rw [HFAB.out]; simp))
      have HCC := Lib.hid hc
      clear hc hown6 hgrow6 hnil6 hb4 hown4 hgrow4 hnil4
      go_wp2_with fail
      refine (HCC.out).mono ?_
      rintro e w7 ⟨v, out, rfl, q⟩
      have Q := Lib.hid q; clear q
      go_wp2_with fail
      go_ret
      exact ⟨v, out, rfl, Q.out⟩
end Go.Proofs.YtnafemcholkmlaaGreatDoor

namespace Go.Proofs.YtnafemcholkmlaaGreatDoor
open Go Go.RowKit Go.Proofs Go.Shelf

theorem laid_form {w w' : World} {out : List (Int × Int)} {v : Value} (h : Laid w w' out v) (hN : out.length ≤ 140737488351232) :
    ∃ sa sc, v = .slice sa out.length sc ∧ (sa = none → sc = 0) ∧ RangesV w' w'.heap.size out sa out.length sc := by
  obtain ⟨sa, sc, e, hr, _⟩ := Laid.ranges h hN
  refine ⟨sa, sc, e, fun hn => ?_, hr⟩
  rcases h.2 with ⟨h1, _⟩ | ⟨g, cap, cur, h1, _⟩
  · rw [h1] at e; injection e with e1 e2 e3; exact e3.symm
  · rw [h1] at e; injection e with e1 e2 e3; rw [hn] at e1; cases e1
/-- What a fold of two sets has. -/
theorem foldF_or (g h : Int → Bool) (c : Int) : foldF (fun x => g x || h x) c = (foldF g c || foldF h c) := by
  unfold foldF
  induction orbL c with
  | nil => rfl
  | cons a l ih => simp only [List.any_cons, ih]; cases g a <;> cases h a <;> simp
/-- What a class of ranges has, with flags. -/
def foldM (f : Int) (l : List (Int × Int)) : Int → Bool := match foldO f with
  | none => fun c => memR l c
  | some F => F fun c => memR l c
theorem foldM_or (f : Int) (l m : List (Int × Int)) (c : Int) : foldM f (l ++ m) c = (foldM f l c || foldM f m c) := by
  unfold foldM foldO
  by_cases h : onB f 1 = true
  · rw [if_pos h]
    show foldF (fun x => memR (l ++ m) x) c = _
    rw [show (fun x => memR (l ++ m) x) = fun x => memR l x || memR m x from funext fun x => memR_append _ _ _]
    exact foldF_or _ _ _
  · rw [if_neg h]
    exact memR_append _ _ _
theorem foldM_no {f : Int} (h : onB f 1 = false) (l : List (Int × Int)) (c : Int) : foldM f l c = memR l c := by
  unfold foldM foldO
  rw [h]; rfl

/-- The class of a chain, by its text. -/
theorem union_class (f : Int) (l : List (Int × Int)) (hl : l ≠ []) (hf : Fine l) (hn : l.length ≤ 100) (U : ByteArray) (hU : U.data.toList = [91] ++ pairsTx l ++ [93]) (W : World) (hT : Tabs W) :
    Calls Tryz.prog 8 #[.string U, .int .i64 0, .int .i64 f] W fun e w' => ∃ (q : Nat) (sa : Option Addr) (sc : Nat) (out : List (Int × Int)),
      e = .returned (.tuple #[.slice sa out.length sc, .int .i64 q, .agg #[.int .i64 0, .int .i64 0, .int .i64 0]]) ∧ (sa = none → sc = 0) ∧ RangesV w' w'.heap.size out sa out.length sc ∧ IsSet out (foldM f l) ∧ Below W.heap.size W w' := by
  obtain ⟨q, hq⟩ := pairs_cls l hl hf (onB f 32) (foldO f) U hU
  have hz : U.size ≤ 100000000 := by
    have h1 := pairsTx_le hf
    have h2 : U.data.toList.length = U.size := by simp
    rw [← h2, hU]
    simp only [List.length_append, List.length_cons, List.length_nil]
    omega
  refine (brackets_Class U 0 f W (Nat.zero_le _) hz hT).mono ?_
  rw [hq]
  rintro e w' ⟨hB, v, out, rfl, hL, hI⟩
  obtain ⟨sa, sc, rfl, h0, hr⟩ := laid_form hL (by have := hI.len; omega)
  exact ⟨q, sa, sc, out, rfl, h0, hr, hI, hB⟩

set_option maxRecDepth 100000 in
set_option maxHeartbeats 8000000 in
theorem law_bracketsUnion (ra rb : List (Int × Int)) (sa sb : Option Addr) (ca cb : Nat) (f : Int) (w : World) (hT : Tabs w) (hBru : Bru w) (ha : RangesV w w.heap.size ra sa ra.length ca) (hb : RangesV w w.heap.size rb sb rb.length cb) :
    Calls Tryz.prog 6 #[.slice sa ra.length ca, .slice sb rb.length cb, .int .i64 f] w fun e w' => e = .returned (.bool true) ∧ Below w.heap.size w w' := by
  have HT := Lib.hid hT; have HBR := Lib.hid hBru; have HA := Lib.hid ha; have HB := Lib.hid hb
  clear hT hBru ha hb
  by_cases h1 : 50 < ra.length
  · have h1' : (50 : Int) < (ra.length : Int) := by omega
    go_enter Tryz.func6, Tryz.ntmps6
    go_wp2_with fail
    refine (head07 w HT.out).mono ?_
    rintro e w1 ⟨rfl, hB⟩
    have B1 := Lib.hid hB; clear hB
    go_wp2_with fail
    go_ret
    exact ⟨rfl, B1.out⟩
  have h1' : ¬ (50 : Int) < (ra.length : Int) := by omega
  by_cases h2 : 50 < rb.length
  · have h2' : (50 : Int) < (rb.length : Int) := by omega
    go_enter Tryz.func6, Tryz.ntmps6
    go_wp2_with fail
    refine (head07 w HT.out).mono ?_
    rintro e w1 ⟨rfl, hB⟩
    have B1 := Lib.hid hB; clear hB
    go_wp2_with fail
    go_ret
    exact ⟨rfl, B1.out⟩
  have h2' : ¬ (50 : Int) < (rb.length : Int) := by omega
  go_enter Tryz.func6, Tryz.ntmps6
  go_wp2_with fail
  refine (head07 w HT.out).mono ?_
  rintro e w1 ⟨rfl, hB⟩
  have B1 := Lib.hid hB; clear hB
  go_wp2_with fail
  refine (ref02_Norm ra sa ra.length ca w.heap.size w1 (HA.out.below B1.out) B1.out.size (by omega)).mono ?_
  rintro e w2 ⟨va, la, rfl, hLa, hra, _, hna, hB2⟩
  obtain ⟨aa, ac, rfl, _, hva⟩ := laid_form hLa (by omega)
  have B2 := Lib.hid (B1.out.trans (hB2.mono B1.out.size)); have VA := Lib.hid hva; have FA := Lib.hid (fine_of_right hra); have IA := Lib.hid (IsSet.of_right hra)
  clear hLa hB2 hva hra
  go_wp2_with fail
  refine (ref02_Norm rb sb rb.length cb w.heap.size w2 (HB.out.below B2.out) B2.out.size (by omega)).mono ?_
  rintro e w3 ⟨vb, lb, rfl, hLb, hrb, _, hnb, hB3⟩
  obtain ⟨ba, bc, rfl, _, hvb⟩ := laid_form hLb (by omega)
  have VA3 := Lib.hid (VA.out.below hB3); have hz23 := hB3.size
  have B3 := Lib.hid (B2.out.trans (hB3.mono B2.out.size)); have VB := Lib.hid hvb; have FB := Lib.hid (fine_of_right hrb)
  clear hLb hB3 hvb hrb
  by_cases hz1 : la.length = 0
  · have hz1' : ((la.length : Int) == 0) = true := by simpa using hz1
    go_wp2_with fail
    go_ret
    exact ⟨rfl, B3.out⟩
  have hz1' : ((la.length : Int) == 0) = false := by simpa using hz1
  by_cases hz2 : lb.length = 0
  · have hz2' : ((lb.length : Int) == 0) = true := by simpa using hz2
    go_wp2_with fail
    go_ret
    exact ⟨rfl, B3.out⟩
  have hz2' : ((lb.length : Int) == 0) = false := by simpa using hz2
  go_wp2_with fail
  refine (law07_codes la aa ac w2.heap.size w3 VA3.out hz23 (by omega) FA.out (HBR.out.below B3.out HBR.out.lt)).mono ?_
  rintro e w4 ⟨⟨S, rfl, hS⟩, hB4⟩
  have hSz : S.size ≤ 1050 := by
    have h1 := pairsTx_le FA.out
    have h2 : S.data.toList.length = S.size := by simp
    rw [← h2, hS]; omega
  have HS := Lib.hid hS; clear hS
  have VB4 := Lib.hid (VB.out.below hB4); have VA4 := Lib.hid (VA3.out.below (hB4.mono hz23)); have hz34 := hB4.size
  have B4 := Lib.hid (B3.out.trans (hB4.mono B3.out.size))
  clear hB4
  go_wp2_with fail
  refine (law07_codes lb ba bc w3.heap.size w4 VB4.out hz34 (by omega) FB.out (HBR.out.below B4.out HBR.out.lt)).mono ?_
  rintro e w5 ⟨⟨R, rfl, hR⟩, hB5⟩
  have hRz : R.size ≤ 1050 := by
    have h1 := pairsTx_le FB.out
    have h2 : R.data.toList.length = R.size := by simp
    rw [← h2, hR]; omega
  have HR := Lib.hid hR; clear hR
  have VA5 := Lib.hid (VA4.out.below (hB5.mono (by omega))); have hz45 := hB5.size
  have B5 := Lib.hid (B4.out.trans (hB5.mono B4.out.size)); have T5 := Lib.hid (HT.out.below B5.out)
  clear hB5
  obtain ⟨U1, hU1⟩ : ∃ U, U = (⟨#[91]⟩ : ByteArray) ++ S ++ (⟨#[93]⟩ : ByteArray) := ⟨_, rfl⟩
  obtain ⟨U2, hU2⟩ : ∃ U, U = (⟨#[91]⟩ : ByteArray) ++ R ++ (⟨#[93]⟩ : ByteArray) := ⟨_, rfl⟩
  obtain ⟨U3, hU3⟩ : ∃ U, U = (⟨#[91]⟩ : ByteArray) ++ S ++ R ++ (⟨#[93]⟩ : ByteArray) := ⟨_, rfl⟩
  have L1 := Lib.hid (show U1.data.toList = [91] ++ pairsTx la ++ [93] by rw [hU1]; simp only [ByteArray.data_append, Array.toList_append, HS.out])
  have L2 := Lib.hid (show U2.data.toList = [91] ++ pairsTx lb ++ [93] by rw [hU2]; simp only [ByteArray.data_append, Array.toList_append, HR.out])
  have L3 := Lib.hid (show U3.data.toList = [91] ++ pairsTx (la ++ lb) ++ [93] by rw [hU3]; simp only [ByteArray.data_append, Array.toList_append, HS.out, HR.out, pairsTx_append, List.append_assoc])
  have E1 := Lib.hid hU1; have E2 := Lib.hid hU2; have E3 := Lib.hid hU3
  clear hU1 hU2 hU3
  have na : la ≠ [] := fun e => hz1 (by rw [e]; rfl)
  have nb : lb ≠ [] := fun e => hz2 (by rw [e]; rfl)
  have nab : la ++ lb ≠ [] := fun e => na (List.append_eq_nil_iff.1 e).1
  have hlab : (la ++ lb).length ≤ 100 := by rw [List.length_append]; omega
  have FAB : Fine (la ++ lb) := fun x hx => (List.mem_append.1 hx).elim (FA.out x) (FB.out x)
  have C1 := Lib.hid (fun W => union_class f la na FA.out (by omega) U1 L1.out W)
  have C2 := Lib.hid (fun W => union_class f lb nb FB.out (by omega) U2 L2.out W)
  have C3 := Lib.hid (fun W => union_class f (la ++ lb) nab FAB hlab U3 L3.out W)
  clear na nb nab hlab FAB hz2 hz2' hz1 hz1'
  go_wp2_with fail
  rw [← E1.out]
  refine (C1.out w5 T5.out).mono ?_
  rintro e w6 ⟨q1, xa, xc, outx, rfl, hx0, hxv, hxi, hB6⟩
  have XI := Lib.hid hxi; have X0 := Lib.hid hx0; have XV := Lib.hid hxv
  have VA6 := Lib.hid (VA5.out.below (hB6.mono (by omega))); have T6 := Lib.hid (T5.out.below hB6)
  have B6 := Lib.hid (B5.out.trans (hB6.mono B5.out.size))
  have K6 := Lib.hid (Blk.new w6 [.int .i64 0, .int .i64 0, .int .i64 0] 27)
  have hz56 := hB6.size
  clear hxi hx0 hxv hB6
  go_wp2_with fail
  rw [← E2.out]
  refine (C2.out _ (T6.out.alloc _)).mono ?_
  rintro e w7 ⟨q2, ya, yc, outy, rfl, hy0, hyv, hyi, hB7⟩
  have YI := Lib.hid hyi; have Y0 := Lib.hid hy0; have YV := Lib.hid hyv
  have A6 : Below w6.heap.size w6 (w6.alloc (.cells #[.int .i64 0, .int .i64 0, .int .i64 0] 27)) := (Below.refl _ w6).alloc (Nat.le_refl _) _
  have hB67 : Below w6.heap.size w6 w7 := A6.trans (hB7.mono A6.size)
  have VA7 := Lib.hid (VA6.out.below (hB67.mono (by omega))); have T7 := Lib.hid (T6.out.below hB67); have XV7 := Lib.hid (XV.out.below hB67)
  have B7 := Lib.hid (B6.out.trans (hB67.mono B6.out.size))
  have K7 := Lib.hid (Blk.below K6.out hB7 K6.out.lt)
  have N7 := Lib.hid (Blk.new w7 [.int .i64 0, .int .i64 0, .int .i64 0] 27)
  have hz67 := hB67.size
  have hz67' : w6.heap.size < w7.heap.size := by have := hB7.size; simp at this; omega
  clear hyi hy0 hyv hB7 hB67 A6
  go_wp2_with fail
  rw [← E3.out]
  refine (C3.out _ (T7.out.alloc _)).mono ?_
  rintro e w8 ⟨q3, za, zc, outz, rfl, hz0, hzv, hzi, hB8⟩
  have ZI := Lib.hid hzi; have ZV := Lib.hid hzv
  have A7 : Below w7.heap.size w7 (w7.alloc (.cells #[.int .i64 0, .int .i64 0, .int .i64 0] 27)) := (Below.refl _ w7).alloc (Nat.le_refl _) _
  have hB78 : Below w7.heap.size w7 w8 := A7.trans (hB8.mono A7.size)
  have VA8 := Lib.hid (VA7.out.below (hB78.mono (by omega))); have XV8 := Lib.hid (XV7.out.below (hB78.mono (by omega))); have YV8 := Lib.hid (YV.out.below hB78)
  have B8 := Lib.hid (B7.out.trans (hB78.mono B7.out.size))
  have K8 := Lib.hid (Blk.below K7.out hB78 K7.out.lt)
  have N8 := Lib.hid (Blk.below N7.out hB8 N7.out.lt)
  have hz78 := hB78.size
  have hz78' : w7.heap.size < w8.heap.size := by have := hB8.size; simp at this; omega
  have A8 : Below w8.heap.size w8 (w8.alloc (.cells #[.int .i64 0, .int .i64 0, .int .i64 0] 27)) := (Below.refl _ w8).alloc (Nat.le_refl _) _
  have VA9 := Lib.hid (VA8.out.below (A8.mono (by omega))); have XV9 := Lib.hid (XV8.out.below (A8.mono (by omega))); have YV9 := Lib.hid (YV8.out.below (A8.mono (by omega))); have ZV9 := Lib.hid (ZV.out.below A8)
  have K9 := Lib.hid (K8.out.alloc (.cells #[.int .i64 0, .int .i64 0, .int .i64 0] 27))
  have N9 := Lib.hid (N8.out.alloc (.cells #[.int .i64 0, .int .i64 0, .int .i64 0] 27))
  have M9 := Lib.hid (Blk.new w8 [.int .i64 0, .int .i64 0, .int .i64 0] 27)
  have B9 := Lib.hid (B8.out.alloc B8.out.size (.cells #[.int .i64 0, .int .i64 0, .int .i64 0] 27))
  have hzi' := ZI.out.len; have hxi' := XI.out.len; have hyi' := YI.out.len
  have k0 := Blk.cell K9.out (j := 0) rfl; have n0 := Blk.cell N9.out (j := 0) rfl; have m0 := Blk.cell M9.out (j := 0) rfl
  have HU := Lib.hid (ref02_Union outx outy xa ya xc yc w8.heap.size (w8.alloc (.cells #[.int .i64 0, .int .i64 0, .int .i64 0] 27)) (XV9.out.mono (by omega)) (YV9.out.mono (by omega)) X0.out Y0.out (by simp) (by omega))
  clear hzi hz0 hzv hB8 hB78 A7 A8 hzi' hxi' hyi'
  go_wp2_with fail
  refine (HU.out).mono ?_
  rintro e wA ⟨vu, outu, rfl, hLu, hu1, hu2, _, hBu⟩
  have hui : IsSet outu (fun c => memR outx c || memR outy c) := ⟨hu1, hu2⟩
  obtain rfl : outz = outu := IsSet.unique (ZI.out.congr (q := fun c => memR outx c || memR outy c) (fun c c0 c1 => by
    rw [foldM_or, XI.out.2, YI.out.2, decide_eq_true c0, decide_eq_true c1]; rfl)) hui
  obtain ⟨ua, uc, rfl, _, huv⟩ := laid_form hLu (by have := hui.len; omega)
  have hz9 : w8.heap.size < wA.heap.size := by have := hBu.size; simp at this; omega
  have UV := Lib.hid huv
  have ZVA := Lib.hid ((ZV9.out.below (hBu.mono (by simp))).mono (B' := wA.heap.size) (by omega)); have VAA := Lib.hid ((VA9.out.below (hBu.mono (by simp; omega))).mono (B' := wA.heap.size) (by omega)); have XVA := Lib.hid ((XV9.out.below (hBu.mono (by simp; omega))).mono (B' := wA.heap.size) (by omega))
  have BA := Lib.hid (B9.out.trans (hBu.mono B9.out.size))
  clear hLu hu1 hu2 hBu hui huv k0 n0 m0
  go_wp2_with fail
  refine (ref02_Same outz za ua zc uc wA.heap.size wA ZVA.out UV.out (Nat.le_refl _)).mono ?_
  rintro e wB ⟨rfl, hBB⟩
  have BB := Lib.hid (BA.out.trans (hBB.mono BA.out.size))
  have XVB := Lib.hid (XVA.out.below hBB); have VAB := Lib.hid (VAA.out.below hBB); have hzB := hBB.size
  clear hBB
  by_cases hff : onB f 1 = true
  · have hff' : (bits BinOp.and IntKind.i64 f 1 != 0) = true := hff
    clear hff
    go_wp2_with fail
    go_ret
    exact ⟨rfl, BB.out⟩
  · have hff0 : onB f 1 = false := by simpa using hff
    have hff' : (bits BinOp.and IntKind.i64 f 1 != 0) = false := hff0
    obtain rfl : outx = la := IsSet.unique XI.out (IA.out.congr fun c _ _ => (foldM_no hff0 la c).symm)
    clear hff hff0
    go_wp2_with fail
    refine (ref02_Same outx xa aa xc ac wA.heap.size wB XVB.out VAB.out hzB).mono ?_
    rintro e wC ⟨rfl, hBC⟩
    have BC := Lib.hid (BB.out.trans (hBC.mono BB.out.size))
    clear hBC
    go_wp2_with fail
    go_ret
    exact ⟨rfl, BC.out⟩
end Go.Proofs.YtnafemcholkmlaaGreatDoor

namespace Go.Proofs.YtnafemcholkmlaaGreatDoor
open Go Go.RowKit Go.Proofs

theorem first_pinned : Go.Pinned.utf8First = Lib.firstData := by kernel_rfl

theorem tabs_of_laid {w : World} (h : Lib.VarReads Tryz.prog w "unicode/utf8.first" Go.Pinned.utf8First) (h4 : Lib.VarReads Tryz.prog w "unicode/utf8.acceptRanges" Lib.acceptData) : Tabs w :=
  utf8Tabs_of_reads { Tryz.lays197 with } ⟨by kernel_rfl, by kernel_rfl, by kernel_rfl, by kernel_rfl, by kernel_rfl, by kernel_rfl, by kernel_rfl⟩ (first_pinned ▸ h) h4
end Go.Proofs.YtnafemcholkmlaaGreatDoor

namespace Go.Proofs.YtnafemcholkmlaaGreatDoor
open Go Go.RowKit Go.Proofs

theorem tabIs_of_reads {P : Program} {W : World} {name : String} {k : IntKind} {zs : List Int} {g : Nat} {t e : TypeId} {n : Nat}
    (hg : P.globalNamed name = some g) (hty : (P.globals[g]?).map (·.type) = some t) (ht : P.underlying t = some (.array n e)) (he : P.underlying e = some (.int k)) (hce : P.cellsOf e = 1) (hct : P.cellsOf t = n)
    (h : Lib.VarReads P W name (Lib.tabData k zs)) : Lib.TabIs P W name k zs := by
  obtain ⟨g', t', cs, fuel, p, hg', ht', hvar, hd⟩ := h
  obtain rfl := Option.some.inj (hg.symm.trans hg')
  obtain rfl := Option.some.inj (hty.symm.trans ht')
  unfold Lib.TabIs
  rw [hvar, ← Lib.cells_of_tab ht he hce hct hd]

theorem pow_of_laid {w : World} {d : DataW Unit} (hd : d = Lib.tabData .u64 Lib.pow10Tab) (h : Lib.VarReads Tryz.prog w "internal/strconv.uint64pow10" d) : Lib.TabIs Tryz.prog w "internal/strconv.uint64pow10" .u64 Lib.pow10Tab := by
  subst hd
  exact tabIs_of_reads (g := 0) (t := 146) (e := 103) (n := 20) (by kernel_rfl) (by kernel_rfl) (by kernel_rfl) (by kernel_rfl) (by kernel_rfl) (by kernel_rfl) h
end Go.Proofs.YtnafemcholkmlaaGreatDoor

namespace Go.Proofs.YtnafemcholkmlaaGreatDoor
open Go Go.RowKit Go.Proofs

def bruTab : List Int := [0, 1, 56, 2, 57, 49, 28, 3, 61, 58, 42, 50, 38, 29, 17, 4, 62, 47, 59, 36, 45, 43, 51, 22, 53, 39, 33, 30, 24, 18, 12, 5, 63, 55, 48, 27, 60, 41, 37, 16, 46, 35, 44, 21, 52, 32, 23, 11, 54, 26, 40, 15, 34, 20, 31, 10, 25, 14, 19, 9, 13, 8, 7, 6]
theorem bru_of_laid {w : World} {d : DataW Unit} (hd : d = Lib.tabData .u8 bruTab) (h : Lib.VarReads Tryz.prog w "math/bits.deBruijn64tab" d) : Bru w := by
  subst hd
  have ht := tabIs_of_reads (g := 4) (t := 189) (e := 5) (n := 64) (by kernel_rfl) (by kernel_rfl) (by kernel_rfl) (by kernel_rfl) (by kernel_rfl) (by kernel_rfl) h
  exact ht.cell (g := 4) (by kernel_rfl) 15 (by decide)
end Go.Proofs.YtnafemcholkmlaaGreatDoor

namespace Go.Proofs.YtnafemcholkmlaaGreatDoor
open Go Go.RowKit Go.Proofs

def I32 (n : Int) : Prop := -2147483648 ≤ n ∧ n ≤ 2147483647
def I64 (n : Int) : Prop := -9223372036854775808 ≤ n ∧ n ≤ 9223372036854775807

theorem wf32 {n : Int} (h : (Lit.int .i32 n).wf = true) : I32 n := by
  simp [Lit.wf, IntKind.min, IntKind.max, IntKind.bits, IntKind.signed] at h; unfold I32; omega
theorem wf64 {n : Int} (h : (Lit.int .i64 n).wf = true) : I64 n := by
  simp [Lit.wf, IntKind.min, IntKind.max, IntKind.bits, IntKind.signed] at h; unfold I64; omega

/-- An address whose cells are read is a plain one. -/
theorem addr_plain {w : World} {base : Nat} {a : Addr} {n : Nat} {cs : List Value} (h : w.cells? base a n = some cs) (hn : 0 < n) : a = ⟨a.block, a.off, none⟩ ∧ a.block < w.heap.size := by
  have h0 := (World.cells?_some h).2.2 0 hn
  have hl := (World.cells?_some h).2.1
  obtain ⟨v, hv⟩ : ∃ v, cs[0]? = some v := ⟨cs[0]'(by omega), List.getElem?_eq_getElem (by omega)⟩
  rw [hv, show a.add 0 = a by simp [Addr.add]] at h0
  have hs : a.spot = none := by
    cases hsp : a.spot with
    | none => rfl
    | some x =>
      exfalso
      simp [World.cell?, hsp] at h0
      split at h0 <;> simp_all
  refine ⟨by cases a; simp_all, ?_⟩
  rcases Nat.lt_or_ge a.block w.heap.size with h' | h'
  · exact h'
  · exfalso
    simp [World.cell?, Array.getElem?_eq_none h'] at h0
theorem add_plain (b o j : Nat) : (⟨b, o, none⟩ : Addr).add j = ⟨b, o + j, none⟩ := by unfold Addr.add; split <;> simp_all
theorem cells_row {w : World} {base b o n : Nat} {cs : List Value} (h : w.cells? base ⟨b, o, none⟩ n = some cs) : RowAt w b o cs := by
  intro j hj
  have := (World.cells?_some h).2.2 j (by rw [← (World.cells?_some h).2.1]; exact hj)
  rw [add_plain] at this
  exact this

section
variable {H : Type} {enc : TypeId × Value → H} {W : World} {base : Nat} {held : Bool}

def capOf (P : Program) (t : TypeId) (d : DataW H) : Prop := ∀ k ∈ d.weights P t, k ≤ 140737488351232

theorem open_range {fuel : Nat} {cs : List Value} {x : DataW H × List MemPlace} (h : DataW.trod enc Tryz.prog W base (fun _ => true) held fuel 43 cs = some x) :
    ∃ l u, cs = [.int .i32 l, .int .i32 u] ∧ I32 l ∧ I32 u := by
  obtain ⟨y0, y1, n, _, hl, h0, h1⟩ := ChangeShapes.trod_struct2 Tryz.underlying43 h
  have hc : Tryz.prog.cellsOf 43 = 2 := by kernel_rfl
  have hc2 : Tryz.prog.cellsOf 21 = 1 := by kernel_rfl
  rw [hc] at hl
  obtain ⟨a, b, rfl⟩ : ∃ a b, cs = [a, b] := by
    rcases cs with _ | ⟨a, _ | ⟨b, _ | ⟨c, r⟩⟩⟩
    · simp at hl
    · simp at hl
    · exact ⟨a, b, rfl⟩
    · simp at hl
  simp only [hc2] at h0 h1
  obtain ⟨l, e1, _, w1⟩ := DataW.trod_int Tryz.underlying21 h0
  obtain ⟨u, e2, _, w2⟩ := DataW.trod_int Tryz.underlying21 h1
  simp at e1 e2
  exact ⟨l, u, by rw [e1, e2], wf32 w1, wf32 w2⟩
theorem open_ranges {fuel : Nat} {cs : List Value} {x : DataW H × List MemPlace} (h : DataW.trod enc Tryz.prog W base (fun _ => true) held fuel 24 cs = some x) (hw : capOf Tryz.prog 24 x.1) :
    ∃ (rs : List (Int × Int)) (a : Option Addr) (n c : Nat), cs = [.slice a n c] ∧ RangesV W W.heap.size rs a n c ∧ (∀ r ∈ rs, I32 r.1 ∧ I32 r.2) ∧ rs.length * 8 ≤ 140737488351232 := by
  have hc : Tryz.prog.cellsOf 43 = 2 := by kernel_rfl
  have hb : Tryz.prog.bytesOf 43 = 8 := by kernel_rfl
  rcases DataW.trod_slice Tryz.underlying24 h with ⟨rfl, _⟩ | ⟨a, len, cap, elems, rest, n, _, rfl, rfl, _, hl, hm, hlen, hel, _, _⟩
  · exact ⟨[], none, 0, 0, rfl, ⟨rfl, ⟨Nat.le_refl _, by omega⟩, .inl rfl⟩, fun _ h => by simp at h, by simp⟩
  · have hw1 : (elems.length + rest.length) * 8 ≤ 140737488351232 := by
      have := hw ((elems.length + rest.length) * Tryz.prog.bytesOf 43) (by simp [DataW.weights, Tryz.underlying24])
      rw [hb] at this; exact this
    have each : ∀ i, i < len → ∃ l u, W.cell? (a.add (i * 2)) = some (.int .i32 l) ∧ W.cell? ((a.add (i * 2)).add 1) = some (.int .i32 u) ∧ I32 l ∧ I32 u := by
      intro i hi
      have he := hel i hi
      rw [hc] at he
      obtain ⟨y, hy⟩ : ∃ y, elems[i]? = some y := ⟨elems[i]'(by omega), List.getElem?_eq_getElem (by omega)⟩
      rw [hy, Option.bind_eq_some_iff] at he
      obtain ⟨cs', h1, h2⟩ := he
      obtain ⟨l, u, rfl, w1, w2⟩ := open_range h2
      have h3 := (World.cells?_some h1).2.2
      have h30 := h3 0 (by omega)
      have h31 := h3 1 (by omega)
      rw [show (a.add (i * 2)).add 0 = a.add (i * 2) by simp [Addr.add]] at h30
      exact ⟨l, u, by simpa using h30, by simpa using h31, w1, w2⟩
    by_cases h0 : len = 0
    · subst h0
      exact ⟨[], some a, 0, cap, rfl, ⟨rfl, ⟨Nat.zero_le _, by omega⟩, .inl rfl⟩, fun _ h => by simp at h, by simp⟩
    · obtain ⟨hpl, hblk⟩ : a = ⟨a.block, a.off, none⟩ ∧ a.block < W.heap.size := by
        have he := hel 0 (by omega)
        obtain ⟨y, hy⟩ : ∃ y, elems[0]? = some y := ⟨elems[0]'(by omega), List.getElem?_eq_getElem (by omega)⟩
        rw [hy, Option.bind_eq_some_iff] at he
        obtain ⟨cs', h1, _⟩ := he
        rw [Nat.zero_mul, show a.add 0 = a by simp [Addr.add]] at h1
        exact addr_plain h1 (by rw [hc]; omega)
      have hex : ∃ f : Nat → Int × Int, ∀ i, i < len → W.cell? (a.add (i * 2)) = some (.int .i32 (f i).1) ∧ W.cell? ((a.add (i * 2)).add 1) = some (.int .i32 (f i).2) ∧ I32 (f i).1 ∧ I32 (f i).2 := by
        refine ⟨fun i => if h : i < len then ((each i h).choose, (each i h).choose_spec.choose) else (0, 0), fun i hi => ?_⟩
        simp only [dif_pos hi]
        exact (each i hi).choose_spec.choose_spec
      obtain ⟨f, hf⟩ := hex
      refine ⟨(List.range len).map f, some a, len, cap, rfl, ⟨by simp, ⟨hl, by omega⟩, .inr ⟨a.block, a.off, by rw [← hpl], hblk, ?_⟩⟩, fun r hr => ?_, by simp; omega⟩
      · have key : ∀ (m k : Nat), k + m = len → RangesAt W ((List.range' k m).map f) a.block (a.off + k * 2) := by
          intro m
          induction m with
          | zero => intro k _; exact trivial
          | succ m ih =>
            intro k hk
            obtain ⟨c1, c2, _, _⟩ := hf k (by omega)
            rw [hpl] at c1 c2
            have e1 := add_plain a.block a.off (k * 2)
            have e2 := add_plain a.block (a.off + k * 2) 1
            rw [e1] at c1 c2; rw [e2] at c2
            have := ih (k + 1) (by omega)
            rw [show a.off + (k + 1) * 2 = a.off + k * 2 + 2 by omega] at this
            rw [List.range'_succ, List.map_cons]
            exact ⟨c1, c2, this⟩
        have := key len 0 (by omega)
        rw [Nat.zero_mul, Nat.add_zero, ← List.range_eq_range'] at this
        exact this
      · obtain ⟨i, hi, rfl⟩ := List.mem_map.1 hr
        have := hf i (by simpa using hi)
        exact ⟨this.2.2.1, this.2.2.2⟩

end
end Go.Proofs.YtnafemcholkmlaaGreatDoor
