/- What a set has with all that is alike. tables.Fold: a set with all that is alike. brackets.Class with FlagFold: its items. (Printed by gen_brcls3.py out of BrCls2.) -/
import Derived.Test.YtnafemcholkmlaaGreatDoorNSetsHas
import Derived.Test.YtnafemcholkmlaaGreatDoorQBrCatch
import Derived.Test.YtnafemcholkmlaaGreatDoorQBrCls2
namespace Go.Proofs.YtnafemcholkmlaaGreatDoor
open Go Go.RowKit Go.Proofs

/-- A set with all that is alike. -/
def foldF (g : Int → Bool) (c : Int) : Bool := (orbL c).any g
theorem orb_sym : (lettersL.all fun y => (orbL y).contains y && (orbL y).all fun x => lettersL.contains x && decide (orbL x = orbL y)) = true := by kernel_rfl
theorem orb_self (c : Int) : c ∈ orbL c := by
  cases h : letterB c with
  | false => rw [orbL_none h]; simp
  | true =>
    have := List.all_eq_true.1 orb_sym c (letter_mem h)
    simp only [Bool.and_eq_true] at this
    simpa using this.1
theorem orb_same {x y : Int} (hy : y ∈ lettersL) (hx : x ∈ orbL y) : x ∈ lettersL ∧ orbL x = orbL y := by
  have := List.all_eq_true.1 orb_sym y hy
  simp only [Bool.and_eq_true, List.all_eq_true, decide_eq_true_eq] at this
  have h := this.2 x hx
  exact ⟨by simpa using h.1, h.2⟩
/-- What was gathered of some letters. -/
def Gath (g : Int → Bool) (P M : List Int) : Prop := ∀ x, x ∈ M ↔ ∃ y ∈ P, g y = true ∧ x ∈ orbL y
theorem Gath.nil (g : Int → Bool) : Gath g [] [] := fun x => by simp
theorem Gath.skip {g : Int → Bool} {P M : List Int} (h : Gath g P M) {c : Int} (hc : g c = false) : Gath g (P ++ [c]) M := fun x => by
  rw [h x]
  constructor
  · rintro ⟨y, hy, h1, h2⟩
    exact ⟨y, List.mem_append_left _ hy, h1, h2⟩
  · rintro ⟨y, hy, h1, h2⟩
    rcases List.mem_append.1 hy with hy | hy
    · exact ⟨y, hy, h1, h2⟩
    · rw [List.mem_singleton] at hy; subst hy; rw [hc] at h1; cases h1
theorem Gath.take {g : Int → Bool} {P M os : List Int} (h : Gath g P M) {c : Int} (hc : g c = true) (ho : os.Perm (orbL c)) : Gath g (P ++ [c]) (M ++ os) := fun x => by
  rw [List.mem_append, h x, ho.mem_iff]
  constructor
  · rintro (⟨y, hy, h1, h2⟩ | h2)
    · exact ⟨y, List.mem_append_left _ hy, h1, h2⟩
    · exact ⟨c, List.mem_append_right _ (by simp), hc, h2⟩
  · rintro ⟨y, hy, h1, h2⟩
    rcases List.mem_append.1 hy with hy | hy
    · exact .inl ⟨y, hy, h1, h2⟩
    · rw [List.mem_singleton] at hy; subst hy; exact .inr h2
theorem gath_fold {g : Int → Bool} {M : List Int} (h : Gath g lettersL M) (x : Int) : (g x || decide (x ∈ M)) = foldF g x := by
  unfold foldF
  rw [Bool.eq_iff_iff, Bool.or_eq_true, decide_eq_true_eq, h x, List.any_eq_true]
  constructor
  · rintro (h1 | ⟨y, hy, h1, h2⟩)
    · exact ⟨x, orb_self x, h1⟩
    · exact ⟨y, by rw [(orb_same hy h2).2]; exact orb_self y, h1⟩
  · rintro ⟨y, hy, h1⟩
    cases hl : letterB x with
    | false =>
      rw [orbL_none hl, List.mem_singleton] at hy
      subst hy; exact .inl h1
    | true =>
      have hs := orb_same (letter_mem hl) hy
      exact .inr ⟨y, hs.1, h1, by rw [hs.2]; exact orb_self x⟩
/-- Runes as ranges. -/
def dupR (M : List Int) : List (Int × Int) := M.map fun x => (x, x)
theorem memR_dup (M : List Int) (c : Int) : memR (dupR M) c = decide (c ∈ M) := by
  unfold memR dupR
  rw [Bool.eq_iff_iff, List.any_eq_true, decide_eq_true_eq]
  constructor
  · rintro ⟨r, hr, h⟩
    rw [List.mem_map] at hr
    obtain ⟨x, hx, rfl⟩ := hr
    simp only [Bool.and_eq_true, decide_eq_true_eq] at h
    have : x = c := by omega
    rw [← this]; exact hx
  · intro h
    exact ⟨(c, c), List.mem_map.2 ⟨c, h, rfl⟩, by simp⟩
/-- The letters of a stretch, its first ones. -/
def lettersS (s : Int × Int × Int) (k : Nat) : List Int := (List.range k).flatMap fun (k : Nat) => [s.1 + (k : Int), s.1 + (k : Int) + s.2.2]
theorem lettersS_succ (s : Int × Int × Int) (k : Nat) : lettersS s (k + 1) = lettersS s k ++ [s.1 + (k : Int)] ++ [s.1 + (k : Int) + s.2.2] := by
  unfold lettersS
  rw [List.range_succ, List.flatMap_append]
  simp
theorem lettersS_len (s : Int × Int × Int) (k : Nat) : (lettersS s k).length = 2 * k := by
  induction k with
  | zero => rfl
  | succ k ih => rw [lettersS_succ]; simp only [List.length_append, List.length_cons, List.length_nil, ih]; omega
/-- The letters of the first stretches. -/
def lettersJ (j : Nat) : List Int := (stretchL.take j).flatMap fun s => lettersS s (s.2.1 - s.1 + 1).toNat
theorem lettersJ_all : lettersJ 13 = lettersL := rfl
theorem lettersJ_succ (j : Nat) (s : Int × Int × Int) (h : stretchL[j]? = some s) : lettersJ (j + 1) = lettersJ j ++ lettersS s (s.2.1 - s.1 + 1).toNat := by
  unfold lettersJ
  obtain ⟨hl, e⟩ := List.getElem?_eq_some_iff.1 h
  rw [List.take_succ_eq_append_getElem hl, List.flatMap_append, e]
  simp
theorem lettersJ_le (j : Nat) (hj : j ≤ 13) : (lettersJ j).length ≤ 300 := by
  have h : ((List.range 14).all fun j => decide ((lettersJ j).length ≤ 300)) = true := by kernel_rfl
  simpa using List.all_eq_true.1 h j (List.mem_range.2 (by omega))
theorem stretch_more : ∀ s ∈ stretchL, s.1 ≤ s.2.1 ∧ s.2.1 - s.1 ≤ 40 ∧ 0 ≤ s.1 + s.2.2 ∧ s.2.1 + s.2.2 ≤ 10000 := by decide
end Go.Proofs.YtnafemcholkmlaaGreatDoor

namespace Go.Proofs.YtnafemcholkmlaaGreatDoor
open Go Go.RowKit Go.Proofs

/-- What holds between the letters. -/
structure FoldAt (W0 W : World) (g : Int → Bool) (v : Value) (P M : List Int) : Prop where
  b : Below W0.heap.size W0 W
  o : W.ownsRow W0.heap.size 43 2 v (dupR M).length (flatR (dupR M))
  p : Gath g P M
  l : M.length ≤ 3 * P.length
/-- .. and a stretch is at hand. -/
structure FoldIn (W0 W : World) (g : Int → Bool) (bs : Nat) (s : Int × Int × Int) (v : Value) (P M : List Int) : Prop where
  a : FoldAt W0 W g v P M
  k : Blk W bs [.int .i32 s.1, .int .i32 s.2.1, .int .i32 s.2.2] 70
  n : v.ownBlock ≠ some bs
/-- .. and an orbit, gathered in part. -/
structure FoldOrb (W0 W : World) (bs : Nat) (s : Int × Int × Int) (v : Value) (M : List Int) (ov : Value) (os : List Int) : Prop where
  b : Below W0.heap.size W0 W
  o : W.ownsRow W0.heap.size 43 2 v (dupR M).length (flatR (dupR M))
  k : Blk W bs [.int .i32 s.1, .int .i32 s.2.1, .int .i32 s.2.2] 70
  n : v.ownBlock ≠ some bs
  r : OwnR W W0.heap.size ov os
  d : ∀ k, ov.ownBlock = some k → v.ownBlock ≠ some k

set_option maxRecDepth 100000 in
set_option maxHeartbeats 8000000 in
theorem tables_Fold (rs : List (Int × Int)) (sa : Option Addr) (sc B : Nat) (w : World) (h : RangesV w B rs sa rs.length sc) (hB : B ≤ w.heap.size) (hN : rs.length ≤ 100000000) :
    Calls Tryz.prog 22 #[.slice sa rs.length sc] w (SetOf w (foldF (memR rs)) 100000000000) := by
  obtain ⟨i0, hi, hz0, hz1, hz2⟩ := info_parts infoRange
  have HN := Lib.hid (sets_Norm rs sa rs.length sc B w h hB (by omega))
  clear h hB
  go_enter Tryz.func22, Tryz.ntmps22
  go_wp2_with fail
  refine (HN.out).mono ?_
  rintro e w1 ⟨v1, out, rfl, hL, hs1, hm1, hn1, hB1⟩
  obtain ⟨oa, oc, rfl, hr1, _⟩ := Laid.ranges hL (by omega)
  have R1 := Lib.hid hr1; have B1 := Lib.hid hB1; have IS := Lib.hid (show IsSet out (memR rs) from ⟨hs1, hm1⟩)
  clear hL hs1 hm1 hn1 hB1 hr1
  go_wp2_with fail
  refine (stretches_any _).mono ?_
  rintro e w2 ⟨rfl, rfl⟩
  go_wp2_with fail
  have S2 := Lib.hid (show Blk (w1.alloc (.cells (strC stretchL).toArray 70)) w1.heap.size (strC stretchL) 70 from Blk.new _ _ _)
  have R2 := Lib.hid (show RangesV (w1.alloc (.cells (strC stretchL).toArray 70)) w1.heap.size out oa out.length oc from R1.out.below ((Below.refl _ _).alloc (Nat.le_refl _) _))
  have B2 := Lib.hid (show Below w.heap.size w (w1.alloc (.cells (strC stretchL).toArray 70)) from B1.out.alloc B1.out.size _)
  have hz2 : w1.heap.size < (w1.alloc (.cells (strC stretchL).toArray 70)).heap.size := by simp
  generalize w1.alloc (.cells (strC stretchL).toArray 70) = W0 at S2 R2 B2 hz2 ⊢
  generalize w1.heap.size = sh at S2 R2 hz2 ⊢
  have HZ2 := Lib.hid hz2; clear hz2
  go_loopw [4, 16] (fun mv jv W => ∃ (j : Nat) (M : List Int), j ≤ 13 ∧ jv = .int .i64 j ∧ FoldAt W0 W (hasB out) mv (lettersJ j) M) (fun _ jv _ => 13 - (intOf jv).toNat)
  case atStart => exact ⟨0, [], by omega, rfl, Below.refl _ _, World.ownsRow_nil _ _ _ _, Gath.nil _, by simp⟩
  case round =>
    obtain ⟨j, M, hj, rfl, hA⟩ := hrel
    have A3 := Lib.hid hA; clear hA
    have hsl : stretchL.length = 13 := rfl
    by_cases hj13 : j < 13
    case neg =>
      obtain rfl : j = 13 := by omega
      have hml : (dupR M).length ≤ 1000 := by have := A3.out.l; have := lettersJ_le 13 (by omega); unfold dupR; rw [List.length_map]; omega
      obtain ⟨ua, uc, rfl, hrm, _⟩ := Laid.ranges (w := W0) (w' := wr) (out := dupR M) A3.out.o (by omega)
      have hro := (R2.out.below (A3.out.b.mono (by have := HZ2.out; omega)))
      have HU := Lib.hid (sets_Union out (dupR M) oa ua out.length oc (dupR M).length uc wr.heap.size wr ⟨hro.1, hro.2.1, hro.2.2.imp id (fun ⟨b, o, e, hlt, hat⟩ => ⟨b, o, e, by have := HZ2.out; have := A3.out.b.size; omega, hat⟩)⟩ hrm (Nat.le_refl _) (by have := IS.out.len; omega))
      have HO := Lib.hid (show (dupR M).length ≤ 1000 from hml)
      clear hml hrm hro
      go_wp2_with fail
      refine (HU.out).mono ?_
      rintro e w5 ⟨v5, out5, rfl, hL5, hs5, hm5, hn5, hB5⟩
      obtain ⟨xa, xc, rfl, _, _⟩ := Laid.ranges hL5 (by have := IS.out.len; have := HO.out; omega)
      have L5 := Lib.hid hL5; have S5 := Lib.hid hs5; have M5 := Lib.hid hm5; have N5 := Lib.hid hn5; have B5 := Lib.hid hB5
      clear hL5 hs5 hm5 hn5 hB5
      go_wp2_with fail
      go_ret
      have hz := A3.out.b.size
      have hzz := B2.out.size
      refine ⟨_, out5, rfl, Joins.ownsRow_le L5.out (by omega), S5.out, ?_, by have := N5.out; have := IS.out.len; have := HO.out; omega, B2.out.trans ((A3.out.b.mono hzz).trans (B5.out.mono (by omega)))⟩
      intro c
      rw [M5.out c]
      by_cases hc : 0 ≤ c ∧ c ≤ 1114111
      · have hg := gath_fold (show Gath (hasB out) lettersL M from A3.out.p) c
        have h1 : hasB out c = memR out c := by unfold hasB; rw [decide_eq_true hc.1, decide_eq_true hc.2]; rfl
        have h2 : foldF (hasB out) c = foldF (memR rs) c := by
          unfold foldF
          have hgood := orb_good hc.1 hc.2
          have key : ∀ l : List Int, (∀ y ∈ l, 0 ≤ y ∧ y ≤ 1114111) → l.any (hasB out) = l.any (memR rs) := by
            intro l
            induction l with
            | nil => intro _; rfl
            | cons y l ih =>
              intro hl
              have hy := hl y List.mem_cons_self
              rw [List.any_cons, List.any_cons, ih fun z hz => hl z (List.mem_cons_of_mem _ hz)]
              congr 1
              unfold hasB
              rw [IS.out.2, decide_eq_true hy.1, decide_eq_true hy.2]; rfl
          exact key _ fun y hy => hgood.2.2.1 y (hgood.2.2.2.mem_iff.2 hy)
        rw [← h1, memR_dup, hg, h2]
      · have : (decide (0 ≤ c) && decide (c ≤ 1114111)) = false := by
          rw [Bool.and_eq_false_iff, decide_eq_false_iff_not, decide_eq_false_iff_not]; omega
        rw [this]; rfl
    case pos =>
      have hjl : j < stretchL.length := by rw [hsl]; exact hj13
      obtain ⟨s, hs, hq⟩ : ∃ s, stretchL[j]? = some s ∧ (strC stretchL)[j * 3]? = some (.int .i32 s.1) ∧ (strC stretchL)[j * 3 + 1]? = some (.int .i32 s.2.1) ∧ (strC stretchL)[j * 3 + 2]? = some (.int .i32 s.2.2) := ⟨_, List.getElem?_eq_getElem hjl, strC_get stretchL j hjl⟩
      have hbd := stretch_bounds s (List.mem_of_getElem? hs)
      have hbm := stretch_more s (List.mem_of_getElem? hs)
      have hJ := lettersJ_succ j s hs
      have S3 := Blk.below S2.out A3.out.b HZ2.out
      obtain ⟨lo, hi2, up⟩ := s
      have q0 := Blk.cell S3 (j := j * 3) hq.1
      have q1 := Blk.cell S3 (j := j * 3 + 1) hq.2.1
      have q2 := Blk.cell S3 (j := j * 3 + 2) hq.2.2
      have I3 := Lib.hid (show FoldIn W0 (wr.alloc (.cells #[.int .i32 lo, .int .i32 hi2, .int .i32 up] 70)) (hasB out) wr.heap.size (lo, hi2, up) u4 (lettersJ j) M from ⟨⟨A3.out.b.alloc A3.out.b.size _, World.ownsRow.alloc A3.out.o _, A3.out.p, A3.out.l⟩, Blk.new wr [.int .i32 lo, .int .i32 hi2, .int .i32 up] 70, fun e => by have := (A3.out.o.lt _ e).2; omega⟩)
      have HJ := Lib.hid hJ; have HS := Lib.hid hs
      clear hjl hs hq S3 hJ
      obtain ⟨n, hn⟩ : ∃ n : Nat, (n : Int) = hi2 - lo + 1 := ⟨(hi2 - lo + 1).toNat, by simp only at hbm; omega⟩
      have hn40 : n ≤ 41 := by have := hbm.2.1; simp only at this; omega
      have b1 := hbd.1; have b2 := hbd.2.1; have b3 := hbd.2.2.1; have b4 := hbd.2.2.2.1; have b5 := hbd.2.2.2.2.1; have b6 := hbd.2.2.2.2.2
      have m1 := hbm.1; have m3 := hbm.2.2.1; have m4 := hbm.2.2.2
      simp only at b1 b2 b3 b4 b5 b6 m1 m3 m4
      have HN2 := Lib.hid hn
      clear hbd hbm hn
      have hzb := A3.out.b.size
      go_wp2_with fail
      rw [← HN2.out]
      generalize wr.alloc (.cells #[.int .i32 lo, .int .i32 hi2, .int .i32 up] 70) = W3 at I3 ⊢
      generalize wr.heap.size = bs at I3 hzb ⊢
      clear q0 q1 q2
      clear A3
      go_loopw [4, 27] (fun mv kv W => ∃ (k : Nat) (M : List Int), k ≤ n ∧ kv = .int .i64 k ∧ FoldIn W0 W (hasB out) bs (lo, hi2, up) mv (lettersJ j ++ lettersS (lo, hi2, up) k) M) (fun _ kv _ => n - (intOf kv).toNat)
      case atStart => exact ⟨0, M, Nat.zero_le _, rfl, by rw [show lettersS (lo, hi2, up) 0 = [] from rfl, List.append_nil]; exact I3.out⟩
      case round =>
        obtain ⟨k, M4, hk, rfl, hI4⟩ := hrel
        have I4 := Lib.hid hI4; clear hI4
        by_cases hkn : k < n
        case neg =>
          obtain rfl : k = n := by omega
          go_wp2_with fail
          go_roundw
          case rel =>
            refine ⟨j + 1, M4, by omega, by go_num, ?_⟩
            have := I4.out.a
            rw [HJ.out]
            have e : (((lo, hi2, up) : Int × Int × Int).2.1 - ((lo, hi2, up) : Int × Int × Int).1 + 1).toNat = k := by have := HN2.out; simp only; omega
            rw [e]
            exact this
          case measure => simp [intOf]; omega
        case pos =>
          have hk1 : (k : Int) < (n : Int) := by omega
          have hkw : IntKind.i32.wrap (k : Int) = (k : Int) := IntWalk.i32_in _ (by omega)
          have hn5 := HN2.out
          have hin : lo + (k : Int) ≤ hi2 := by omega
          have b0 := Blk.cell I4.out.k (j := 0) rfl; have b22 := Blk.cell I4.out.k (j := 2) rfl
          clear hn5
          go_wp2_with fail
          generalize hc2 : lo + (k : Int) + up = c2
          generalize hc1 : lo + (k : Int) = c1
          have HC1 := Lib.hid hc1; have HC2 := Lib.hid hc2
          obtain ⟨P, hP⟩ : ∃ P, P = lettersJ j ++ lettersS (lo, hi2, up) k := ⟨_, rfl⟩
          have hPl : P.length ≤ 400 := by
            rw [hP, List.length_append, lettersS_len]
            have := lettersJ_le j (by omega)
            omega
          rw [← hP] at I4
          have HP := Lib.hid hP; have HPL := Lib.hid hPl; have I5 := I4
          clear hc1 hc2 hP hPl b0 b22 hkw hk1 hin I4
          go_loopw [4, 44] (fun mv dv W => ∃ (d : Nat) (M : List Int), d ≤ 2 ∧ dv = .int .i64 d ∧ FoldIn W0 W (hasB out) bs (lo, hi2, up) mv (P ++ [c1, c2].take d) M) (fun _ dv _ => 2 - (intOf dv).toNat)
          case atStart => exact ⟨0, M4, by omega, rfl, by rw [show [c1, c2].take 0 = [] from rfl, List.append_nil]; exact I5.out⟩
          case round =>
            obtain ⟨d, M6, hd, rfl, hI6⟩ := hrel
            have I6 := Lib.hid hI6; clear hI6
            by_cases hd2 : d < 2
            case neg =>
              obtain rfl : d = 2 := by omega
              go_wp2_with fail
              go_roundw
              case rel =>
                refine ⟨k + 1, M6, by omega, by go_num, ?_⟩
                have := I6.out
                rw [lettersS_succ, ← List.append_assoc, ← List.append_assoc, ← HP.out]
                simp only
                rw [HC2.out, HC1.out, List.append_assoc]
                exact this
              case measure => simp [intOf]; omega
            case pos =>
              obtain ⟨c, hidx, htake⟩ : ∃ c : Int, (∀ w, (Instr.index 71 (.agg #[.int .i32 c1, .int .i32 c2]) (.int .i64 d)).run Tryz.prog w = .ok (.int .i32 c) w) ∧ [c1, c2].take (d + 1) = [c1, c2].take d ++ [c] := by
                rcases (show d = 0 ∨ d = 1 by omega) with rfl | rfl
                · exact ⟨c1, fun _ => by kernel_rfl, rfl⟩
                · exact ⟨c2, fun _ => by kernel_rfl, rfl⟩
              have HTK := Lib.hid htake; clear htake
              have hro := Lib.hid (R2.out.below (I6.out.a.b.mono (by have := HZ2.out; omega)))
              cases hh : hasB out c with
              | false =>
                have HH := Lib.hid hh; clear hh
                go_wp2_with fail
                refine (sets_Has out oa oc sh c wr hro.out (by have := HZ2.out; have := I6.out.a.b.size; omega)).mono ?_
                rintro e w7 ⟨rfl, hB7⟩
                rw [HH.out]
                have I7 := Lib.hid (show FoldIn W0 w7 (hasB out) bs (lo, hi2, up) u4 (P ++ [c1, c2].take (d + 1)) M6 from ⟨⟨I6.out.a.b.trans (hB7.mono I6.out.a.b.size), I6.out.a.o.kept (grownBy_below hB7 none) (by cases u4.ownBlock <;> simp), by rw [HTK.out, ← List.append_assoc]; exact I6.out.a.p.skip HH.out, by have := I6.out.a.l; rw [HTK.out]; simp only [List.length_append, List.length_cons, List.length_nil] at this ⊢; omega⟩, Blk.below I6.out.k hB7 I6.out.k.lt, I6.out.n⟩)
                clear hB7
                go_wp2_with fail
                go_roundw
                case rel => exact ⟨d + 1, M6, by omega, by go_num, I7.out⟩
                case measure => simp [intOf]; omega
              | true =>
                have HH := Lib.hid hh; clear hh
                go_wp2_with fail
                refine (sets_Has out oa oc sh c wr hro.out (by have := HZ2.out; have := I6.out.a.b.size; omega)).mono ?_
                rintro e w7 ⟨rfl, hB7⟩
                rw [HH.out]
                have I7 := Lib.hid (show FoldIn W0 w7 (hasB out) bs (lo, hi2, up) u4 (P ++ [c1, c2].take d) M6 from ⟨⟨I6.out.a.b.trans (hB7.mono I6.out.a.b.size), I6.out.a.o.kept (grownBy_below hB7 none) (by cases u4.ownBlock <;> simp), I6.out.a.p, I6.out.a.l⟩, Blk.below I6.out.k hB7 I6.out.k.lt, I6.out.n⟩)
                have hcr : 0 ≤ c ∧ c ≤ 1114111 := by
                  have := HH.out
                  unfold hasB at this
                  simp only [Bool.and_eq_true, decide_eq_true_eq] at this
                  exact this.1
                have HCR := Lib.hid hcr
                clear hB7 hcr
                go_wp2_with fail
                refine (tables_Orbit c w7 HCR.out.1 HCR.out.2).mono ?_
                rintro e w8 ⟨ov, os, rfl, hperm, hown, hB8⟩
                have hpos : 0 < os.length := by rw [hperm.length_eq]; exact List.length_pos_of_mem (orb_self c)
                have hol : os.length ≤ 3 := by rw [hperm.length_eq, ← (orb_good HCR.out.1 HCR.out.2).2.2.2.length_eq]; exact (orb_good HCR.out.1 HCR.out.2).2.1
                obtain ⟨og, ocap, rfl, hogB, _⟩ := World.ownsRow.form hown hpos
                have hz7 := I7.out.a.b.size
                have O8 := Lib.hid (show FoldOrb W0 w8 bs (lo, hi2, up) u4 (M6 ++ os.take 0) (.slice (some ⟨og, 0, none⟩) os.length ocap) os from ⟨I7.out.a.b.trans (hB8.mono hz7), by rw [List.take_zero, List.append_nil]; exact I7.out.a.o.kept (grownBy_below hB8 none) (by cases u4.ownBlock <;> simp), Blk.below I7.out.k hB8 I7.out.k.lt, I7.out.n, Joins.ownsRow_le hown hz7, fun k' hk' e => by
                  have e2 : og = k' := Option.some.inj hk'
                  have := (I7.out.a.o.lt k' e).2
                  omega⟩)
                have HPM := Lib.hid hperm; have HOL := Lib.hid hol
                clear hperm hown hB8 hogB hz7
                go_wp2_with fail
                go_loopw [4, 54] (fun mv qv W => ∃ q : Nat, q ≤ os.length ∧ qv = .int .i64 q ∧ FoldOrb W0 W bs (lo, hi2, up) mv (M6 ++ os.take q) (.slice (some ⟨og, 0, none⟩) os.length ocap) os) (fun _ qv _ => os.length - (intOf qv).toNat)
                case atStart => exact ⟨0, Nat.zero_le _, rfl, O8.out⟩
                case round =>
                  obtain ⟨q, hq, rfl, hO9⟩ := hrel
                  have O9 := Lib.hid hO9; clear hO9
                  by_cases hqo : q < os.length
                  case neg =>
                    obtain rfl : q = os.length := by omega
                    have I9 := Lib.hid (show FoldIn W0 wr (hasB out) bs (lo, hi2, up) u4 (P ++ [c1, c2].take (d + 1)) (M6 ++ os) from ⟨⟨O9.out.b, by have := O9.out.o; rw [List.take_length] at this; exact this, by rw [HTK.out, ← List.append_assoc]; exact I7.out.a.p.take HH.out HPM.out, by have := I7.out.a.l; have := HOL.out; rw [HTK.out]; simp only [List.length_append, List.length_cons, List.length_nil] at *; omega⟩, O9.out.k, O9.out.n⟩)
                    go_wp2_with fail
                    go_roundw
                    case rel => exact ⟨d + 1, _, by omega, by go_num, I9.out⟩
                    case measure => simp [intOf]; omega
                  case pos =>
                    have gq := O9.out.r.cellAt q (by omega)
                    rw [vR_get os q hqo] at gq
                    obtain ⟨x, hx⟩ : ∃ x, os[q] = x := ⟨_, rfl⟩
                    rw [hx] at gq
                    have hqi : (q : Int) < (os.length : Int) := by omega
                    have HX := Lib.hid hx; clear hx
                    have hml : (dupR (M6 ++ os.take q)).length ≤ 2000 := by
                      have := I7.out.a.l; have := HPL.out; have := HOL.out
                      have h2 : ([c1, c2].take d).length ≤ 2 := by rw [List.length_take]; simp; omega
                      unfold dupR
                      simp only [List.length_map, List.length_append, List.length_take] at *
                      omega
                    have hzr := O9.out.b.size
                    go_wp2_with (at_builtin; refine wpList_append_own_at _ rfl _ _ 24 rfl W0.heap.size 43 i0 (.agg #[.int .i32 0, .int .i32 0]) 2 8 Tryz.underlying24 hi hz0 hz1 hz2 rfl (by decide) u4 (dupR (M6 ++ os.take q)).length (flatR (dupR (M6 ++ os.take q))) rfl (O9.out.o.alloc (.cells #[.int .i32 x, .int .i32 x] 43)) ⟨wr.heap.size, 0, none⟩ 1 1 [.int .i32 x, .int .i32 x] rfl rfl (cell_two_new _ _ _ _) (by intro u hu; simp only [List.mem_cons, List.not_mem_nil, or_false, or_self] at hu; subst hu; rfl) (by unfold maxLen; omega) (by omega) (by simp; omega) ?_; intro v' w10 hown hgrow hiff)
                    intro hat
                    clear hiff
                    obtain ⟨g2, cap2, rfl, hgb, hgl⟩ := World.ownsRow.form hown (Nat.succ_pos _)
                    have htq : os.take (q + 1) = os.take q ++ [x] := by rw [List.take_succ_eq_append_getElem hqo, HX.out]
                    have hdup : dupR (M6 ++ os.take (q + 1)) = dupR (M6 ++ os.take q) ++ [(x, x)] := by rw [htq, ← List.append_assoc]; simp [dupR]
                    have hgn : ∀ k', u4.ownBlock ≠ some k' → k' ≤ wr.heap.size → g2 ≠ k' := by
                      intro k' h1 h2 e
                      rcases hat with h3 | h3
                      · exact h1 (by rw [← h3, e]; rfl)
                      · have h4 : g2 = wr.heap.size + 1 := Option.some.inj h3
                        omega
                    have F10 := Lib.hid (show FoldOrb W0 w10 bs (lo, hi2, up) (.slice (some ⟨g2, 0, none⟩) ((dupR (M6 ++ os.take q)).length + 1) cap2) (M6 ++ os.take (q + 1)) (.slice (some ⟨og, 0, none⟩) os.length ocap) os from ⟨below_next (O9.out.b.alloc hzr _) (Nat.le_refl _) hgrow (fun k' e => (O9.out.o.lt k' e).1), by
                      rw [hdup, List.length_append, show flatR (dupR (M6 ++ os.take q) ++ [(x, x)]) = flatR (dupR (M6 ++ os.take q)) ++ [.int .i32 x, .int .i32 x] by simp [flatR]]
                      exact hown, (O9.out.k.alloc _).grown hgrow (fun e => O9.out.n e.symm), (fun e => hgn bs O9.out.n (by have := O9.out.k.lt; omega) (Option.some.inj e)), World.ownsRow.kept (World.ownsRow.alloc O9.out.r _) hgrow (.inr fun e => O9.out.d og rfl e.symm), fun k' hk' e => by
                        have e2 : og = k' := Option.some.inj hk'
                        subst e2
                        exact hgn og (O9.out.d og rfl) (by have := (O9.out.r.lt og rfl).2; omega) (Option.some.inj e)⟩)
                    clear hown hgrow hat hgb hgl hgn hdup htq gq
                    go_wp2_with fail
                    go_roundw
                    case rel => exact ⟨q + 1, hqo, by go_num, F10.out⟩
                    case measure => simp [intOf]; omega
end Go.Proofs.YtnafemcholkmlaaGreatDoor

namespace Go.Proofs.YtnafemcholkmlaaGreatDoor
open Go Go.RowKit Go.Proofs Go.Shelf

theorem foldF_congr {g g' : Int → Bool} (h : ∀ c, 0 ≤ c → c ≤ 1114111 → g c = g' c) (c : Int) (h0 : 0 ≤ c) (h1 : c ≤ 1114111) : foldF g c = foldF g' c := by
  unfold foldF
  have hgood := orb_good h0 h1
  have key : ∀ l : List Int, (∀ y ∈ l, 0 ≤ y ∧ y ≤ 1114111) → l.any g = l.any g' := by
    intro l
    induction l with
    | nil => intro _; rfl
    | cons y l ih =>
      intro hl
      have hy := hl y List.mem_cons_self
      rw [List.any_cons, List.any_cons, ih fun z hz => hl z (List.mem_cons_of_mem _ hz), h y hy.1 hy.2]
  exact key _ fun y hy => hgood.2.2.1 y (hgood.2.2.2.mem_iff.2 hy)

set_option maxRecDepth 100000 in
set_option maxHeartbeats 8000000 in
theorem cls_folded (s : ByteArray) (p : Nat) (f : Int) (w : World) (hp : p ≤ s.size) (hs : s.size ≤ 100000000) (hT : Tabs w) (perl : Bool) (hP : (bits BinOp.and IntKind.i64 f 32 != 0) = perl) (hf : (bits BinOp.and IntKind.i64 f 1 != 0) = true) (hn : stands s p [91] = true) (f0 : Int → Bool) (q0 : Nat) (hi : itemP s (clsAt s p) perl p = .ok f0 q0) :
    Calls Tryz.prog 8 #[.string s, .int .i64 p, .int .i64 f] w (ClsOut w (clsQ s p perl (some foldF))) := by
  have HA := Lib.hid (ClsAt.start w s p perl)
  have HT := Lib.hid hT
  have HI := Lib.hid hi
  have l1 : p + 1 ≤ s.size := stands_le (p := ⟨#[91]⟩) hp hn
  have l2 := clsAt_le hp hn
  have hlt := hT.lt
  have hq0 := itemP_q l2.1 hi
  clear hT hi
  go_enter_defers Tryz.func8, Tryz.ntmps8
  go_wp2_with fail
  refine (br_has_yes (w.heap.size + 1 + 1 + 1) s ⟨#[91]⟩ p _ _ _ HA.out.rd hp (by omega) hn).mono ?_
  rintro e w1 ⟨rfl, hR, hG⟩
  have A1 := Lib.hid (HA.out.grown hG hR); clear hR hG
  go_wp2_with fail
  refine (br_not (w.heap.size + 1 + 1 + 1) s p _ _ _ A1.out.rd l1 (by omega)).mono ?_
  rintro e w2 ⟨rfl, hR, hG⟩
  have A2 := Lib.hid (A1.out.grown hG hR); clear hR hG
  have T2 := Lib.hid (HT.out.below A2.out.bl)
  go_wp2_with fail
  refine (item_any (w.heap.size + 1 + 1 + 1) s (clsAt s p) p perl _ A2.out.rd T2.out (by omega) (by omega) l2.1 (by omega)).mono ?_
  rw [HI.out]
  rintro e w3 ⟨hG, v, out, rfl, hL, hM, hN, hR⟩
  have A3 := Lib.hid (A2.out.grown hG hR); clear hR hG
  have V3 := Lib.hid ((AllV.of_own hL).mono (show w.heap.size + 1 + 1 + 1 + 1 ≤ w2.heap.size by have := A2.out.rd.lt; omega))
  have M3 := Lib.hid hM
  have hN3 : out.length ≤ 1000 * q0 := by omega
  obtain ⟨sa, sc, rfl, _, _⟩ := Laid.ranges hL (by omega)
  clear hL hM hN
  obtain ⟨R, hR⟩ : ∃ R, R = restP s perl p (s.size + 1) q0 f0 := ⟨_, rfl⟩
  have HR := Lib.hid hR; clear hR
  go_wp2_with fail
  go_loopg [11] (s.size + 1) (fun n v W => ∃ (q : Nat) (g : Int → Bool) (out : List (Int × Int)), ClsMid w s p perl R n v W q g out)
  case atStart => exact ⟨q0, f0, out, A3.out, V3.out, M3.out, hN3, hq0.2, by omega, HR.out.symm⟩
  case round =>
    obtain ⟨q, g, out4, H⟩ := hrel
    obtain ⟨m, rfl⟩ : ∃ m, gk = m + 1 := ⟨gk - 1, by have := H.i; have := H.iq; omega⟩
    obtain ⟨sa4, sc4, rfl, hc4, hv4⟩ := H.v
    have hq4 := H.iq
    have HH := Lib.hid H; clear H
    by_cases h93 : stands s q [93] = true
    · go_wp2_with fail
      refine (br_has_yes (w.heap.size + 1 + 1 + 1) s ⟨#[93]⟩ q _ _ _ HH.out.a.rd hq4 (by omega) h93).mono ?_
      rintro e w5 ⟨rfl, hR, hG⟩
      have A5 := Lib.hid (HH.out.a.grown hG hR)
      have V5 := HH.out.v.grown hG (by omega)
      have hl5 := HH.out.l
      obtain ⟨sa5, sc5, e5, hr5⟩ := V5.ranges (by omega)
      cases e5
      have HN := Lib.hid (sets_Norm out4 sa4 out4.length sc4 w5.heap.size w5 hr5 (Nat.le_refl _) (by omega))
      clear hR hG V5 hr5 hv4
      go_wp2_with fail
      refine (HN.out).mono ?_
      rintro e w6 ⟨v6, out6, rfl, hL, hs6, hm6, hn6, hB⟩
      obtain ⟨sa6, sc6, rfl, _, _⟩ := Laid.ranges hL (by omega)
      have A6 := Lib.hid (A5.out.grown (grownBy_below hB _) (Rd.below A5.out.rd hB A5.out.rd.lt))
      have I6 := Lib.hid (show IsSet out6 g from (show IsSet out6 (memR out4) from ⟨hs6, hm6⟩).congr HH.out.m)
      have L6 := Lib.hid (show w6.ownsRow (w.heap.size + 1 + 1 + 1 + 1) 43 2 (.slice sa6 out6.length sc6) out6.length (flatR out6) from Joins.ownsRow_le hL (by have := A5.out.rd.lt; omega))
      have N6 := Lib.hid hn6
      clear hL hs6 hm6 hn6 hB
      have HQ := Lib.hid (show clsQ s p perl (some foldF) = .ok (fun c => foldF g c != stands s (p + 1) [94]) (q + 1) by
        have h1 := HH.out.r
        unfold restP at h1
        rw [if_pos h93] at h1
        unfold clsQ clsP
        rw [hn, HI.out]
        simp only [not_true, if_false]
        rw [← HR.out, ← h1])
      obtain ⟨c6, c7, c80, c81, c82, f6, f7, f80, f81, f82⟩ := A6.out.cells
      have hr6 : RangesV (w6.setCell ⟨w.heap.size, 0, none⟩ (.slice sa6 out6.length sc6)) (w6.setCell ⟨w.heap.size, 0, none⟩ (.slice sa6 out6.length sc6)).heap.size out6 sa6 out6.length sc6 := by
        have L := ownsRow_setCell_below (a := ⟨w.heap.size, 0, none⟩) L6.out (by simp; omega) (.slice sa6 out6.length sc6)
        obtain ⟨sa, sc, e, h⟩ := (AllV.of_own L).ranges (by have := I6.out.len; omega)
        cases e
        exact h
      have HFo := Lib.hid (tables_Fold out6 sa6 sc6 _ _ hr6 (Nat.le_refl _) (by have := I6.out.len; omega))
      have A6' := Lib.hid (show Blk (w6.setCell ⟨w.heap.size, 0, none⟩ (.slice sa6 out6.length sc6)) w.heap.size [.slice sa6 out6.length sc6] 24 from A6.out.k6.set 0 _)
      clear hr6
      go_wp2_with fail
      refine (HFo.out).mono ?_
      rintro e wF ⟨vF, outF, rfl, hL, hs7, hm7, hn7, hB⟩
      have hzF := IsSet.len (show IsSet outF (foldF (memR out6)) from ⟨hs7, hm7⟩)
      obtain ⟨saF, scF, rfl, _, _⟩ := Laid.ranges hL (by omega)
      have hz6 : (w6.setCell ⟨w.heap.size, 0, none⟩ (.slice sa6 out6.length sc6)).heap.size = w6.heap.size := by simp [World.setCell]
      have hlt6 := A6.out.rd.lt
      have AF := Lib.hid (show ClsAtV w wF s (q + 1) p perl (.slice sa6 out6.length sc6) from ⟨Blk.below A6'.out hB (by rw [hz6]; omega), Blk.below (A6.out.k7.setCell_other (a := ⟨w.heap.size, 0, none⟩) (by simp) _) hB (by rw [hz6]; omega), Blk.below (A6.out.k8.setCell_other (a := ⟨w.heap.size, 0, none⟩) (by simp; omega) _) hB (by rw [hz6]; omega), Rd.below (A6.out.rd.setCell_other (a := ⟨w.heap.size, 0, none⟩) (by simp; omega) _) hB (by rw [hz6]; omega), (A6.out.bl.setCell (by simp) _).trans (hB.mono (by rw [hz6]; omega))⟩)
      have IF := Lib.hid (show IsSet outF (foldF g) from (show IsSet outF (foldF (memR out6)) from ⟨hs7, hm7⟩).congr (foldF_congr fun c h0 h1 => by rw [I6.out.2]; simp [h0, h1]))
      have LF := Lib.hid (show wF.ownsRow (w.heap.size + 1 + 1 + 1 + 1) 43 2 (.slice saF outF.length scF) outF.length (flatR outF) from Joins.ownsRow_le hL (by rw [hz6]; omega))
      clear hL hs7 hm7 hn7 hB hz6 hlt6 hzF c6 c7 c80 c81 c82 f6 f7 f80 f81 f82
      have c6 := Blk.cell AF.out.k6 (j := 0) rfl; have f6 := AF.out.k6.frozen 0
      have c7 := True.intro; have c80 := True.intro; have c81 := True.intro; have c82 := True.intro; have f7 := True.intro; have f80 := True.intro; have f81 := True.intro; have f82 := True.intro
      by_cases hnt : stands s (p + 1) [94] = true
      · go_wp2_with fail
        have hrF : RangesV (wF.setCell ⟨w.heap.size, 0, none⟩ (.slice saF outF.length scF)) (wF.setCell ⟨w.heap.size, 0, none⟩ (.slice saF outF.length scF)).heap.size outF saF outF.length scF := by
          have L := ownsRow_setCell_below (a := ⟨w.heap.size, 0, none⟩) LF.out (by simp; omega) (.slice saF outF.length scF)
          obtain ⟨sa, sc, e, h⟩ := (AllV.of_own L).ranges (by have := IF.out.len; omega)
          cases e
          exact h
        have HNot := Lib.hid (sets_Not outF saF outF.length scF _ _ hrF (Nat.le_refl _) (by have := IF.out.len; omega))
        have AG' := Lib.hid (show Blk (wF.setCell ⟨w.heap.size, 0, none⟩ (.slice saF outF.length scF)) w.heap.size [.slice saF outF.length scF] 24 from AF.out.k6.set 0 _)
        clear hrF
        go_wp2_with fail
        refine (HNot.out).mono ?_
        rintro e w7 ⟨v7, out7, rfl, hL, hs7, hm7, hn7, hB⟩
        obtain ⟨sa7, sc7, rfl, _, _⟩ := Laid.ranges hL (by have := IF.out.len; omega)
        have hzG : (wF.setCell ⟨w.heap.size, 0, none⟩ (.slice saF outF.length scF)).heap.size = wF.heap.size := by simp [World.setCell]
        have hltG := AF.out.rd.lt
        have A7 := Lib.hid (show ClsAtV w w7 s (q + 1) p perl (.slice saF outF.length scF) from ⟨Blk.below AG'.out hB (by rw [hzG]; omega), Blk.below (AF.out.k7.setCell_other (a := ⟨w.heap.size, 0, none⟩) (by simp) _) hB (by rw [hzG]; omega), Blk.below (AF.out.k8.setCell_other (a := ⟨w.heap.size, 0, none⟩) (by simp; omega) _) hB (by rw [hzG]; omega), Rd.below (AF.out.rd.setCell_other (a := ⟨w.heap.size, 0, none⟩) (by simp; omega) _) hB (by rw [hzG]; omega), (AF.out.bl.setCell (by simp) _).trans (hB.mono (by rw [hzG]; omega))⟩)
        have I7 := Lib.hid (show IsSet out7 (fun c => foldF g c != true) from (show IsSet out7 (fun c => !memR outF c) from ⟨hs7, hm7⟩).congr fun c h0 h1 => by show (!memR outF c) = (foldF g c != true); rw [IF.out.2]; simp [h0, h1])
        have L7 := Lib.hid (show w7.ownsRow (w.heap.size + 1 + 1 + 1 + 1) 43 2 (.slice sa7 out7.length sc7) out7.length (flatR out7) from Joins.ownsRow_le hL (by rw [hzG]; omega))
        clear hL hs7 hm7 hn7 hB hzG hltG c6 c7 c80 c81 c82 f6 f7 f80 f81 f82
        have c6 := Blk.cell A7.out.k6 (j := 0) rfl; have f6 := A7.out.k6.frozen 0
        have c7 := True.intro; have c80 := True.intro; have c81 := True.intro; have c82 := True.intro; have f7 := True.intro; have f80 := True.intro; have f81 := True.intro; have f82 := True.intro
        go_wp2_with fail
        obtain ⟨W8, hW8⟩ : ∃ W8, W8 = w7.setCell ⟨w.heap.size, 0, none⟩ (.slice sa7 out7.length sc7) := ⟨_, rfl⟩
        have K6 := Lib.hid (show Blk W8 w.heap.size [.slice sa7 out7.length sc7] 24 by rw [hW8]; exact A7.out.k6.set 0 _)
        have K7 := Lib.hid (show Blk W8 (w.heap.size + 1) [.int .i64 0] 3 by rw [hW8]; exact A7.out.k7.setCell_other (a := ⟨w.heap.size, 0, none⟩) (by simp) _)
        have K8 := Lib.hid (show Blk W8 (w.heap.size + 1 + 1) [.int .i64 0, .int .i64 0, .int .i64 0] 27 by rw [hW8]; exact A7.out.k8.setCell_other (a := ⟨w.heap.size, 0, none⟩) (by simp; omega) _)
        have K9 := Lib.hid (show BrR W8 (w.heap.size + 1 + 1 + 1) s (q + 1) p perl by rw [hW8]; exact A7.out.rd.setCell_other (a := ⟨w.heap.size, 0, none⟩) (by simp; omega) _)
        have KB := Lib.hid (show Below w.heap.size w W8 by rw [hW8]; exact A7.out.bl.setCell (by simp) _)
        have KL := Lib.hid (show W8.ownsRow (w.heap.size + 1 + 1 + 1 + 1) 43 2 (.slice sa7 out7.length sc7) out7.length (flatR out7) by rw [hW8]; exact ownsRow_setCell_below L7.out (by simp; omega) _)
        clear hf
        rw [← hW8]
        clear hW8
        clear c6 c7 c80 c81 c82 f6 f7 f80 f81 f82
        have c6 := Blk.cell K6.out (j := 0) rfl; have c7 := Blk.cell K7.out (j := 0) rfl; have c80 := Blk.cell K8.out (j := 0) rfl; have c81 := Blk.cell K8.out (j := 1) rfl; have c82 := Blk.cell K8.out (j := 2) rfl
        have f6 := K6.out.frozen 0; have f7 := K7.out.frozen 0; have f80 := K8.out.frozen 0; have f81 := K8.out.frozen 1; have f82 := K8.out.frozen 2
        have c9 := Rd.c1 K9.out
        have n67 : w.heap.size ≠ w.heap.size + 1 := by omega
        have n68 : w.heap.size ≠ w.heap.size + 1 + 1 := by omega
        have n78 : w.heap.size + 1 ≠ w.heap.size + 1 + 1 := by omega
        go_region
        all_goals
          have e1 : ((q : Int) + 1) = ((q + 1 : Nat) : Int) := by omega
          have Z6 : Blk (((((W8.setCell ⟨w.heap.size, 0, none⟩ (.slice sa7 out7.length sc7)).setCell ⟨w.heap.size + 1, 0, none⟩ (.int .i64 ((q : Int) + 1))).setCell ⟨w.heap.size + 1 + 1, 0, none⟩ (.int .i64 0)).setCell ⟨w.heap.size + 1 + 1, 1, none⟩ (.int .i64 0)).setCell ⟨w.heap.size + 1 + 1, 2, none⟩ (.int .i64 0)).drew w.heap.size [.slice sa7 out7.length sc7] 24 := Blk.drew <| ((((K6.out.set 0 _).setCell_other (a := ⟨w.heap.size + 1, 0, none⟩) n67 _).setCell_other (a := ⟨w.heap.size + 1 + 1, 0, none⟩) n68 _).setCell_other (a := ⟨w.heap.size + 1 + 1, 1, none⟩) n68 _).setCell_other (a := ⟨w.heap.size + 1 + 1, 2, none⟩) n68 _
          have Z7 : Blk (((((W8.setCell ⟨w.heap.size, 0, none⟩ (.slice sa7 out7.length sc7)).setCell ⟨w.heap.size + 1, 0, none⟩ (.int .i64 ((q : Int) + 1))).setCell ⟨w.heap.size + 1 + 1, 0, none⟩ (.int .i64 0)).setCell ⟨w.heap.size + 1 + 1, 1, none⟩ (.int .i64 0)).setCell ⟨w.heap.size + 1 + 1, 2, none⟩ (.int .i64 0)).drew (w.heap.size + 1) [.int .i64 ((q + 1 : Nat) : Int)] 3 := by
            rw [← e1]
            exact Blk.drew <| (((((K7.out.setCell_other (a := ⟨w.heap.size, 0, none⟩) n67.symm _).set 0 _)).setCell_other (a := ⟨w.heap.size + 1 + 1, 0, none⟩) n78 _).setCell_other (a := ⟨w.heap.size + 1 + 1, 1, none⟩) n78 _).setCell_other (a := ⟨w.heap.size + 1 + 1, 2, none⟩) n78 _
          have Z8 : Blk (((((W8.setCell ⟨w.heap.size, 0, none⟩ (.slice sa7 out7.length sc7)).setCell ⟨w.heap.size + 1, 0, none⟩ (.int .i64 ((q : Int) + 1))).setCell ⟨w.heap.size + 1 + 1, 0, none⟩ (.int .i64 0)).setCell ⟨w.heap.size + 1 + 1, 1, none⟩ (.int .i64 0)).setCell ⟨w.heap.size + 1 + 1, 2, none⟩ (.int .i64 0)).drew (w.heap.size + 1 + 1) [.int .i64 0, .int .i64 0, .int .i64 0] 27 := Blk.drew <| ((((K8.out.setCell_other (a := ⟨w.heap.size, 0, none⟩) n68.symm _).setCell_other (a := ⟨w.heap.size + 1, 0, none⟩) n78.symm _).set 0 _).set 1 _).set 2 _
          have ZB : Below w.heap.size w (((((W8.setCell ⟨w.heap.size, 0, none⟩ (.slice sa7 out7.length sc7)).setCell ⟨w.heap.size + 1, 0, none⟩ (.int .i64 ((q : Int) + 1))).setCell ⟨w.heap.size + 1 + 1, 0, none⟩ (.int .i64 0)).setCell ⟨w.heap.size + 1 + 1, 1, none⟩ (.int .i64 0)).setCell ⟨w.heap.size + 1 + 1, 2, none⟩ (.int .i64 0)).drew := (((((KB.out.setCell (by simp) _).setCell (by simp) _).setCell (by simp; omega) _).setCell (by simp; omega) _).setCell (by simp; omega) _).drew
          have ZL : (((((W8.setCell ⟨w.heap.size, 0, none⟩ (.slice sa7 out7.length sc7)).setCell ⟨w.heap.size + 1, 0, none⟩ (.int .i64 ((q : Int) + 1))).setCell ⟨w.heap.size + 1 + 1, 0, none⟩ (.int .i64 0)).setCell ⟨w.heap.size + 1 + 1, 1, none⟩ (.int .i64 0)).setCell ⟨w.heap.size + 1 + 1, 2, none⟩ (.int .i64 0)).drew.ownsRow (w.heap.size + 1 + 1 + 1 + 1) 43 2 (.slice sa7 out7.length sc7) out7.length (flatR out7) := ownsRow_drewR <| ownsRow_setCell_below (ownsRow_setCell_below (ownsRow_setCell_below (ownsRow_setCell_below (ownsRow_setCell_below KL.out (by dsimp only; omega) _) (by dsimp only; omega) _) (by dsimp only; omega) _) (by dsimp only; omega) _) (by dsimp only; omega) _
          have HZ6 := Lib.hid Z6; have HZ7 := Lib.hid Z7; have HZ8 := Lib.hid Z8; have HZB := Lib.hid ZB; have HZL := Lib.hid ZL
          clear Z6 Z7 Z8 ZB ZL e1
          go_wp2_with fail
          rw [HQ.out]
          exact cls_done _ (q + 1) out7 _ _ HZ6.out HZ7.out HZ8.out (fun W' c6 c7 c80 c81 c82 => by simp [results, Tryz.results8, go_sem, c6, c7, c80, c81, c82]) (Joins.ownsRow_le HZL.out (by omega)) (I7.out.congr fun c _ _ => by rw [hnt]) HZB.out

      · have hnt' : stands s (p + 1) [94] = false := Bool.eq_false_iff.2 hnt
        clear hnt
        go_wp2_with fail
        obtain ⟨W8, hW8⟩ : ∃ W8, W8 = wF.setCell ⟨w.heap.size, 0, none⟩ (.slice saF outF.length scF) := ⟨_, rfl⟩
        have K6 := Lib.hid (show Blk W8 w.heap.size [.slice saF outF.length scF] 24 by rw [hW8]; exact AF.out.k6.set 0 _)
        have K7 := Lib.hid (show Blk W8 (w.heap.size + 1) [.int .i64 0] 3 by rw [hW8]; exact AF.out.k7.setCell_other (a := ⟨w.heap.size, 0, none⟩) (by simp) _)
        have K8 := Lib.hid (show Blk W8 (w.heap.size + 1 + 1) [.int .i64 0, .int .i64 0, .int .i64 0] 27 by rw [hW8]; exact AF.out.k8.setCell_other (a := ⟨w.heap.size, 0, none⟩) (by simp; omega) _)
        have K9 := Lib.hid (show BrR W8 (w.heap.size + 1 + 1 + 1) s (q + 1) p perl by rw [hW8]; exact AF.out.rd.setCell_other (a := ⟨w.heap.size, 0, none⟩) (by simp; omega) _)
        have KB := Lib.hid (show Below w.heap.size w W8 by rw [hW8]; exact AF.out.bl.setCell (by simp) _)
        have KL := Lib.hid (show W8.ownsRow (w.heap.size + 1 + 1 + 1 + 1) 43 2 (.slice saF outF.length scF) outF.length (flatR outF) by rw [hW8]; exact ownsRow_setCell_below LF.out (by simp; omega) _)
        clear hf
        rw [← hW8]
        clear hW8
        clear c6 c7 c80 c81 c82 f6 f7 f80 f81 f82
        have c6 := Blk.cell K6.out (j := 0) rfl; have c7 := Blk.cell K7.out (j := 0) rfl; have c80 := Blk.cell K8.out (j := 0) rfl; have c81 := Blk.cell K8.out (j := 1) rfl; have c82 := Blk.cell K8.out (j := 2) rfl
        have f6 := K6.out.frozen 0; have f7 := K7.out.frozen 0; have f80 := K8.out.frozen 0; have f81 := K8.out.frozen 1; have f82 := K8.out.frozen 2
        have c9 := Rd.c1 K9.out
        have n67 : w.heap.size ≠ w.heap.size + 1 := by omega
        have n68 : w.heap.size ≠ w.heap.size + 1 + 1 := by omega
        have n78 : w.heap.size + 1 ≠ w.heap.size + 1 + 1 := by omega
        go_region
        all_goals
          have e1 : ((q : Int) + 1) = ((q + 1 : Nat) : Int) := by omega
          have Z6 : Blk (((((W8.setCell ⟨w.heap.size, 0, none⟩ (.slice saF outF.length scF)).setCell ⟨w.heap.size + 1, 0, none⟩ (.int .i64 ((q : Int) + 1))).setCell ⟨w.heap.size + 1 + 1, 0, none⟩ (.int .i64 0)).setCell ⟨w.heap.size + 1 + 1, 1, none⟩ (.int .i64 0)).setCell ⟨w.heap.size + 1 + 1, 2, none⟩ (.int .i64 0)).drew w.heap.size [.slice saF outF.length scF] 24 := Blk.drew <| ((((K6.out.set 0 _).setCell_other (a := ⟨w.heap.size + 1, 0, none⟩) n67 _).setCell_other (a := ⟨w.heap.size + 1 + 1, 0, none⟩) n68 _).setCell_other (a := ⟨w.heap.size + 1 + 1, 1, none⟩) n68 _).setCell_other (a := ⟨w.heap.size + 1 + 1, 2, none⟩) n68 _
          have Z7 : Blk (((((W8.setCell ⟨w.heap.size, 0, none⟩ (.slice saF outF.length scF)).setCell ⟨w.heap.size + 1, 0, none⟩ (.int .i64 ((q : Int) + 1))).setCell ⟨w.heap.size + 1 + 1, 0, none⟩ (.int .i64 0)).setCell ⟨w.heap.size + 1 + 1, 1, none⟩ (.int .i64 0)).setCell ⟨w.heap.size + 1 + 1, 2, none⟩ (.int .i64 0)).drew (w.heap.size + 1) [.int .i64 ((q + 1 : Nat) : Int)] 3 := by
            rw [← e1]
            exact Blk.drew <| (((((K7.out.setCell_other (a := ⟨w.heap.size, 0, none⟩) n67.symm _).set 0 _)).setCell_other (a := ⟨w.heap.size + 1 + 1, 0, none⟩) n78 _).setCell_other (a := ⟨w.heap.size + 1 + 1, 1, none⟩) n78 _).setCell_other (a := ⟨w.heap.size + 1 + 1, 2, none⟩) n78 _
          have Z8 : Blk (((((W8.setCell ⟨w.heap.size, 0, none⟩ (.slice saF outF.length scF)).setCell ⟨w.heap.size + 1, 0, none⟩ (.int .i64 ((q : Int) + 1))).setCell ⟨w.heap.size + 1 + 1, 0, none⟩ (.int .i64 0)).setCell ⟨w.heap.size + 1 + 1, 1, none⟩ (.int .i64 0)).setCell ⟨w.heap.size + 1 + 1, 2, none⟩ (.int .i64 0)).drew (w.heap.size + 1 + 1) [.int .i64 0, .int .i64 0, .int .i64 0] 27 := Blk.drew <| ((((K8.out.setCell_other (a := ⟨w.heap.size, 0, none⟩) n68.symm _).setCell_other (a := ⟨w.heap.size + 1, 0, none⟩) n78.symm _).set 0 _).set 1 _).set 2 _
          have ZB : Below w.heap.size w (((((W8.setCell ⟨w.heap.size, 0, none⟩ (.slice saF outF.length scF)).setCell ⟨w.heap.size + 1, 0, none⟩ (.int .i64 ((q : Int) + 1))).setCell ⟨w.heap.size + 1 + 1, 0, none⟩ (.int .i64 0)).setCell ⟨w.heap.size + 1 + 1, 1, none⟩ (.int .i64 0)).setCell ⟨w.heap.size + 1 + 1, 2, none⟩ (.int .i64 0)).drew := (((((KB.out.setCell (by simp) _).setCell (by simp) _).setCell (by simp; omega) _).setCell (by simp; omega) _).setCell (by simp; omega) _).drew
          have ZL : (((((W8.setCell ⟨w.heap.size, 0, none⟩ (.slice saF outF.length scF)).setCell ⟨w.heap.size + 1, 0, none⟩ (.int .i64 ((q : Int) + 1))).setCell ⟨w.heap.size + 1 + 1, 0, none⟩ (.int .i64 0)).setCell ⟨w.heap.size + 1 + 1, 1, none⟩ (.int .i64 0)).setCell ⟨w.heap.size + 1 + 1, 2, none⟩ (.int .i64 0)).drew.ownsRow (w.heap.size + 1 + 1 + 1 + 1) 43 2 (.slice saF outF.length scF) outF.length (flatR outF) := ownsRow_drewR <| ownsRow_setCell_below (ownsRow_setCell_below (ownsRow_setCell_below (ownsRow_setCell_below (ownsRow_setCell_below KL.out (by dsimp only; omega) _) (by dsimp only; omega) _) (by dsimp only; omega) _) (by dsimp only; omega) _) (by dsimp only; omega) _
          have HZ6 := Lib.hid Z6; have HZ7 := Lib.hid Z7; have HZ8 := Lib.hid Z8; have HZB := Lib.hid ZB; have HZL := Lib.hid ZL
          clear Z6 Z7 Z8 ZB ZL e1
          go_wp2_with fail
          rw [HQ.out]
          exact cls_done _ (q + 1) outF _ _ HZ6.out HZ7.out HZ8.out (fun W' c6 c7 c80 c81 c82 => by simp [results, Tryz.results8, go_sem, c6, c7, c80, c81, c82]) (Joins.ownsRow_le HZL.out (by omega)) (IF.out.congr fun c _ _ => by rw [hnt']; simp) HZB.out
    · go_wp2_with fail
      refine (br_has_no (w.heap.size + 1 + 1 + 1) s ⟨#[93]⟩ q _ _ _ HH.out.a.rd hq4 (Bool.eq_false_iff.2 h93)).mono ?_
      rintro e w5 ⟨rfl, hR, hG⟩
      have A5 := Lib.hid (HH.out.a.grown hG hR)
      have V5 := Lib.hid (HH.out.v.grown hG (by omega))
      have T5 := Lib.hid (HT.out.below A5.out.bl)
      clear hR hG
      cases hiq : itemP s q perl p with
      | wrong x a b =>
        have HIQ := Lib.hid hiq; clear hiq
        go_wp2_with fail
        have C5 := Lib.hid (show AllV w5 (w.heap.size + 1 + 1 + 1 + 1) (.slice sa4 out4.length out4.length) out4 from AllV.cut V5.out)
        have hcc : (out4.length : Int) ≤ (sc4 : Int) := by omega
        have HQ := Lib.hid (show clsQ s p perl (some foldF) = .wrong x a b by
          have h1 := HH.out.r
          unfold restP at h1
          rw [if_neg h93, HIQ.out] at h1
          unfold clsQ clsP
          rw [hn, HI.out]
          simp only [not_true, if_false]
          rw [← HR.out, ← h1])
        rcases hv4 with ⟨rfl, rfl, rfl⟩ | ⟨g4, cur4, rfl, hg4, hx4, hy4⟩
        all_goals
          refine Code.wp_mono (Q := PanQ w x a b) ?_ ?_
          rotate_left
          refine wp_region_any (by kernel_rfl) ?_
          refine wpAny_take (i := 0) (v := ?_) rfl (by kernel_rfl) (by kernel_rfl) (by kernel_rfl) (by exact fun _ _ _ h => PanQ.put (k := 41) (by decide) h) (Or.inl ⟨by rfl, ?_⟩) ?_
          rotate_left
          · (intro W'; go_simp; try with_reducible rfl)
          refine wpAny_take (i := 1) (v := ?_) rfl (by kernel_rfl) (by kernel_rfl) (by kernel_rfl) (by exact fun _ _ _ h => PanQ.put (k := 42) (by decide) h) (Or.inl ⟨by rfl, ?_⟩) ?_
          rotate_left
          · (intro W'; go_simp; try with_reducible rfl)
          refine wpAny_take (i := 2) (v := ?_) rfl (by kernel_rfl) (by kernel_rfl) (by kernel_rfl) (by exact fun _ _ _ h => PanQ.put (k := 43) (by decide) h) (Or.inl ⟨by rfl, ?_⟩) ?_
          rotate_left
          · (intro W'; go_simp; try with_reducible rfl)
          refine wpAny_take (i := 3) (v := ?_) rfl (by kernel_rfl) (by kernel_rfl) (by kernel_rfl) (by exact fun _ _ _ h => PanQ.put (k := 44) (by decide) h) (Or.inl ⟨by rfl, ?_⟩) ?_
          rotate_left
          · (intro W'; go_simp; try with_reducible rfl)
          refine wpAny_take (i := 4) (v := ?_) rfl (by kernel_rfl) (by kernel_rfl) (by kernel_rfl) (by exact fun _ _ _ h => PanQ.put (k := 45) (by decide) h) (Or.inl ⟨by rfl, ?_⟩) ?_
          rotate_left
          · (intro W'; go_simp; try with_reducible rfl)
          refine wpAny_take (i := 5) (v := ?_) rfl (by kernel_rfl) (by kernel_rfl) (by kernel_rfl) (by exact fun _ _ _ h => PanQ.put (k := 46) (by decide) h) (Or.inl ⟨by rfl, ?_⟩) ?_
          rotate_left
          · (intro W'; go_simp; try with_reducible rfl)
          refine wpAny_take (i := 6) (v := ?_) rfl (by kernel_rfl) (by kernel_rfl) (by kernel_rfl) (by exact fun _ _ _ h => PanQ.put (k := 47) (by decide) h) (Or.inl ⟨by rfl, ?_⟩) ?_
          rotate_left
          · (intro W'; go_simp; try with_reducible rfl)
          refine wpAny_ready (rs := [7]) (by kernel_rfl) (by simp) ?_
          refine AllReady.cons rfl (fun K hK => ?_) AllReady.nil
          go_simp
          go_at_call 20
          refine (item_any (w.heap.size + 1 + 1 + 1) s q p perl _ (Blk.drew A5.out.rd) T5.out (by omega) (by omega) hq4 (by omega)).mono ?_
          rw [HIQ.out]
          rintro e w6 ⟨hG, rfl⟩
          exact ⟨rfl, rfl, rfl, rfl, rfl, A5.out.blk (grownBy_trans (grownBy_drew _ _) hG)⟩
          rintro e f W hq
          cases e with
          | panic c =>
            show bodyPostD Tryz.prog Tryz.f8 (ClsOut w (clsQ s p perl (some foldF))) (.panic c) f W
            rw [HQ.out]
            exact PanQ.door hq
          | _ => exact hq.elim
      | ok f5 q5 =>
        have HIQ := Lib.hid hiq; clear hiq
        have hq5 := itemP_q hq4 HIQ.out
        have hl5 := HH.out.l
        have hlt5 := A5.out.rd.lt
        have C5 := Lib.hid (show AllV w5 (w.heap.size + 1 + 1 + 1 + 1) (.slice sa4 out4.length out4.length) out4 from AllV.cut V5.out)
        have hcc : (out4.length : Int) ≤ (sc4 : Int) := by omega
        rcases hv4 with ⟨rfl, rfl, rfl⟩ | ⟨g4, cur4, rfl, hg4, hx4, hy4⟩
        · go_wp2_with fail
          go_region_held3 (fun _ => True) (trivial) (first
            | (go_at_call 20; refine (item_any (w.heap.size + 1 + 1 + 1) s q p perl _ (Blk.drew A5.out.rd) T5.out (by omega) (by omega) hq4 (by omega)).mono ?_; rw [HIQ.out]; rintro e w6 ⟨hG, v5, out5, rfl, hL5, hM5, hN5, hR5⟩; have C6 := Lib.hid (AllV.grown C5.out (grownBy_trans (grownBy_drew _ _) hG) (by omega)); have A6 := Lib.hid (A5.out.grown (grownBy_trans (grownBy_drew _ _) hG) hR5); have HL6 := Lib.hid hL5; have HM6 := Lib.hid hM5; have HN6 := Lib.hid hN5; clear hG hL5 hM5 hR5)
            | (refine step_append_full (by rfl) (.tmp 46) (.tmp 48) (by rfl) (w.heap.size + 1 + 1 + 1 + 1) _ none [] out5 v5 (by rfl) (by rfl) C6.out HL6.out (by simp; omega) (by have := A6.out.rd.lt; omega) ?_; intro v7 w7 hv7 hg7))
          have hg7' : w6.grownBy w7 (some (w.heap.size + 1 + 1 + 1)) := grownBy_below (below_grownBy hg7) _
          have A7 := Lib.hid (A6.out.grown hg7' (Rd.below A6.out.rd (below_grownBy hg7) A6.out.rd.lt))
          have HV7 := Lib.hid hv7
          clear hg7 hg7' hv7
          go_wp2_with fail
          go_roundg m
          case rel => exact ⟨q5, fun c => g c || f5 c, [] ++ out5, A7.out, HV7.out, fun c h0 h1 => by rw [memR_append, HH.out.m c h0 h1, HM6.out c h0 h1], by have := HN6.out; simp only [List.length_append]; omega, hq5.2, by have := HH.out.i; omega, by
            have h1 := HH.out.r
            unfold restP at h1
            rw [if_neg h93, HIQ.out] at h1
            exact h1⟩
          case measure => omega
        · go_wp2_with fail
          go_region_held3 (fun _ => True) (trivial) (first
            | (go_at_call 20; refine (item_any (w.heap.size + 1 + 1 + 1) s q p perl _ (Blk.drew A5.out.rd) T5.out (by omega) (by omega) hq4 (by omega)).mono ?_; rw [HIQ.out]; rintro e w6 ⟨hG, v5, out5, rfl, hL5, hM5, hN5, hR5⟩; have C6 := Lib.hid (AllV.grown C5.out (grownBy_trans (grownBy_drew _ _) hG) (by omega)); have A6 := Lib.hid (A5.out.grown (grownBy_trans (grownBy_drew _ _) hG) hR5); have HL6 := Lib.hid hL5; have HM6 := Lib.hid hM5; have HN6 := Lib.hid hN5; clear hG hL5 hM5 hR5)
            | (refine step_append_full (by rfl) (.tmp 46) (.tmp 48) (by rfl) (w.heap.size + 1 + 1 + 1 + 1) _ (some ⟨g4, 0, none⟩) out4 out5 v5 (by rfl) (by rfl) C6.out HL6.out (by omega) (by have := A6.out.rd.lt; omega) ?_; intro v7 w7 hv7 hg7))
          have hg7' : w6.grownBy w7 (some (w.heap.size + 1 + 1 + 1)) := grownBy_below (below_grownBy hg7) _
          have A7 := Lib.hid (A6.out.grown hg7' (Rd.below A6.out.rd (below_grownBy hg7) A6.out.rd.lt))
          have HV7 := Lib.hid hv7
          clear hg7 hg7' hv7
          go_wp2_with fail
          go_roundg m
          case rel => exact ⟨q5, fun c => g c || f5 c, out4 ++ out5, A7.out, HV7.out, fun c h0 h1 => by rw [memR_append, HH.out.m c h0 h1, HM6.out c h0 h1], by have := HN6.out; simp only [List.length_append]; omega, hq5.2, by have := HH.out.i; omega, by
            have h1 := HH.out.r
            unfold restP at h1
            rw [if_neg h93, HIQ.out] at h1
            exact h1⟩
          case measure => omega
end Go.Proofs.YtnafemcholkmlaaGreatDoor
