/- slices.insertionSortOrdered at runes. tables.Orbit: its parts. -/
import Derived.Test.YtnhnldmldnhaoaaGreatDoorDSetsNot
import Derived.IntWalk
import Derived.Maps.AppendAt
import Derived.Deep.AppendLies
namespace Go.Proofs.YtnhnldmldnhaoaaGreatDoor
open Go Go.RowKit Go.Proofs

theorem cmp_LessQ (x y : Int) (b : Bool) (h : decide (x < y) = b) (w : World) : Calls Tryz.prog 120 #[.int .i32 x, .int .i32 y] w fun e w' => e = .returned (.bool b) ∧ w' = w :=
  (cmp_Less x y w).mono fun _ _ ⟨he, hw⟩ => ⟨by rw [he, h], hw.symm⟩
/-- The row within the sort. -/
structure InsAt (w : World) (B g cap : Nat) (xs : List Int) (W : World) (ys : List Int) : Prop where
  p : ys.Perm xs
  r : W.ownsRow B 21 1 (.slice (some ⟨g, 0, none⟩) xs.length cap) xs.length (vR ys)
  g : w.grownBy W (some g)
theorem InsAt.cell {w W : World} {B g cap : Nat} {xs ys : List Int} (h : InsAt w B g cap xs W ys) (j : Nat) (hj : j < xs.length) : W.cell? ⟨g, j, none⟩ = some (.int .i32 (ys[j]'(by rw [h.p.length_eq]; exact hj))) := by
  rw [h.r.cellAt j (by omega), vR_get ys j (by rw [h.p.length_eq]; exact hj)]
theorem InsAt.look {w W : World} {B g cap : Nat} {xs ys : List Int} (h : InsAt w B g cap xs W ys) (j : Nat) (hj : j < xs.length) : ∃ x, ys[j]? = some x ∧ W.cell? ⟨g, j, none⟩ = some (.int .i32 x) :=
  ⟨_, List.getElem?_eq_getElem (by rw [h.p.length_eq]; exact hj), h.cell j hj⟩
theorem swap_at {ys : List Int} {k : Nat} {x y : Int} (h1 : ys[k + 1]? = some x) (h0 : ys[k]? = some y) : ((ys.set k x).set (k + 1) y).Perm ys := by
  obtain ⟨l1, e1⟩ := List.getElem?_eq_some_iff.1 h1
  obtain ⟨l0, e0⟩ := List.getElem?_eq_some_iff.1 h0
  have := swap_perm ys (k + 1) (by omega) l1
  simp only [Nat.add_sub_cancel] at this
  rw [e1, e0] at this
  exact this
theorem InsAt.swap {w W : World} {B g cap : Nat} {xs ys : List Int} (h : InsAt w B g cap xs W ys) {k : Nat} {x y : Int} (h1 : ys[k + 1]? = some x) (h0 : ys[k]? = some y) :
    InsAt w B g cap xs ((W.setCell ⟨g, k + 1, none⟩ (.int .i32 y)).setCell ⟨g, k, none⟩ (.int .i32 x)) ((ys.set k x).set (k + 1) y) := by
  have s1 := h.r.stored (k + 1) (.int .i32 y)
  have s2 := s1.1.stored k (.int .i32 x)
  refine ⟨(swap_at h1 h0).trans h.p, ?_, grownBy_trans h.g (grownBy_trans s1.2 s2.2)⟩
  have e : vR ((ys.set k x).set (k + 1) y) = ((vR ys).set (k + 1) (.int .i32 y)).set k (.int .i32 x) := by
    unfold vR
    rw [List.set_comm _ _ (by omega), List.map_set, List.map_set]
  rw [e]
  exact s2.1
theorem InsAt.drew1 {w W : World} {B g cap : Nat} {xs ys : List Int} (h : InsAt w B g cap xs W ys) : InsAt w B g cap xs W.drew ys := ⟨h.p, h.r, grownBy_trans h.g (grownBy_drew _ _)⟩
theorem InsAt.drew {w W : World} {B g cap : Nat} {xs ys : List Int} (h : InsAt w B g cap xs W ys) (n : Nat) : InsAt w B g cap xs (W.drewN n) ys := ⟨h.p, h.r, grownBy_trans h.g (grownBy_drewN _ _ _)⟩

set_option maxRecDepth 100000 in
set_option maxHeartbeats 2000000 in
theorem insertion_runes (xs : List Int) (B g cap : Nat) (w : World) (h : w.ownsRow B 21 1 (.slice (some ⟨g, 0, none⟩) xs.length cap) xs.length (vR xs)) (h0 : 0 < xs.length) (hcap : xs.length ≤ cap) (hcm : cap ≤ 9223372036854775807) :
    Calls Tryz.prog 114 #[.slice (some ⟨g, 0, none⟩) xs.length cap, .int .i64 0, .int .i64 xs.length] w fun e w' => e = .returned (.tuple #[]) ∧ SortedR w B g cap xs w' := by
  have HA := Lib.hid (show InsAt w B g cap xs w xs from ⟨List.Perm.refl _, h, grownBy_refl _ _⟩); clear h
  go_enter Tryz.func114, Tryz.ntmps114
  go_wp2_with fail
  go_loopw [6] (fun iv W => ∃ (i : Nat) (ys : List Int), 1 ≤ i ∧ i ≤ xs.length ∧ iv = .int .i64 i ∧ InsAt w B g cap xs W ys) (fun iv _ => xs.length - (intOf iv).toNat)
  case atStart => exact ⟨1, xs, Nat.le_refl _, h0, rfl, HA.out⟩
  case round =>
    obtain ⟨i, ys, hi1, hi2, rfl, hA⟩ := hrel
    have A1 := Lib.hid hA; clear hA
    obtain ⟨wo, hwo⟩ : ∃ wo : World, wo = wr := ⟨_, rfl⟩
    by_cases hlt : i < xs.length
    · go_wp2_with fail
      go_loopw [7] (fun jv W => ∃ (j : Nat) (ys : List Int), j ≤ i ∧ jv = .int .i64 j ∧ InsAt w B g cap xs W ys) (fun jv _ => (intOf jv).toNat)
      case atStart => exact ⟨i, ys, Nat.le_refl _, rfl, A1.out⟩
      case round =>
        obtain ⟨j, zs, hj, rfl, hZ⟩ := hrel
        have Z1 := Lib.hid hZ; clear hZ
        by_cases hj0 : j = 0
        · subst hj0
          have d0 : decide ((0 : Int) < 0) = false := by decide
          go_wp2_with fail
          go_quiet (fail)
          go_wp2_with fail
          go_roundw
          case rel => exact ⟨i + 1, zs, by omega, hlt, by go_num, Z1.out.drew _⟩
          case measure => simp [intOf]; omega
        · obtain ⟨k, rfl⟩ : ∃ k, j = k + 1 := ⟨j - 1, by omega⟩
          obtain ⟨x, hx, g1⟩ := Z1.out.look (k + 1) (by omega)
          obtain ⟨y, hy, g0⟩ := Z1.out.look k (by omega)
          have f1 := Z1.out.r.frozenAt (k + 1)
          have f0 := Z1.out.r.frozenAt k
          have hk : k < xs.length := by omega
          have hk1 : k + 1 < xs.length := by omega
          have hk2 : (k : Int) + 1 < (xs.length : Int) := by omega
          have hk3 : (k : Int) < (xs.length : Int) := by omega
          have hk4 : (0 : Int) ≤ (k : Int) + 1 := by omega
          have hk5 : (0 : Int) ≤ (k : Int) := by omega
          have hk6 : ((k : Int) + 1).toNat = k + 1 := by omega
          have hk7 : IntKind.i64.wrap (k : Int) = (k : Int) := IntWalk.i64_in _ (by omega)
          have HX := Lib.hid hx; have HY := Lib.hid hy
          clear hx hy
          have d0 : decide ((0 : Int) < (k : Int) + 1) = true := decide_eq_true (by omega)
          by_cases hxy : x < y
          · have dx : decide (x < y) = true := decide_eq_true hxy
            go_wp2_with fail
            go_quiet ((go_at_call 120; exact Calls.quiet_of_same (cmp_LessQ _ _ _ dx _)))
            go_wp2_with fail
            generalize hW5 : wr.drewN _ = W5
            have Z5 := Lib.hid (show InsAt w B g cap xs W5 zs by rw [← hW5]; exact Z1.out.drew _)
            have e1 : W5.cell? ⟨g, k + 1, none⟩ = some (.int .i32 x) := by rw [← hW5]; exact g1
            have e0 : W5.cell? ⟨g, k, none⟩ = some (.int .i32 y) := by rw [← hW5]; exact g0
            have u1 : W5.frozen? ⟨g, k + 1, none⟩ = false := by rw [← hW5]; exact f1
            have u0 : W5.frozen? ⟨g, k, none⟩ = false := by rw [← hW5]; exact f0
            clear hW5 g1 g0 f1 f0
            go_region
            have Z7 := Lib.hid (InsAt.drew1 (Z5.out.swap HX.out HY.out))
            clear e1 e0 u1 u0
            go_wp2_with fail
            go_roundw
            case rel => exact ⟨k, _, by omega, by go_num, Z7.out⟩
            case measure => simp [intOf]; try omega
          · have dx : decide (x < y) = false := decide_eq_false hxy
            go_wp2_with fail
            go_quiet ((go_at_call 120; exact Calls.quiet_of_same (cmp_LessQ _ _ _ dx _)))
            go_wp2_with fail
            go_roundw
            case rel => exact ⟨i + 1, zs, by omega, hlt, by go_num, Z1.out.drew _⟩
            case measure => simp [intOf]; omega
    · obtain rfl : i = xs.length := by omega
      go_wp2_with fail
      go_end0
      exact ⟨rfl, ys, A1.out.p, A1.out.r, A1.out.g⟩

set_option maxRecDepth 100000 in
set_option maxHeartbeats 2000000 in
theorem pdq_runes (xs : List Int) (B g cap : Nat) (l : Int) (w : World) (h : w.ownsRow B 21 1 (.slice (some ⟨g, 0, none⟩) xs.length cap) xs.length (vR xs)) (h0 : 0 < xs.length) (hn : xs.length ≤ 12) (hcap : xs.length ≤ cap) (hcm : cap ≤ 9223372036854775807) :
    Calls Tryz.prog 92 #[.slice (some ⟨g, 0, none⟩) xs.length cap, .int .i64 0, .int .i64 xs.length, .int .i64 l] w fun e w' => e = .returned (.tuple #[]) ∧ SortedR w B g cap xs w' := by
  have HI := Lib.hid (insertion_runes xs B g cap w h h0 hcap hcm); clear h
  have hle : (xs.length : Int) ≤ 12 := by omega
  go_enter Tryz.func92, Tryz.ntmps92
  go_wp2_with fail
  go_loopg [1, 2] 1 (fun k a b W => a = .int .i64 0 ∧ b = .int .i64 xs.length ∧ W = w)
  case atStart => exact ⟨rfl, rfl, rfl⟩
  case round =>
    obtain ⟨rfl, rfl, rfl⟩ := hrel
    go_wp2_with fail
    refine (HI.out).mono ?_
    rintro e w1 ⟨rfl, hS⟩
    have HS := Lib.hid hS; clear hS
    go_wp2_with fail
    refine ⟨rfl, .tuple #[], by simp [results, Tryz.results92], rfl, HS.out⟩
theorem sort_runes (xs : List Int) (B g cap : Nat) (w : World) (h : w.ownsRow B 21 1 (.slice (some ⟨g, 0, none⟩) xs.length cap) xs.length (vR xs)) (h0 : 0 < xs.length) (hn : xs.length ≤ 12) (hcap : xs.length ≤ cap) (hcm : cap ≤ 9223372036854775807) :
    Calls Tryz.prog 74 #[.slice (some ⟨g, 0, none⟩) xs.length cap] w fun e w' => e = .returned (.tuple #[]) ∧ SortedR w B g cap xs w' := by
  have HP := Lib.hid (fun l => pdq_runes xs B g cap l w h h0 hn hcap hcm); clear h
  go_enter Tryz.func74, Tryz.ntmps74
  go_wp2_with fail
  refine (Tryz.bits_Len _ _ (by omega) (by omega)).mono ?_
  rintro e w1 ⟨rfl, rfl⟩
  go_wp2_with fail
  refine (HP.out _).mono ?_
  rintro e w1 ⟨rfl, hS⟩
  have HS := Lib.hid hS; clear hS
  go_wp2_with fail
  go_end0
  exact ⟨rfl, HS.out⟩
end Go.Proofs.YtnhnldmldnhaoaaGreatDoor

namespace Go.Proofs.YtnhnldmldnhaoaaGreatDoor
open Go Go.RowKit Go.Proofs

/-- All but some blocks kept. -/
structure Kept (w w' : World) (bad : Nat → Prop) : Prop where
  os : w'.os = w.os
  tape : w'.tape = w.tape
  output : w'.output = w.output
  size : w.heap.size ≤ w'.heap.size
  block : ∀ k, k < w.heap.size → ¬ bad k → w'.heap[k]? = w.heap[k]?
theorem Kept.refl (w : World) (bad : Nat → Prop) : Kept w w bad := ⟨rfl, rfl, rfl, Nat.le_refl _, fun _ _ _ => rfl⟩
theorem Kept.of_grown {w w' : World} {row : Option Nat} {bad : Nat → Prop} (h : w.grownBy w' row) (hb : ∀ k, row = some k → bad k) : Kept w w' bad :=
  ⟨h.os, h.tape, h.output, h.size, fun k hk hn => h.block k hk (fun e => hn (hb k e.symm))⟩
theorem Kept.trans {a b c : World} {bad : Nat → Prop} (h : Kept a b bad) (k : Kept b c bad) : Kept a c bad :=
  ⟨k.os.trans h.os, k.tape.trans h.tape, k.output.trans h.output, Nat.le_trans h.size k.size, fun i hi hn => (k.block i (Nat.lt_of_lt_of_le hi h.size) hn).trans (h.block i hi hn)⟩
theorem Kept.blk {w w' : World} {bad : Nat → Prop} {b : Nat} {cs : List Value} {t : TypeId} (h : Kept w w' bad) (hb : Blk w b cs t) (hn : ¬ bad b) : Blk w' b cs t := Blk.of_block hb (h.block b hb.lt hn)
theorem Kept.below {w w' : World} {B : Nat} {bad : Nat → Prop} (h : Kept w w' bad) (hb : B ≤ w.heap.size) (hn : ∀ k, bad k → B ≤ k) : Below B w w' :=
  ⟨h.os, h.tape, h.output, h.size, fun k hk => h.block k (Nat.lt_of_lt_of_le hk hb) (fun e => by have := hn k e; omega)⟩

/-- What the closure add leaves. -/
def AddOut (w : World) (bo B : Nat) (v : Value) (out : List Int) (e : Ending) (w' : World) : Prop :=
  e = .returned (.tuple #[]) ∧ ∃ v' : Value, Blk w' bo [v'] 97 ∧ OwnR w' B v' out ∧ v'.ownBlock ≠ some bo ∧ (v'.ownBlock = v.ownBlock ∨ ∃ k, v'.ownBlock = some k ∧ w.heap.size ≤ k) ∧ Kept w w' (fun k => k = bo ∨ v.ownBlock = some k)
theorem infoI32 : (Tryz.prog.info? 21).map (fun i => (i.zero, i.size, i.bytes)) = some (some (.int .i32 0), 1, 4) := by kernel_rfl
set_option maxRecDepth 100000 in
set_option maxHeartbeats 2000000 in
theorem orbit_add_old (x : Int) (bo g cap : Nat) (out : List Int) (w : World) (B : Nat) (hb : Blk w bo [.slice (some ⟨g, 0, none⟩) out.length cap] 97) (ho : OwnR w B (.slice (some ⟨g, 0, none⟩) out.length cap) out) (hne : g ≠ bo) (hl : out.length ≤ 1000) (hx : out.contains x = true) :
    Calls Tryz.prog 71 #[.int .i32 x, .pointer (some ⟨bo, 0, none⟩)] w (AddOut w bo B (.slice (some ⟨g, 0, none⟩) out.length cap) out) := by
  have HO := Lib.hid ho; have HB := Lib.hid hb
  have c0 := Blk.cell hb (j := 0) rfl
  have HC := Lib.hid (runes_Contains out g 0 cap x w (fun k hk => by rw [Nat.zero_add, ho.cellAt k (by omega), vR_get out k hk]) (by omega))
  clear hb ho
  go_enter Tryz.func71, Tryz.ntmps71
  go_wp2_with fail
  refine (HC.out).mono ?_
  rintro e w1 ⟨rfl, rfl⟩
  rw [hx]
  go_wp2_with fail
  go_end0
  exact ⟨rfl, _, HB.out, HO.out, by show (some g) ≠ some bo; exact ne_some hne, .inl rfl, Kept.refl _ _⟩
set_option maxRecDepth 100000 in
set_option maxHeartbeats 2000000 in
theorem orbit_add_new (x : Int) (bo g cap : Nat) (out : List Int) (w : World) (B : Nat) (hb : Blk w bo [.slice (some ⟨g, 0, none⟩) out.length cap] 97) (ho : OwnR w B (.slice (some ⟨g, 0, none⟩) out.length cap) out) (hne : g ≠ bo) (hl : out.length ≤ 1000) (hx : out.contains x = false) :
    Calls Tryz.prog 71 #[.int .i32 x, .pointer (some ⟨bo, 0, none⟩)] w (AddOut w bo B (.slice (some ⟨g, 0, none⟩) out.length cap) (out ++ [x])) := by
  obtain ⟨i0, hi, hz0, hz1, hz2⟩ := info_parts infoI32
  have HO := Lib.hid ho; have HB := Lib.hid hb
  have c0 := Blk.cell hb (j := 0) rfl
  have f0 := hb.frozen 0
  have hlt := hb.lt
  have HC := Lib.hid (runes_Contains out g 0 cap x w (fun k hk => by rw [Nat.zero_add, ho.cellAt k (by omega), vR_get out k hk]) (by omega))
  have hBg := ho.lt g rfl
  clear hb ho
  go_enter Tryz.func71, Tryz.ntmps71
  go_wp2_with fail
  refine (HC.out).mono ?_
  rintro e w1 ⟨rfl, rfl⟩
  rw [hx]
  go_wp2_with (at_builtin; refine wpList_append_own_at _ rfl _ _ 97 rfl B 21 i0 (.int .i32 0) 1 4 Tryz.underlying97 hi hz0 hz1 hz2 rfl (by decide) (.slice (some ⟨g, 0, none⟩) out.length cap) out.length (vR out) rfl (HO.out.alloc (.cells #[.int .i32 x] 21)) ⟨w1.heap.size, 0, none⟩ 1 1 [.int .i32 x] rfl rfl (cell_one_new _ _ _) (by intro u hu; rw [List.mem_singleton] at hu; subst hu; rfl) (by unfold maxLen; omega) (by omega) (by simp; omega) ?_; intro v' w2 hown hgrow hiff)
  intro hat
  clear hiff
  obtain ⟨g2, cap2, rfl, hgb, hgl⟩ := World.ownsRow.form hown (Nat.succ_pos out.length)
  have B2 := Lib.hid ((HB.out.alloc (.cells #[.int .i32 x] 21)).grown hgrow (fun e => hne (Option.some.inj e).symm))
  have c2 := Blk.cell B2.out (j := 0) rfl
  have f2 := B2.out.frozen 0
  have HW := Lib.hid hown
  have HG := Lib.hid hgrow
  have HA := Lib.hid hat
  clear hown hgrow hat c0 f0
  go_wp2_with fail
  go_end0
  have hz2 := HG.out.size
  have hg2 : g2 ≠ bo := by
    rcases HA.out with h | h
    · simp [Value.ownBlock] at h; omega
    · simp [Value.ownBlock] at h; omega
  refine ⟨rfl, .slice (some ⟨g2, 0, none⟩) (out.length + 1) cap2, B2.out.set 0 _, ?_, ?_, ?_, ?_⟩
  · unfold OwnR
    have := ownsRow_setCell_other (a := ⟨bo, 0, none⟩) HW.out (by simpa [Value.ownBlock] using hg2) (.slice (some ⟨g2, 0, none⟩) (out.length + 1) cap2)
    simpa [vR] using this
  · simpa [Value.ownBlock] using hg2
  · rcases HA.out with h | h
    · exact .inl h
    · exact .inr ⟨_, h, by omega⟩
  · have k1 : Kept w1 (w1.alloc (.cells #[.int .i32 x] 21)) (fun k => k = bo ∨ (Value.slice (some ⟨g, 0, none⟩) out.length cap).ownBlock = some k) := Kept.of_grown (grownBy_alloc w1 _ none) (by simp)
    exact (k1.trans (Kept.of_grown HG.out fun k h => .inr h)).trans (Kept.of_grown (grownBy_setCell w2 bo 0 _) fun k h => .inl (Option.some.inj h).symm)

/-- The contract of the closure add. -/
theorem orbit_add (x : Int) (bo : Nat) (v : Value) (out : List Int) (w : World) (B : Nat) (hb : Blk w bo [v] 97) (ho : OwnR w B v out) (hne : v.ownBlock ≠ some bo) (h0 : 0 < out.length) (hl : out.length ≤ 1000) :
    Calls Tryz.prog 71 #[.int .i32 x, .pointer (some ⟨bo, 0, none⟩)] w (AddOut w bo B v (addU out x)) := by
  obtain ⟨g, cap, rfl, _, _⟩ := World.ownsRow.form ho h0
  have hg : g ≠ bo := fun e => hne (by rw [e]; rfl)
  unfold addU
  cases hx : out.contains x with
  | true => rw [if_pos rfl]; exact orbit_add_old x bo g cap out w B hb ho hg hl hx
  | false => rw [if_neg (by simp)]; exact orbit_add_new x bo g cap out w B hb ho hg hl hx
end Go.Proofs.YtnhnldmldnhaoaaGreatDoor
