/- BracketsUnion: a class of two lists of runes by their numbers has what both have, whatever lists of ranges within the form's reach, the law returns true and leaves the memory that was there as it was. The library's tables are as the row lists them; no further condition. -/
import Derived.Test.YtnafemcholkmlaaGreatDoorUBrFull
import Derived.Test.YtnafemcholkmlaaGreatDoorCards
import Derived.Test.YtnafemcholkmlaaGreatDoorTie
import Derived.ProofKit
import Derived.OpenShut
import Derived.Lay
import Derived.LaidMore
import Derived.SizedLaws
import Derived.SevenTiedAt
import Derived.Carry
namespace Go.Proofs.YtnafemcholkmlaaGreatDoor
open Go Go.Proofs Go.ChangeShapes Go.WideShapes Go.ChangeAt Go.WideMaps Go.WideElems Go.RowKit
open Go.ChangeMaps (open_string shut_string)

namespace RowBracketsUnion
theorem own : ownKnob Tryz.prog.godebug = none := by kernel_rfl
theorem laidOut : laidOutB Tryz.prog = true := by kernel_rfl
set_option maxRecDepth 100000 in
theorem lifted (os : Os) (started : os.Started) (H : Type) (enc : TypeId × Value → H) :
    ReturnsInHanded {} Tryz.checked os 6 .any (fun w args => (Rows.bracketsUnionSpec.pre enc Tryz.prog Tryz.f6 [] false w args ∧ laidMetH Tryz.prog Rows.bracketsUnionRow.laid w) ∧ sizedMet enc Tryz.prog Tryz.f6 (OpenSpec.ofChange Rows.bracketsUnionSpec) false w args)
      (Rows.bracketsUnionSpec.post enc Tryz.prog Tryz.f6 false true false false) := by
  refine returnsInHanded_of_change_and (C := Tryz.checked) (X := fun w _ => laidMetH Tryz.prog Rows.bracketsUnionRow.laid w) (fun _ _ _ hh h => h.of_heap hh) own started (by kernel_rfl) Tryz.func6
    (ChangeSpec.witness_shaped (enc := enc) (C := Tryz.checked) (os := os) (X := fun w _ => laidMetH Tryz.prog Rows.bracketsUnionRow.laid w) false (World.laidAll Tryz.prog os Rows.bracketsUnionRow.laid) #[.slice none 0 0, .slice none 0 0, .int .i64 0] 8 (World.laidAll_os _ _ _)
      (World.shaped_of_ZipB (by kernel_rfl) (by kernel_rfl)) (by kernel_rfl) (by kernel_rfl) (by kernel_rfl)
      (by rw [MakeChecks.laidMetH_plain _ _ _ (by kernel_rfl)]; exact laidMet_laidAll _ (by kernel_rfl) (by kernel_rfl))) ?_
  intro W base args ds gs before hval0 hW _ hz hX _
  have hval : ∀ (j : Nat) t v, Tryz.f6.params[j]? = some t → args[j]? = some v → Value.okWide Tryz.prog W .any base t v := hval0
  have hW' := hW
  obtain ⟨p, q, hA0, hV, rfl, _, _⟩ := hW
  have hA : DataW.TrodAll enc Tryz.prog W 0 (fun _ => true) true Tryz.f6.params.toList args.toList ds p := hA0
  rw [Tryz.params6] at hA hval hz
  obtain ⟨v0, v1, v2, d0, d1, d2, p0, p1, p2, rfl, rfl, rfl, h0, h1, h2⟩ := trodAll_three hA
  obtain ⟨rfl, rfl⟩ := trodVars_none hV
  obtain ⟨sa0, sn0, sc0, rfl⟩ := okWide_slice Tryz.underlying24 (hval 0 24 v0 rfl rfl)
  have k0 := h0
  have lt0 : ∀ x ∈ p0, x.block < W.heap.size := by obtain ⟨m, hm⟩ := k0; exact DataW.trod_lt m _ _ _ hm
  obtain ⟨r0, R0⟩ : ∃ r : List (Int × Int), RangesV W W.heap.size r sa0 sn0 sc0 := by
    obtain ⟨m, hm⟩ := k0
    obtain ⟨r, a, n, c, e, hr, _, _⟩ := open_ranges hm (fun q hq => by
      have := List.all_eq_true.1 hz q (DataW.weights_mem_each (j := 0) rfl rfl q hq)
      have e : reachBytes = 140737488351232 := rfl
      simpa [e] using this)
    have e' : [Value.slice sa0 sn0 sc0] = [.slice a n c] := e
    simp only [List.cons.injEq, Value.slice.injEq, and_true] at e'
    obtain ⟨rfl, rfl, rfl⟩ := e'
    exact ⟨r, hr⟩
  obtain rfl := R0.1
  obtain ⟨sa1, sn1, sc1, rfl⟩ := okWide_slice Tryz.underlying24 (hval 1 24 v1 rfl rfl)
  have k1 := h1
  have lt1 : ∀ x ∈ p1, x.block < W.heap.size := by obtain ⟨m, hm⟩ := k1; exact DataW.trod_lt m _ _ _ hm
  obtain ⟨r1, R1⟩ : ∃ r : List (Int × Int), RangesV W W.heap.size r sa1 sn1 sc1 := by
    obtain ⟨m, hm⟩ := k1
    obtain ⟨r, a, n, c, e, hr, _, _⟩ := open_ranges hm (fun q hq => by
      have := List.all_eq_true.1 hz q (DataW.weights_mem_each (j := 1) rfl rfl q hq)
      have e : reachBytes = 140737488351232 := rfl
      simpa [e] using this)
    have e' : [Value.slice sa1 sn1 sc1] = [.slice a n c] := e
    simp only [List.cons.injEq, Value.slice.injEq, and_true] at e'
    obtain ⟨rfl, rfl, rfl⟩ := e'
    exact ⟨r, hr⟩
  obtain rfl := R1.1
  obtain ⟨x2, rfl, rfl, rfl, w2⟩ := open_int Tryz.underlying22 (hval 2 22 v2 rfl rfl) h2
  simp only [List.append_nil] at hW'
  rw [MakeChecks.laidMetH_plain _ _ _ (by kernel_rfl)] at hX
  have hBru := bru_of_laid (d := Rows.laid_math_bits_deBruijn64tab) (by kernel_rfl) (Lib.laidMet.reads hX (by repeat (first | exact List.Mem.head _ | apply List.Mem.tail)))
  have hT : Tabs W := tabs_of_laid (Lib.laidMet.reads hX (by repeat (first | exact List.Mem.head _ | apply List.Mem.tail))) (Lib.laidMet.reads hX (by repeat (first | exact List.Mem.head _ | apply List.Mem.tail)))
  refine (law_bracketsUnion r0 r1 sa0 sa1 sc0 sc1 x2 W hT hBru R0 R1).mono fun e W' ⟨he, hb⟩ => ?_
  subst he
  exact ⟨_, rfl, _, _, _, [], _, [], hW', trodAll_mk1 (shut_bool Tryz.underlying4 _), (trodAll_mk3 (Below.trod laidOut (by kernel_rfl) (of_decide_eq_true (by kernel_rfl)) k0 hb lt0) (Below.trod laidOut (by kernel_rfl) (of_decide_eq_true (by kernel_rfl)) k1 hb lt1) (shut_int Tryz.underlying22 w2)), rfl, hb.frame _, fun h => by cases h⟩

theorem holds : Rows.BracketsUnionSaid :=
  OpenClaim.holds_of_wide 6 Tryz.f6 rfl rfl rfl rfl rfl rfl rfl ⟨rfl, rfl, rfl, rfl, rfl⟩ rfl rfl rfl rfl rfl (by kernel_rfl) Tryz.func6 (by kernel_rfl)
    (of_decide_eq_true (by kernel_rfl)) (by unfold Func.isWrapper; first | (rw [if_pos (by decide +kernel)]; kernel_rfl) | (rw [if_neg (by decide +kernel)]; exact ⟨rfl, rfl⟩))
    (fun os started H enc _ => lifted os started H enc)

theorem plain (f : FuncId) (fn : Func) (hf : Tryz.pinned.checked.prog.funcNamed Rows.bracketsUnionRow.func = some f) (hfn : Tryz.pinned.checked.prog.funcs[f]? = some fn) :
    true = Tryz.pinned.checked.prog.looks [] ∧ ∀ (j : Nat) t, fn.params[j]? = some t → Tryz.pinned.checked.prog.wantsStandIn t = false := by
  obtain rfl : f = 6 := Option.some.inj ((show Tryz.prog.funcNamed Rows.bracketsUnionRow.func = some 6 by kernel_rfl).symm.trans hf) |>.symm
  obtain rfl : fn = Tryz.f6 := (Option.some.inj (Tryz.func6.symm.trans hfn)).symm
  refine ⟨by kernel_rfl, fun j t ht => ?_⟩
  rw [Tryz.params6] at ht
  have hm : t ∈ [24, 24, 22] := by simpa using Array.mem_of_getElem? ht
  have hall : ([24, 24, 22].all fun u => !Tryz.prog.wantsStandIn u) = true := by kernel_rfl
  exact (show Tryz.prog.wantsStandIn t = false by simpa using List.all_eq_true.1 hall t hm)
end RowBracketsUnion

theorem bracketsUnion_card : Rows.BracketsUnionCardSaid :=
  Claim7.holds_tied_plain_at .later [] _ _ _ _ RowBracketsUnion.holds (fun _ h => by cases h) (by kernel_rfl) (fun _ h => by cases h) bracketsUnion_row_tie rfl ⟨rfl, rfl⟩ (by kernel_rfl) rfl RowBracketsUnion.plain (by kernel_rfl)
end Go.Proofs.YtnafemcholkmlaaGreatDoor
