/- PrinterParts: a tree's text in a group is it between brackets, two trees' texts with a bar between are their Alt's, whatever tree and whatever texts within the form's reach, the law returns true and leaves the memory that was there as it was. The library's tables are as the row lists them; no further condition. -/
import Derived.Test.YtihbmgpjihgodaaDoorLawPrinterParts
import Derived.Test.YtihbmgpjihgodaaDoorCards
import Derived.Test.YtihbmgpjihgodaaDoorTie
import Derived.ProofKit
import Derived.OpenShut
import Derived.Lay
import Derived.LaidMore
import Derived.SizedLaws
import Derived.SevenTiedAt
import Derived.Carry
import Derived.Test.YtihbmgpjihgodaaDoorQLaidPow
namespace Go.Proofs.YtihbmgpjihgodaaDoor
open Go Go.Proofs Go.ChangeShapes Go.WideShapes Go.ChangeAt Go.WideMaps Go.WideElems Go.RowKit
open Go.ChangeMaps (open_string shut_string)

namespace RowPrinterParts
theorem own : ownKnob Tryd.prog.godebug = none := by kernel_rfl
theorem laidOut : laidOutB Tryd.prog = true := by kernel_rfl
set_option maxRecDepth 100000 in
theorem lifted (os : Os) (started : os.Started) (H : Type) (enc : TypeId × Value → H) :
    ReturnsInHanded {} Tryd.checked os 3 .any (fun w args => (Rows.printerPartsSpec.pre enc Tryd.prog Tryd.f3 [] false w args ∧ laidMetH Tryd.prog Rows.printerPartsRow.laid w) ∧ sizedMet enc Tryd.prog Tryd.f3 (OpenSpec.ofChange Rows.printerPartsSpec) false w args)
      (Rows.printerPartsSpec.post enc Tryd.prog Tryd.f3 false true false false) := by
  refine returnsInHanded_of_change_and (C := Tryd.checked) (X := fun w _ => laidMetH Tryd.prog Rows.printerPartsRow.laid w) (fun _ _ _ hh h => h.of_heap hh) own started (by kernel_rfl) Tryd.func3
    (ChangeSpec.witness_shaped (enc := enc) (C := Tryd.checked) (os := os) (X := fun w _ => laidMetH Tryd.prog Rows.printerPartsRow.laid w) false (World.laidAll Tryd.prog os Rows.printerPartsRow.laid) #[.agg #[.int .i64 0, .slice none 0 0, .int .i32 0, .slice none 0 0, .int .i64 0, .int .i64 0, .string ⟨#[]⟩, .int .i64 0, .int .i64 0, .bool false], .agg #[.int .i64 0, .slice none 0 0, .int .i32 0, .slice none 0 0, .int .i64 0, .int .i64 0, .string ⟨#[]⟩, .int .i64 0, .int .i64 0, .bool false], .string ⟨#[]⟩] 8 (World.laidAll_os _ _ _)
      (World.shaped_of_ZipB (by kernel_rfl) (by kernel_rfl)) (by kernel_rfl) (by kernel_rfl) (by kernel_rfl)
      (by rw [MakeChecks.laidMetH_plain _ _ _ (by kernel_rfl)]; exact laidMet_laidAll _ (by kernel_rfl) (by kernel_rfl))) ?_
  intro W base args ds gs before hval0 hW _ hz hX _
  have hval : ∀ (j : Nat) t v, Tryd.f3.params[j]? = some t → args[j]? = some v → Value.okWide Tryd.prog W .any base t v := hval0
  have hW' := hW
  obtain ⟨p, q, hA0, hV, rfl, _, _⟩ := hW
  have hA : DataW.TrodAll enc Tryd.prog W 0 (fun _ => true) true Tryd.f3.params.toList args.toList ds p := hA0
  rw [Tryd.params3] at hA hval hz
  obtain ⟨v0, v1, v2, d0, d1, d2, p0, p1, p2, rfl, rfl, rfl, h0, h1, h2⟩ := trodAll_three hA
  obtain ⟨rfl, rfl⟩ := trodVars_none hV
  obtain ⟨c0, rfl, _⟩ := okWide_struct Tryd.underlying27 (hval 0 27 v0 rfl rfl)
  have k0 := h0
  have lt0 : ∀ x ∈ p0, x.block < W.heap.size := by obtain ⟨m, hm⟩ := k0; exact DataW.trod_lt m _ _ _ hm
  obtain ⟨t0, H0, K0⟩ : ∃ t : T, TreeV W W.heap.size t c0.toList ∧ TOk t := by
    obtain ⟨m, hm⟩ := k0
    exact open_tree m _ _ hm (fun q hq => by
      have := List.all_eq_true.1 hz q (DataW.weights_mem_each (j := 0) rfl rfl q hq)
      have e : reachBytes = 140737488351232 := rfl
      simpa [e] using this)
  obtain ⟨c1, rfl, _⟩ := okWide_struct Tryd.underlying27 (hval 1 27 v1 rfl rfl)
  have k1 := h1
  have lt1 : ∀ x ∈ p1, x.block < W.heap.size := by obtain ⟨m, hm⟩ := k1; exact DataW.trod_lt m _ _ _ hm
  obtain ⟨t1, H1, K1⟩ : ∃ t : T, TreeV W W.heap.size t c1.toList ∧ TOk t := by
    obtain ⟨m, hm⟩ := k1
    exact open_tree m _ _ hm (fun q hq => by
      have := List.all_eq_true.1 hz q (DataW.weights_mem_each (j := 1) rfl rfl q hq)
      have e : reachBytes = 140737488351232 := rfl
      simpa [e] using this)
  obtain ⟨x2, rfl, rfl, rfl, w2⟩ := open_string Tryd.underlying9 (hval 2 9 v2 rfl rfl) h2
  simp only [List.append_nil] at hW'
  have z2 := sized_string hz (j := 2) rfl rfl
  have s2 : x2.size ≤ 140737488351232 := by
    have e : x2.data.toList.length = x2.size := by simp
    have : reachBytes = 140737488351232 := rfl
    omega
  rw [MakeChecks.laidMetH_plain _ _ _ (by kernel_rfl)] at hX
  have hP := pow_of_laid (d := Rows.laid_internal_strconv_uint64pow10) (by kernel_rfl) (Lib.laidMet.reads hX (by repeat (first | exact List.Mem.head _ | apply List.Mem.tail)))
  have hBru := bru_of_laid (d := Rows.laid_math_bits_deBruijn64tab) (by kernel_rfl) (Lib.laidMet.reads hX (by repeat (first | exact List.Mem.head _ | apply List.Mem.tail)))
  refine (law_printerParts t0 t1 c0.toList c1.toList x2 W.heap.size W H0 H1 (Nat.le_refl _) K0 K1 s2 ⟨hBru, hP⟩).mono fun e W' ⟨he, hb⟩ => ?_
  subst he
  exact ⟨_, rfl, _, _, _, [], _, [], hW', trodAll_mk1 (shut_bool Tryd.underlying4 _), (trodAll_mk3 (Below.trod laidOut (by kernel_rfl) (of_decide_eq_true (by kernel_rfl)) k0 hb lt0) (Below.trod laidOut (by kernel_rfl) (of_decide_eq_true (by kernel_rfl)) k1 hb lt1) (shut_string Tryd.underlying9 w2)), rfl, hb.frame _, fun h => by cases h⟩

theorem holds : Rows.PrinterPartsSaid :=
  OpenClaim.holds_of_wide 3 Tryd.f3 rfl rfl rfl rfl rfl rfl rfl ⟨rfl, rfl, rfl, rfl, rfl⟩ rfl rfl rfl rfl rfl (by kernel_rfl) Tryd.func3 (by kernel_rfl)
    (of_decide_eq_true (by kernel_rfl)) (by unfold Func.isWrapper; first | (rw [if_pos (by decide +kernel)]; kernel_rfl) | (rw [if_neg (by decide +kernel)]; exact ⟨rfl, rfl⟩))
    (fun os started H enc _ => lifted os started H enc)

theorem plain (f : FuncId) (fn : Func) (hf : Tryd.pinned.checked.prog.funcNamed Rows.printerPartsRow.func = some f) (hfn : Tryd.pinned.checked.prog.funcs[f]? = some fn) :
    false = Tryd.pinned.checked.prog.looks [] ∧ ∀ (j : Nat) t, fn.params[j]? = some t → Tryd.pinned.checked.prog.wantsStandIn t = false := by
  obtain rfl : f = 3 := Option.some.inj ((show Tryd.prog.funcNamed Rows.printerPartsRow.func = some 3 by kernel_rfl).symm.trans hf) |>.symm
  obtain rfl : fn = Tryd.f3 := (Option.some.inj (Tryd.func3.symm.trans hfn)).symm
  refine ⟨by kernel_rfl, fun j t ht => ?_⟩
  rw [Tryd.params3] at ht
  have hm : t ∈ [27, 27, 9] := by simpa using Array.mem_of_getElem? ht
  have hall : ([27, 27, 9].all fun u => !Tryd.prog.wantsStandIn u) = true := by kernel_rfl
  exact (show Tryd.prog.wantsStandIn t = false by simpa using List.all_eq_true.1 hall t hm)
end RowPrinterParts

theorem printerParts_card : Rows.PrinterPartsCardSaid :=
  Claim7.holds_tied_plain_at .later [] _ _ _ _ RowPrinterParts.holds (fun _ h => by cases h) (by kernel_rfl) (fun _ h => by cases h) printerParts_row_tie rfl ⟨rfl, rfl⟩ (by kernel_rfl) rfl RowPrinterParts.plain (by kernel_rfl)
end Go.Proofs.YtihbmgpjihgodaaDoor
