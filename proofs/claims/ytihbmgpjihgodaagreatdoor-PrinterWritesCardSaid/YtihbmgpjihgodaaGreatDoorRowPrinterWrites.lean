/- PrinterWrites: any tree's text, or that it has none, is the document's, whatever tree and whatever texts within the form's reach, the law returns true and leaves the memory that was there as it was. The library's tables are as the row lists them; no further condition. -/
import Derived.Test.YtihbmgpjihgodaaGreatDoorQLawPrinterWrites
import Derived.Test.YtihbmgpjihgodaaGreatDoorCards
import Derived.Test.YtihbmgpjihgodaaGreatDoorTie
import Derived.ProofKit
import Derived.OpenShut
import Derived.Lay
import Derived.LaidMore
import Derived.SizedLaws
import Derived.SevenTiedAt
import Derived.Carry
namespace Go.Proofs.YtihbmgpjihgodaaGreatDoor
open Go Go.Proofs Go.ChangeShapes Go.WideShapes Go.ChangeAt Go.WideMaps Go.WideElems Go.RowKit
open Go.ChangeMaps (open_string shut_string)

namespace RowPrinterWrites
theorem own : ownKnob Tryz.prog.godebug = none := by kernel_rfl
theorem laidOut : laidOutB Tryz.prog = true := by kernel_rfl
set_option maxRecDepth 100000 in
theorem lifted (os : Os) (started : os.Started) (H : Type) (enc : TypeId × Value → H) :
    ReturnsInHanded {} Tryz.checked os 3 .any (fun w args => (Rows.printerWritesSpec.pre enc Tryz.prog Tryz.f3 [] false w args ∧ laidMetH Tryz.prog Rows.printerWritesRow.laid w) ∧ sizedMet enc Tryz.prog Tryz.f3 (OpenSpec.ofChange Rows.printerWritesSpec) false w args)
      (Rows.printerWritesSpec.post enc Tryz.prog Tryz.f3 false true false false) := by
  refine returnsInHanded_of_change_and (C := Tryz.checked) (X := fun w _ => laidMetH Tryz.prog Rows.printerWritesRow.laid w) (fun _ _ _ hh h => h.of_heap hh) own started (by kernel_rfl) Tryz.func3
    (ChangeSpec.witness_shaped (enc := enc) (C := Tryz.checked) (os := os) (X := fun w _ => laidMetH Tryz.prog Rows.printerWritesRow.laid w) false (World.laidAll Tryz.prog os Rows.printerWritesRow.laid) #[.agg #[.int .i64 0, .slice none 0 0, .int .i32 0, .slice none 0 0, .int .i64 0, .int .i64 0, .string ⟨#[]⟩, .int .i64 0, .int .i64 0, .bool false]] 8 (World.laidAll_os _ _ _)
      (World.shaped_of_ZipB (by kernel_rfl) (by kernel_rfl)) (by kernel_rfl) (by kernel_rfl) (by kernel_rfl)
      (by rw [MakeChecks.laidMetH_plain _ _ _ (by kernel_rfl)]; exact laidMet_laidAll _ (by kernel_rfl) (by kernel_rfl))) ?_
  intro W base args ds gs before hval0 hW _ hz hX _
  have hval : ∀ (j : Nat) t v, Tryz.f3.params[j]? = some t → args[j]? = some v → Value.okWide Tryz.prog W .any base t v := hval0
  have hW' := hW
  obtain ⟨p, q, hA0, hV, rfl, _, _⟩ := hW
  have hA : DataW.TrodAll enc Tryz.prog W 0 (fun _ => true) true Tryz.f3.params.toList args.toList ds p := hA0
  rw [Tryz.params3] at hA hval hz
  obtain ⟨v0, d0, rfl, rfl, h0⟩ := trodAll_one hA
  obtain ⟨rfl, rfl⟩ := trodVars_none hV
  obtain ⟨c0, rfl, _⟩ := okWide_struct Tryz.underlying27 (hval 0 27 v0 rfl rfl)
  have k0 := h0
  have lt0 : ∀ x ∈ p, x.block < W.heap.size := by obtain ⟨m, hm⟩ := k0; exact DataW.trod_lt m _ _ _ hm
  obtain ⟨t0, H0, K0⟩ : ∃ t : T, TreeV W W.heap.size t c0.toList ∧ TOk t := by
    obtain ⟨m, hm⟩ := k0
    exact open_tree m _ _ hm (fun q hq => by
      have := List.all_eq_true.1 hz q (DataW.weights_mem_each (j := 0) rfl rfl q hq)
      have e : reachBytes = 140737488351232 := rfl
      simpa [e] using this)
  simp only [List.append_nil] at hW'
  rw [MakeChecks.laidMetH_plain _ _ _ (by kernel_rfl)] at hX
  have hP := pow_of_laid (d := Rows.laid_internal_strconv_uint64pow10) (by kernel_rfl) (Lib.laidMet.reads hX (by repeat (first | exact List.Mem.head _ | apply List.Mem.tail)))
  have hBru := bru_of_laid (d := Rows.laid_math_bits_deBruijn64tab) (by kernel_rfl) (Lib.laidMet.reads hX (by repeat (first | exact List.Mem.head _ | apply List.Mem.tail)))
  refine (law_printerWrites t0 c0.toList W.heap.size W H0 (Nat.le_refl _) K0 ⟨hBru, hP⟩).mono fun e W' ⟨he, hb⟩ => ?_
  subst he
  exact ⟨_, rfl, _, _, _, [], _, [], hW', trodAll_mk1 (shut_bool Tryz.underlying4 _), (trodAll_mk1 (Below.trod laidOut (by kernel_rfl) (of_decide_eq_true (by kernel_rfl)) k0 hb lt0)), rfl, hb.frame _, fun h => by cases h⟩

theorem holds : Rows.PrinterWritesSaid :=
  OpenClaim.holds_of_wide 3 Tryz.f3 rfl rfl rfl rfl rfl rfl rfl ⟨rfl, rfl, rfl, rfl, rfl⟩ rfl rfl rfl rfl rfl (by kernel_rfl) Tryz.func3 (by kernel_rfl)
    (of_decide_eq_true (by kernel_rfl)) (by unfold Func.isWrapper; first | (rw [if_pos (by decide +kernel)]; kernel_rfl) | (rw [if_neg (by decide +kernel)]; exact ⟨rfl, rfl⟩))
    (fun os started H enc _ => lifted os started H enc)

theorem plain (f : FuncId) (fn : Func) (hf : Tryz.pinned.checked.prog.funcNamed Rows.printerWritesRow.func = some f) (hfn : Tryz.pinned.checked.prog.funcs[f]? = some fn) :
    false = Tryz.pinned.checked.prog.looks [] ∧ ∀ (j : Nat) t, fn.params[j]? = some t → Tryz.pinned.checked.prog.wantsStandIn t = false := by
  obtain rfl : f = 3 := Option.some.inj ((show Tryz.prog.funcNamed Rows.printerWritesRow.func = some 3 by kernel_rfl).symm.trans hf) |>.symm
  obtain rfl : fn = Tryz.f3 := (Option.some.inj (Tryz.func3.symm.trans hfn)).symm
  refine ⟨by kernel_rfl, fun j t ht => ?_⟩
  rw [Tryz.params3] at ht
  have hm : t ∈ [27] := by simpa using Array.mem_of_getElem? ht
  have hall : ([27].all fun u => !Tryz.prog.wantsStandIn u) = true := by kernel_rfl
  exact (show Tryz.prog.wantsStandIn t = false by simpa using List.all_eq_true.1 hall t hm)
end RowPrinterWrites

theorem printerWrites_card : Rows.PrinterWritesCardSaid :=
  Claim7.holds_tied_plain_at .later [] _ _ _ _ RowPrinterWrites.holds (fun _ h => by cases h) (by kernel_rfl) (fun _ h => by cases h) printerWrites_row_tie rfl ⟨rfl, rfl⟩ (by kernel_rfl) rfl RowPrinterWrites.plain (by kernel_rfl)
end Go.Proofs.YtihbmgpjihgodaaGreatDoor
