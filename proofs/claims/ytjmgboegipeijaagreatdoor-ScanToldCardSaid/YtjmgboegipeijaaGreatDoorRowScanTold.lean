/- ScanTold: a counted repeat, a named group's beginning, a group's flags, written out, with anything behind, are read as they are: for every number, name and text, whatever each string's length within the form's reach (at most 2^47 - 4096 bytes), the law returns true and leaves the memory that was there as it was. The library's tables are as the row lists them; no further condition. -/
import Derived.Test.YtjmgboegipeijaaGreatDoorLawScanTold
import Derived.Test.YtjmgboegipeijaaGreatDoorCards
import Derived.Test.YtjmgboegipeijaaGreatDoorTie
import Derived.ProofKit
import Derived.OpenShut
import Derived.Lay
import Derived.LaidMore
import Derived.SizedLaws
import Derived.SevenTiedAt
import Derived.Carry
import Derived.Test.YtjmgboegipeijaaGreatDoorCarry5
import Derived.Test.YtjmgboegipeijaaGreatDoorLaidPow
namespace Go.Proofs.YtjmgboegipeijaaGreatDoor
open Go Go.Proofs Go.ChangeShapes Go.WideShapes Go.ChangeAt Go.WideMaps Go.WideElems Go.RowKit
open Go.ChangeMaps (open_string shut_string)

namespace RowScanTold
theorem own : ownKnob Tryz.prog.godebug = none := by kernel_rfl
set_option maxRecDepth 100000 in
theorem lifted (os : Os) (started : os.Started) (H : Type) (enc : TypeId × Value → H) :
    ReturnsInHanded {} Tryz.checked os 9 .any (fun w args => (Rows.scanToldSpec.pre enc Tryz.prog Tryz.f9 [] false w args ∧ laidMetH Tryz.prog Rows.scanToldRow.laid w) ∧ sizedMet enc Tryz.prog Tryz.f9 (OpenSpec.ofChange Rows.scanToldSpec) false w args)
      (Rows.scanToldSpec.post enc Tryz.prog Tryz.f9 false true false false) := by
  refine returnsInHanded_of_change_and (C := Tryz.checked) (X := fun w _ => laidMetH Tryz.prog Rows.scanToldRow.laid w) (fun _ _ _ hh h => h.of_heap hh) own started (by kernel_rfl) Tryz.func9
    (ChangeSpec.witness_shaped (enc := enc) (C := Tryz.checked) (os := os) (X := fun w _ => laidMetH Tryz.prog Rows.scanToldRow.laid w) false (World.laidAll Tryz.prog os Rows.scanToldRow.laid) #[.int .u16 0, .int .u16 0, .bool false, .string ⟨#[]⟩, .string ⟨#[]⟩] 8 (World.laidAll_os _ _ _)
      (World.shaped_of_ZipB (by kernel_rfl) (by kernel_rfl)) (by kernel_rfl) (by kernel_rfl) (by kernel_rfl)
      (by rw [MakeChecks.laidMetH_plain _ _ _ (by kernel_rfl)]; exact laidMet_laidAll _ (by kernel_rfl) (by kernel_rfl))) ?_
  intro W base args ds gs before hval0 hW _ hz hX _
  have hval : ∀ (j : Nat) t v, Tryz.f9.params[j]? = some t → args[j]? = some v → Value.okWide Tryz.prog W .any base t v := hval0
  have hW' := hW
  obtain ⟨p, q, hA0, hV, rfl, _, _⟩ := hW
  have hA : DataW.TrodAll enc Tryz.prog W 0 (fun _ => true) true Tryz.f9.params.toList args.toList ds p := hA0
  rw [Tryz.params9] at hA hval hz
  obtain ⟨v0, v1, v2, v3, v4, d0, d1, d2, d3, d4, p0, p1, p2, p3, p4, rfl, rfl, rfl, h0, h1, h2, h3, h4⟩ := trodAll_five hA
  obtain ⟨rfl, rfl⟩ := trodVars_none hV
  obtain ⟨x0, rfl, rfl, rfl, w0⟩ := open_int Tryz.underlying49 (hval 0 49 v0 rfl rfl) h0
  obtain ⟨x1, rfl, rfl, rfl, w1⟩ := open_int Tryz.underlying49 (hval 1 49 v1 rfl rfl) h1
  obtain ⟨x2, rfl, rfl, rfl⟩ := open_bool Tryz.underlying4 (hval 2 4 v2 rfl rfl) h2
  obtain ⟨x3, rfl, rfl, rfl, w3⟩ := open_string Tryz.underlying9 (hval 3 9 v3 rfl rfl) h3
  obtain ⟨x4, rfl, rfl, rfl, w4⟩ := open_string Tryz.underlying9 (hval 4 9 v4 rfl rfl) h4
  simp only [List.append_nil] at hW'
  have b0 : 0 ≤ x0 ∧ x0 < 65536 := by simp [Lit.wf, IntKind.min, IntKind.max, IntKind.bits, IntKind.signed] at w0; omega
  have b1 : 0 ≤ x1 ∧ x1 < 65536 := by simp [Lit.wf, IntKind.min, IntKind.max, IntKind.bits, IntKind.signed] at w1; omega
  have z3 := sized_string hz (j := 3) rfl rfl
  have s3 : x3.size ≤ 140737488351232 := by
    have e : x3.data.toList.length = x3.size := by simp
    have : reachBytes = 140737488351232 := rfl
    omega
  have z4 := sized_string hz (j := 4) rfl rfl
  have s4 : x4.size ≤ 140737488351232 := by
    have e : x4.data.toList.length = x4.size := by simp
    have : reachBytes = 140737488351232 := rfl
    omega
  rw [MakeChecks.laidMetH_plain _ _ _ (by kernel_rfl)] at hX
  have hP := pow_of_laid (d := Rows.laid_internal_strconv_uint64pow10) (by kernel_rfl) (Lib.laidMet.reads hX (by repeat (first | exact List.Mem.head _ | apply List.Mem.tail)))
  refine (law_scanTold x0 x1 x2 x3 x4 W b0 b1 hP s3 s4).mono fun e W' ⟨he, hb⟩ => ?_
  subst he
  exact ⟨_, rfl, _, _, _, [], [], [], hW', trodAll_mk1 (shut_bool Tryz.underlying4 _), trodAll_mk5 (shut_int Tryz.underlying49 w0) (shut_int Tryz.underlying49 w1) (shut_bool Tryz.underlying4 x2) (shut_string Tryz.underlying9 w3) (shut_string Tryz.underlying9 w4), rfl, hb.frame _, fun h => by cases h⟩

theorem holds : Rows.ScanToldSaid :=
  OpenClaim.holds_of_wide 9 Tryz.f9 rfl rfl rfl rfl rfl rfl rfl ⟨rfl, rfl, rfl, rfl, rfl⟩ rfl rfl rfl rfl rfl (by kernel_rfl) Tryz.func9 (by kernel_rfl)
    (of_decide_eq_true (by kernel_rfl)) (by unfold Func.isWrapper; first | (rw [if_pos (by decide +kernel)]; kernel_rfl) | (rw [if_neg (by decide +kernel)]; exact ⟨rfl, rfl⟩))
    (fun os started H enc _ => lifted os started H enc)

theorem plain (f : FuncId) (fn : Func) (hf : Tryz.pinned.checked.prog.funcNamed Rows.scanToldRow.func = some f) (hfn : Tryz.pinned.checked.prog.funcs[f]? = some fn) :
    false = Tryz.pinned.checked.prog.looks [] ∧ ∀ (j : Nat) t, fn.params[j]? = some t → Tryz.pinned.checked.prog.wantsStandIn t = false := by
  obtain rfl : f = 9 := Option.some.inj ((show Tryz.prog.funcNamed Rows.scanToldRow.func = some 9 by kernel_rfl).symm.trans hf) |>.symm
  obtain rfl : fn = Tryz.f9 := (Option.some.inj (Tryz.func9.symm.trans hfn)).symm
  refine ⟨by kernel_rfl, fun j t ht => ?_⟩
  rw [Tryz.params9] at ht
  have hm : t ∈ [49, 49, 4, 9, 9] := by simpa using Array.mem_of_getElem? ht
  have hall : ([49, 49, 4, 9, 9].all fun u => !Tryz.prog.wantsStandIn u) = true := by kernel_rfl
  exact (show Tryz.prog.wantsStandIn t = false by simpa using List.all_eq_true.1 hall t hm)
end RowScanTold

theorem scanTold_card : Rows.ScanToldCardSaid :=
  Claim7.holds_tied_plain_at .later [] _ _ _ _ RowScanTold.holds (fun _ h => by cases h) (by kernel_rfl) (fun _ h => by cases h) scanTold_row_tie rfl ⟨rfl, rfl⟩ (by kernel_rfl) rfl RowScanTold.plain (by kernel_rfl)
end Go.Proofs.YtjmgboegipeijaaGreatDoor
