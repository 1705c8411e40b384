/- SyntaxRuns: a pattern of letters and digits alone is their runes, one behind the other; with a count behind the last one that is repeated, whatever each string's length within the form's reach (at most 2^47 - 4096 bytes), the law returns true and leaves the memory that was there as it was. The library's tables are as the row lists them; no further condition. -/
import Derived.Test.YtnhnldmldnhaoaaGreatDoorELawSyntaxRuns
import Derived.Test.YtnhnldmldnhaoaaGreatDoorCards
import Derived.Test.YtnhnldmldnhaoaaGreatDoorTie
import Derived.ProofKit
import Derived.OpenShut
import Derived.Lay
import Derived.LaidMore
import Derived.SizedLaws
import Derived.SevenTiedAt
import Derived.Carry
import Derived.Test.YtnhnldmldnhaoaaGreatDoorDLawSyntaxDots
import Derived.Shelf.Vars
namespace Go.Proofs.YtnhnldmldnhaoaaGreatDoor
open Go Go.Proofs Go.ChangeShapes Go.WideShapes Go.ChangeAt Go.WideMaps Go.WideElems Go.RowKit
open Go.ChangeMaps (open_string shut_string)

namespace RowSyntaxRuns
theorem own : ownKnob Tryz.prog.godebug = none := by kernel_rfl
set_option maxRecDepth 100000 in
theorem lifted (os : Os) (started : os.Started) (H : Type) (enc : TypeId × Value → H) :
    ReturnsInHanded {} Tryz.checked os 8 .any (fun w args => (Rows.syntaxRunsSpec.pre enc Tryz.prog Tryz.f8 [] false w args ∧ laidMetH Tryz.prog Rows.syntaxRunsRow.laid w) ∧ sizedMet enc Tryz.prog Tryz.f8 (OpenSpec.ofChange Rows.syntaxRunsSpec) false w args)
      (Rows.syntaxRunsSpec.post enc Tryz.prog Tryz.f8 false true false false) := by
  refine returnsInHanded_of_change_and_shaped (C := Tryz.checked) (X := fun w _ => laidMetH Tryz.prog Rows.syntaxRunsRow.laid w) (fun _ _ _ hh h => h.of_heap hh) own started (by kernel_rfl) Tryz.func8
    (ChangeSpec.witness_shaped (enc := enc) (C := Tryz.checked) (os := os) (X := fun w _ => laidMetH Tryz.prog Rows.syntaxRunsRow.laid w) false (World.laidAll Tryz.prog os Rows.syntaxRunsRow.laid) #[.string ⟨#[]⟩, .int .u8 0, .int .u8 0, .int .i64 0] 8 (World.laidAll_os _ _ _)
      (World.shaped_of_ZipB (by kernel_rfl) (by kernel_rfl)) (by kernel_rfl) (by kernel_rfl) (by kernel_rfl)
      (by rw [MakeChecks.laidMetH_plain _ _ _ (by kernel_rfl)]; exact laidMet_laidAll _ (by kernel_rfl) (by kernel_rfl))) ?_
  intro W base args ds gs before hval0 hW _ hz hX hsh
  have hval : ∀ (j : Nat) t v, Tryz.f8.params[j]? = some t → args[j]? = some v → Value.okWide Tryz.prog W .any base t v := hval0
  have hW' := hW
  obtain ⟨p, q, hA0, hV, rfl, _, _⟩ := hW
  have hA : DataW.TrodAll enc Tryz.prog W 0 (fun _ => true) true Tryz.f8.params.toList args.toList ds p := hA0
  rw [Tryz.params8] at hA hval hz
  obtain ⟨v0, v1, v2, v3, d0, d1, d2, d3, p0, p1, p2, p3, rfl, rfl, rfl, h0, h1, h2, h3⟩ := trodAll_four hA
  obtain ⟨rfl, rfl⟩ := trodVars_none hV
  obtain ⟨x0, rfl, rfl, rfl, w0⟩ := open_string Tryz.underlying9 (hval 0 9 v0 rfl rfl) h0
  obtain ⟨x1, rfl, rfl, rfl, w1⟩ := open_int Tryz.underlying5 (hval 1 5 v1 rfl rfl) h1
  obtain ⟨x2, rfl, rfl, rfl, w2⟩ := open_int Tryz.underlying5 (hval 2 5 v2 rfl rfl) h2
  obtain ⟨x3, rfl, rfl, rfl, w3⟩ := open_int Tryz.underlying22 (hval 3 22 v3 rfl rfl) h3
  simp only [List.append_nil] at hW'
  have b1 : 0 ≤ x1 ∧ x1 < 256 := by simp [Lit.wf, IntKind.min, IntKind.max, IntKind.bits, IntKind.signed] at w1; omega
  have b2 : 0 ≤ x2 ∧ x2 < 256 := by simp [Lit.wf, IntKind.min, IntKind.max, IntKind.bits, IntKind.signed] at w2; omega
  have z0 := sized_string hz (j := 0) rfl rfl
  have s0 : x0.size ≤ 140737488351232 := by
    have e : x0.data.toList.length = x0.size := by simp
    have : reachBytes = 140737488351232 := rfl
    omega
  rw [MakeChecks.laidMetH_plain _ _ _ (by kernel_rfl)] at hX
  have hP := pow_of_laid (d := Rows.laid_internal_strconv_uint64pow10) (by kernel_rfl) (Lib.laidMet.reads hX (by repeat (first | exact List.Mem.head _ | apply List.Mem.tail)))
  have hM : ∃ m, W.cell? ⟨2, 0, none⟩ = some (.int .i64 m) := cell_of_shapedOpen_int (P := Tryz.prog) (zero := #[.int .i64 0]) (t := 3) hsh (of_decide_eq_true (by kernel_rfl)) (by kernel_rfl) rfl (by kernel_rfl) (by kernel_rfl) Tryz.underlying3
  have hT : Tabs W := tabs_of_laid (Lib.laidMet.reads hX (by repeat (first | exact List.Mem.head _ | apply List.Mem.tail))) (Lib.laidMet.reads hX (by repeat (first | exact List.Mem.head _ | apply List.Mem.tail)))
  refine (law_syntaxRuns x0 x1 x2 x3 W b1 b2 s0 ⟨hT, hM⟩ hP).mono fun e W' ⟨he, hb⟩ => ?_
  subst he
  exact ⟨_, rfl, _, _, _, [], [], [], hW', trodAll_mk1 (shut_bool Tryz.underlying4 _), trodAll_mk4 (shut_string Tryz.underlying9 w0) (shut_int Tryz.underlying5 w1) (shut_int Tryz.underlying5 w2) (shut_int Tryz.underlying22 w3), rfl, hb.frame _, fun h => by cases h⟩

theorem holds : Rows.SyntaxRunsSaid :=
  OpenClaim.holds_of_wide 8 Tryz.f8 rfl rfl rfl rfl rfl rfl rfl ⟨rfl, rfl, rfl, rfl, rfl⟩ rfl rfl rfl rfl rfl (by kernel_rfl) Tryz.func8 (by kernel_rfl)
    (of_decide_eq_true (by kernel_rfl)) (by unfold Func.isWrapper; first | (rw [if_pos (by decide +kernel)]; kernel_rfl) | (rw [if_neg (by decide +kernel)]; exact ⟨rfl, rfl⟩))
    (fun os started H enc _ => lifted os started H enc)

theorem plain (f : FuncId) (fn : Func) (hf : Tryz.pinned.checked.prog.funcNamed Rows.syntaxRunsRow.func = some f) (hfn : Tryz.pinned.checked.prog.funcs[f]? = some fn) :
    true = Tryz.pinned.checked.prog.looks [] ∧ ∀ (j : Nat) t, fn.params[j]? = some t → Tryz.pinned.checked.prog.wantsStandIn t = false := by
  obtain rfl : f = 8 := Option.some.inj ((show Tryz.prog.funcNamed Rows.syntaxRunsRow.func = some 8 by kernel_rfl).symm.trans hf) |>.symm
  obtain rfl : fn = Tryz.f8 := (Option.some.inj (Tryz.func8.symm.trans hfn)).symm
  refine ⟨by kernel_rfl, fun j t ht => ?_⟩
  rw [Tryz.params8] at ht
  have hm : t ∈ [9, 5, 5, 22] := by simpa using Array.mem_of_getElem? ht
  have hall : ([9, 5, 5, 22].all fun u => !Tryz.prog.wantsStandIn u) = true := by kernel_rfl
  exact (show Tryz.prog.wantsStandIn t = false by simpa using List.all_eq_true.1 hall t hm)
end RowSyntaxRuns

theorem syntaxRuns_card : Rows.SyntaxRunsCardSaid :=
  Claim7.holds_tied_plain_at .later [] _ _ _ _ RowSyntaxRuns.holds (fun _ h => by cases h) (by kernel_rfl) (fun _ h => by cases h) syntaxRuns_row_tie rfl ⟨rfl, rfl⟩ (by kernel_rfl) rfl RowSyntaxRuns.plain (by kernel_rfl)
end Go.Proofs.YtnhnldmldnhaoaaGreatDoor
