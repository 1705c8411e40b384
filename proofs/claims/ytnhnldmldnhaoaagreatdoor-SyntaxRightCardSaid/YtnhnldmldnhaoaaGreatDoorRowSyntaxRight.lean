/- SyntaxRight: each tree that is told is right; what is wrong lies within the text, whatever each string's length within the form's reach (at most 2^47 - 4096 bytes), the law returns true and leaves  -/
import Derived.Test.YtnhnldmldnhaoaaGreatDoorSSynWeight
import Derived.Test.YtnhnldmldnhaoaaGreatDoorCards
import Derived.Test.YtnhnldmldnhaoaaGreatDoorTie
import Derived.ProofKit
import Derived.OpenShut
import Derived.Lay
import Derived.LaidMore
import Derived.SizedLaws
import Derived.SevenTiedAt
import Derived.Carry
import Derived.Shelf.Vars
set_option maxRecDepth 100000
set_option maxHeartbeats 16000000
namespace Go.Proofs.YtnhnldmldnhaoaaGreatDoor
open Go Go.Proofs Go.ChangeShapes Go.WideShapes Go.ChangeAt Go.WideMaps Go.WideElems Go.RowKit
open Go.ChangeMaps (open_string shut_string)
namespace RowSyntaxRight
theorem own:ownKnob Tryz.prog.godebug=none:=by kernel_rfl
theorem lifted (os:Os) (started:os.Started) (H:Type) (enc:TypeId × Value→H) :
    ReturnsInHanded {} Tryz.checked os 3 .any (fun w args=>(Rows.syntaxRightSpec.pre enc Tryz.prog Tryz.f3 [] false w args∧laidMetH Tryz.prog Rows.syntaxRightRow.laid w)∧sizedMet enc Tryz.prog Tryz.f3 (OpenSpec.ofChange Rows.syntaxRightSpec) false w args)
      (Rows.syntaxRightSpec.post enc Tryz.prog Tryz.f3 false true false false):=by
  refine returnsInHanded_of_change_and_shaped (C:=Tryz.checked) (X:=fun w _=>laidMetH Tryz.prog Rows.syntaxRightRow.laid w) (fun _ _ _ hh h=>h.of_heap hh) own started (by kernel_rfl) Tryz.func3
    (ChangeSpec.witness_shaped (enc:=enc) (C:=Tryz.checked) (os:=os) (X:=fun w _=>laidMetH Tryz.prog Rows.syntaxRightRow.laid w) false (World.laidAll Tryz.prog os Rows.syntaxRightRow.laid) #[.string ⟨#[]⟩,.int .i64 0] 8 (World.laidAll_os _ _ _)
      (World.shaped_of_ZipB (by kernel_rfl) (by kernel_rfl)) (by kernel_rfl) (by kernel_rfl) (by kernel_rfl)
      (by rw [MakeChecks.laidMetH_plain _ _ _ (by kernel_rfl)];exact laidMet_laidAll _ (by kernel_rfl) (by kernel_rfl))) ?_
  intro W base args ds gs before hval0 hW _ hz hX hsh
  have hval:∀ (j:Nat) t v,Tryz.f3.params[j]? = some t→args[j]? = some v→Value.okWide Tryz.prog W .any base t v:=hval0
  have hW':=hW
  obtain ⟨p,q,hA0,hV,rfl,_,_⟩:=hW
  have hA:DataW.TrodAll enc Tryz.prog W 0 (fun _=>true) true Tryz.f3.params.toList args.toList ds p:=hA0
  rw [Tryz.params3] at hA hval hz
  obtain ⟨v0,v1,d0,d1,p0,p1,rfl,rfl,rfl,h0,h1⟩:=trodAll_two hA
  obtain ⟨rfl,rfl⟩:=trodVars_none hV
  obtain ⟨x0,rfl,rfl,rfl,w0⟩:=open_string Tryz.underlying9 (hval 0 9 v0 rfl rfl) h0
  obtain ⟨x1,rfl,rfl,rfl,w1⟩:=open_int Tryz.underlying22 (hval 1 22 v1 rfl rfl) h1
  simp only [List.append_nil] at hW'
  have z0:=sized_string hz (j:=0) rfl rfl
  have s0:x0.size≤140737488351232:=by
    have e:x0.data.toList.length=x0.size:=by simp
    have:reachBytes=140737488351232:=rfl
    omega
  rw [MakeChecks.laidMetH_plain _ _ _ (by kernel_rfl)] at hX
  have hM:∃ m,W.cell? ⟨2,0,none⟩=some (.int .i64 m):=cell_of_shapedOpen_int (P:=Tryz.prog) (zero:=#[.int .i64 0]) (t:=3) hsh (of_decide_eq_true (by kernel_rfl)) (by kernel_rfl) rfl (by kernel_rfl) (by kernel_rfl) Tryz.underlying3
  have hT:Tabs W:=tabs_of_laid (Lib.laidMet.reads hX (by repeat (first | exact List.Mem.head _ | apply List.Mem.tail))) (Lib.laidMet.reads hX (by repeat (first | exact List.Mem.head _ | apply List.Mem.tail)))
  refine (law_syntaxRight x0 x1 W s0 ⟨hT,hM⟩).mono fun e W' ⟨he,hb⟩=>?_
  subst he
  exact ⟨_,rfl,_,_,_,[],[],[],hW',trodAll_mk1 (shut_bool Tryz.underlying4 _),trodAll_mk2 (shut_string Tryz.underlying9 w0) (shut_int Tryz.underlying22 w1),rfl,hb.frame _,fun h=>by cases h⟩
theorem holds:Rows.SyntaxRightSaid:=
  OpenClaim.holds_of_wide 3 Tryz.f3 rfl rfl rfl rfl rfl rfl rfl ⟨rfl,rfl,rfl,rfl,rfl⟩ rfl rfl rfl rfl rfl (by kernel_rfl) Tryz.func3 (by kernel_rfl)
    (of_decide_eq_true (by kernel_rfl)) (by unfold Func.isWrapper;first | (rw [if_pos (by decide +kernel)];kernel_rfl) | (rw [if_neg (by decide +kernel)];exact ⟨rfl,rfl⟩))
    (fun os started H enc _=>lifted os started H enc)
theorem plain (f:FuncId) (fn:Func) (hf:Tryz.pinned.checked.prog.funcNamed Rows.syntaxRightRow.func=some f) (hfn:Tryz.pinned.checked.prog.funcs[f]? = some fn) :
    true=Tryz.pinned.checked.prog.looks []∧∀ (j:Nat) t,fn.params[j]? = some t→Tryz.pinned.checked.prog.wantsStandIn t=false:=by
  obtain rfl:f=3:=Option.some.inj ((show Tryz.prog.funcNamed Rows.syntaxRightRow.func=some 3 by kernel_rfl).symm.trans hf) |>.symm
  obtain rfl:fn=Tryz.f3:=(Option.some.inj (Tryz.func3.symm.trans hfn)).symm
  refine ⟨by kernel_rfl,fun j t ht=>?_⟩
  rw [Tryz.params3] at ht
  have hm:t ∈ [9,22]:=by simpa using Array.mem_of_getElem? ht
  have hall:([9,22].all fun u=>!Tryz.prog.wantsStandIn u)=true:=by kernel_rfl
  exact (show Tryz.prog.wantsStandIn t=false by simpa using List.all_eq_true.1 hall t hm)
end RowSyntaxRight
theorem syntaxRight_card:Rows.SyntaxRightCardSaid:=
  Claim7.holds_tied_plain_at .later [] _ _ _ _ RowSyntaxRight.holds (fun _ h=>by cases h) (by kernel_rfl) (fun _ h=>by cases h) syntaxRight_row_tie rfl ⟨rfl,rfl⟩ (by kernel_rfl) rfl RowSyntaxRight.plain (by kernel_rfl)
end Go.Proofs.YtnhnldmldnhaoaaGreatDoor
