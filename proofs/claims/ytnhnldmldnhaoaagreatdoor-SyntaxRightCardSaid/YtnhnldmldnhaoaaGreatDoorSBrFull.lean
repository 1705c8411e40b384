/- brackets.Class: its contract, with any flags. The reader of patterns: a class. (Printed by gen_sycls.py.) -/
import Derived.Test.YtnhnldmldnhaoaaGreatDoorSBrClass
import Derived.Test.YtnhnldmldnhaoaaGreatDoorSBrCls3
import Derived.Test.YtnhnldmldnhaoaaGreatDoorSNext
import Derived.Test.YtnhnldmldnhaoaaGreatDoorSSyOpen
import Derived.Test.YtnhnldmldnhaoaaGreatDoorSBrText
set_option maxRecDepth 100000
set_option maxHeartbeats 16000000
open Go.Lib (hid)
namespace Go.Proofs.YtnhnldmldnhaoaaGreatDoor
open Go Go.RowKit Go.Proofs Go.Shelf
def foldO (f:Int):Option ((Int→Bool)→Int→Bool):=if onB f 1 then some foldF else none
theorem brackets_Class (s:ByteArray) (p:Nat) (f:Int) (w:World) (hp:p≤s.size) (hs:s.size≤100000000) (hT:Tabs w) :
    Calls Tryz.prog 79 #[.string s,.int .i64 p,.int .i64 f] w (ClsOut w (clsQ s p (onB f 32) (foldO f))):=by
  unfold foldO
  by_cases hf:onB f 1=true
  · rw [if_pos hf]
    by_cases hn:stands s p [91]=true
    · cases hi:itemP s (clsAt s p) (onB f 32) p with
      | wrong x a b=>
        have e:clsQ s p (onB f 32) (some foldF) = .wrong x a b:=by unfold clsQ clsP;rw [hn,hi];rfl
        rw [e]
        exact cls_first s p f w hp hs hT (onB f 32) rfl hn x a b hi
      | ok f0 q0=>exact cls_folded s p f w hp hs hT (onB f 32) rfl hf hn f0 q0 hi
    · have e:clsQ s p (onB f 32) (some foldF) = .wrong 1 p p:=by unfold clsQ clsP;rw [if_pos hn]
      rw [e]
      exact cls_closed s p f w hp (onB f 32) rfl (Bool.eq_false_iff.2 hn)
  · rw [if_neg hf]
    exact brackets_plain s p f w hp hs hT (onB f 32) rfl (Bool.eq_false_iff.2 hf)
end Go.Proofs.YtnhnldmldnhaoaaGreatDoor
namespace Go.Proofs.YtnhnldmldnhaoaaGreatDoor
open Go Go.RowKit Go.Proofs Go.Shelf
theorem SetF.alloc {w:World} {ok:Nat→Prop} {rs:List (Int × Int)} {a:Option Addr} {n c:Nat} (h:SetF w ok rs a n c) (hk:∀ k,ok k→k < w.heap.size) (o:Obj):SetF (w.alloc o) ok rs a n c:=h.turned (fun k h=>Below.heap_alloc w o k (hk k h)) (fun _ h=>h)
theorem SetF.setCell {w:World} {ok:Nat→Prop} {rs:List (Int × Int)} {a:Option Addr} {n c:Nat} (h:SetF w ok rs a n c) (p:Addr) (v:Value) (hk:∀ k,ok k→k≠p.block):SetF (w.setCell p v) ok rs a n c:=h.turned (fun k h=>Below.heap_setCell w p v k (hk k h)) (fun _ h=>h)
theorem atoms_cls_ok (b lo:Nat) (s:ByteArray) (st:St) (nv:Value) (w:World) (h:SynIn w b lo s st nv) (hc:nextC s st.p=91) (N:List (Int × Int)) (q:Nat) (hqp:st.p≤q) (hqs:q≤s.size) (hqb:Bd s q)
    (hC:∀ W,Tabs W→Calls Tryz.prog 79 #[.string s,.int .i64 st.p,.int .i64 st.f] W fun e w'=>Below W.heap.size W w'∧∃ (sa:Option Addr) (sc:Nat),e = .returned (.tuple #[.slice sa N.length sc,.int .i64 (q:Int),.agg #[.int .i64 0,.int .i64 0,.int .i64 0]])∧SetF w' (fun k=>Fresh W w' k) N sa N.length sc) :
    Calls Tryz.prog 62 #[.pointer (some ⟨b,0,none⟩)] w (ListsOut w b lo s nv (.ok [setT N] { st with p:=q })):=by
  have HI:=hid h;have HC:=hid hC
  clear h hC
  go_enter Tryz.func62, Tryz.ntmps62
  go_wp2_with fail
  refine (syn_next b s st.f st.p nv _ HI.out.r HI.out.e.t HI.out.p).mono ?_
  rintro e w1 ⟨rfl,hR,hB⟩
  have L1:=hid (HI.out.below hB)
  clear hR hB
  rw [hc]
  have T1:=hid L1.out.i.e.t
  have R1:=hid L1.out.i.r
  have z1:=R1.out.lt
  have c0:=Blk.cell R1.out (j:=0) rfl
  have c1:=Blk.cell R1.out (j:=1) rfl
  have c2:=Blk.cell R1.out (j:=2) rfl
  go_wp2_with fail
  refine Code.wp_mono (Q:=fun e a' w'=>∃ (x6:Nat) (sa:Option Addr) (sc LO HI:Nat),e = .normal∧a'={ tmps:=((Value.pointer (some ⟨b,0,none⟩)) :: undef :: (Value.slice none 0 0) :: (Value.int .i32 91) :: (Value.slice sa N.length sc) :: (Value.int .i64 (q:Int)) :: (Value.pointer (some ⟨x6,0,none⟩)) :: (Value.pointer (some ⟨b,0,none⟩)) :: (Value.int .i32 91) :: (Value.int .i32 91) :: (Value.bool false) :: (Value.bool false) :: undef :: undef :: (Value.bool false) :: (Value.bool false) :: undef :: undef :: (Value.bool true) :: (Value.bool true) :: (Value.tuple #[.slice sa N.length sc,.int .i64 (q:Int),.agg #[.int .i64 0,.int .i64 0,.int .i64 0]]) :: (Value.pointer (some ⟨b,0,none⟩)) :: (Value.pointer (some ⟨b,0,none⟩)) :: (Value.pointer (some ⟨b,1,none⟩)) :: (Value.string s) :: (Value.pointer (some ⟨b,0,none⟩)) :: (Value.pointer (some ⟨b,0,none⟩)) :: (Value.pointer (some ⟨b,2,none⟩)) :: (Value.int .i64 (st.p:Int)) :: (Value.pointer (some ⟨b,0,none⟩)) :: (Value.pointer (some ⟨b,0,none⟩)) :: (Value.pointer (some ⟨b,0,none⟩)) :: (Value.pointer (some ⟨b,0,none⟩)) :: (Value.int .i64 st.f) :: (Value.tuple #[.slice sa N.length sc,.int .i64 (q:Int),.agg #[.int .i64 0,.int .i64 0,.int .i64 0]]) :: (Value.slice sa N.length sc) :: (Value.int .i64 (q:Int)) :: (Value.agg #[.int .i64 0,.int .i64 0,.int .i64 0]) :: undef :: undef :: undef :: undef :: undef :: undef :: undef :: undef :: undef :: undef :: undef :: undef :: undef :: undef :: undef :: undef :: undef :: undef :: undef :: undef :: undef :: undef :: undef :: undef :: undef :: undef :: undef :: undef :: undef :: undef :: undef :: undef :: undef :: undef :: undef :: undef :: undef :: undef :: undef :: undef :: undef :: undef :: undef :: undef :: []:List Value).toArray,defers:=[] }∧w1.grownBy w' none∧Blk w' x6 [.int .i64 0,.int .i64 0,.int .i64 0] 32∧w1.heap.size≤x6∧SetF w' (fun k=>LO≤k∧k < HI) N sa N.length sc∧w1.heap.size≤LO∧HI≤w'.heap.size) ?_ ?_
  rotate_left
  · go_region_held3 (fun w'=>w'.cell? ⟨b,0,none⟩=some (.int .i64 st.f)∧w'.cell? ⟨b,1,none⟩=some (.string s)∧w'.cell? ⟨b,2,none⟩=some (.int .i64 (st.p:Int))) (go_keep) ((go_at_call 79;first | (refine (HC.out (w1.drew) (T1.out.below (below_grownBy (grownBy_drew _ _)))).mono ?_;rintro e w4 ⟨hB,sa,sc,rfl,hS⟩;have G4:=hid (show w1.grownBy w4 none from grownBy_trans (grownBy_drew _ _) (grownBy_below hB none));have zs:w1.heap.size≤w4.heap.size:=G4.out.size;have R4:=R1.out.grown G4.out (by simp);have g0:=Blk.cell R4 (j:=0) rfl;have g1:=Blk.cell R4 (j:=1) rfl;have g2:=Blk.cell R4 (j:=2) rfl;have hsz:=hB.size;have:b≠w1.heap.size:=(by (first | omega | (simp at hsz;omega)));have:w1.heap.size≠b:=(by (first | omega | (simp at hsz;omega)));have:b≠w4.heap.size:=(by (first | omega | (simp at hsz;omega)));have:w4.heap.size≠b:=(by (first | omega | (simp at hsz;omega)));have S4:=hid (show SetF w4 (fun k=>w1.heap.size≤k∧k < w4.heap.size) N sa N.length sc from hS.turned (fun _ _=>rfl) (fun k hk=>⟨(by have:=hk.1;simpa using this),hk.2⟩));clear R4 hB hS hsz) | (refine (HC.out ((w1.alloc (.cells #[.int .i64 0,.int .i64 0,.int .i64 0] 32)).drew) (T1.out.below (below_grownBy (grownBy_trans (grownBy_alloc _ _ _) (grownBy_drew _ _))))).mono ?_;rintro e w4 ⟨hB,sa,sc,rfl,hS⟩;have G4:=hid (show w1.grownBy w4 none from grownBy_trans (grownBy_trans (grownBy_alloc _ _ _) (grownBy_drew _ _)) (grownBy_below hB none));have zs:w1.heap.size≤w4.heap.size:=G4.out.size;have R4:=R1.out.grown G4.out (by simp);have g0:=Blk.cell R4 (j:=0) rfl;have g1:=Blk.cell R4 (j:=1) rfl;have g2:=Blk.cell R4 (j:=2) rfl;have hsz:=hB.size;have:b≠w1.heap.size:=(by (first | omega | (simp at hsz;omega)));have:w1.heap.size≠b:=(by (first | omega | (simp at hsz;omega)));have:b≠w4.heap.size:=(by (first | omega | (simp at hsz;omega)));have:w4.heap.size≠b:=(by (first | omega | (simp at hsz;omega)));have S4:=hid (show SetF w4 (fun k=>w1.heap.size+1≤k∧k < w4.heap.size) N sa N.length sc from hS.turned (fun _ _=>rfl) (fun k hk=>⟨(by have:=hk.1;simpa using this),hk.2⟩));have NA:=hid (show Blk w4 w1.heap.size [.int .i64 0,.int .i64 0,.int .i64 0] 32 from Blk.below (w:=(w1.alloc (.cells #[.int .i64 0,.int .i64 0,.int .i64 0] 32)).drew) (Blk.new w1 [.int .i64 0,.int .i64 0,.int .i64 0] 32) hB (by simp));have za:=NA.out.lt;have fa0:=Blk.frozen (NA.out) 0;have ca0:=Blk.cell (NA.out) (j:=0) rfl;have fa1:=Blk.frozen (NA.out) 1;have ca1:=Blk.cell (NA.out) (j:=1) rfl;have fa2:=Blk.frozen (NA.out) 2;have ca2:=Blk.cell (NA.out) (j:=2) rfl;clear R4 hB hS hsz)))
    all_goals first | refine ⟨w4.heap.size,sa,sc,w1.heap.size,w4.heap.size,rfl,rfl,?_⟩ | refine ⟨w1.heap.size,sa,sc,w1.heap.size+1,w4.heap.size,rfl,rfl,?_⟩
    all_goals refine ⟨?_,?_,by omega,?_,by omega,by simp [World.setCell]⟩
    all_goals repeat' (first | with_reducible exact Blk.new _ _ _ | with_reducible exact NA.out | with_reducible refine Blk.sets3 (c0:=.int .i64 0) (c1:=.int .i64 0) (c2:=.int .i64 0) ?_ | with_reducible exact S4.out | with_reducible refine SetF.setCell ?_ _ _ (fun k hk=>by dsimp only;omega) | with_reducible refine SetF.alloc ?_ (fun k hk=>hk.2) _ | with_reducible refine grownBy_new ?_ (by omega) _ _ | with_reducible refine grownBy_trans ?_ (grownBy_alloc _ _ _) | exact G4.out)
  rintro e1 a1 W5 ⟨x6,sa,sc,LO,HI',rfl,rfl,hg,b6,l6,hS,hlo,hhi⟩
  have L5:=hid (L1.out.below (below_grownBy hg))
  have d0:=Blk.cell b6 (j:=0) rfl;have d1:=Blk.cell b6 (j:=1) rfl;have d2:=Blk.cell b6 (j:=2) rfl
  have hz5:=hg.size
  have S5:=hid hS
  clear hS hg b6 c0 c1 c2
  go_wp2_with fail
  refine (syn_check_ok 0 0 _).mono ?_
  rintro e w6 ⟨rfl,hB⟩
  have L6:=hid (L5.out.below hB)
  have S6:=hid (show SetF w6 (fun k=>LO≤k∧k < HI') N sa N.length sc from S5.out.turned (fun k hk=>hB.block k (by omega)) (fun _ h=>h))
  have hz6:=hB.size
  clear hB d0 d1 d2
  have g2:=Blk.cell L6.out.i.r (j:=2) rfl
  have f2:=L6.out.i.r.frozen 2
  have hm:=HI.out.m
  have L7:=hid (show Left w (w6.setCell ⟨b,2,none⟩ (.int .i64 (q:Int))) b lo s nv { st with p:=q } nv from L6.out.grown (st':={ st with p:=q }) (Blk.set L6.out.i.r 2 _) (grownBy_setCell _ _ _ _) rfl hqs hqb (by show st.ns.length≤q;omega))
  have S7:=hid (show SetF (w6.setCell ⟨b,2,none⟩ (.int .i64 (q:Int))) (fun k=>LO≤k∧k < HI') N sa N.length sc from SetF.setCell S6.out _ _ (fun k hk=>by dsimp only;omega))
  have hz7:(w6.setCell ⟨b,2,none⟩ (.int .i64 (q:Int))).heap.size=w6.heap.size:=by simp [World.setCell]
  go_wp2_with fail
  refine (syn_set N sa N.length sc (fun k=>LO≤k∧k < HI') _ S7.out (fun k hk=>by omega)).mono ?_
  rintro e w8 ⟨cs,rfl,hT,hB⟩
  obtain ⟨op,ka,kn,kc,rune,xa,xn,xc,pl,cap,name,mn,mx,lz,rfl⟩:=hT.form
  have L8:=hid (L7.out.below hB)
  have hz8:=hB.size
  have T8:=hid (atom_fresh (nv:=nv) (show TreeF w8 (fun k=>Fresh w1 w8 k) _ _ from hT.turned (fun _ _=>rfl) (fun _ hk=>⟨by omega,by omega⟩)) L1.out.g.size (fun k hk=>(L1.out.i.o.lt k hk).2))
  clear hT hB
  go_wp2_with fail
  go_ret
  exact ⟨_,_,nv,rfl,row_single T8.out L8.out.g.size (fun k hk=>(L8.out.i.o.lt k hk).2),L8.out.below ((Below.refl _ _).alloc (Nat.le_refl _) _)⟩
theorem atoms_cls_wrong (b lo:Nat) (s:ByteArray) (st:St) (nv:Value) (w:World) (h:SynIn w b lo s st nv) (hc:nextC s st.p=91) (N:List (Int × Int)) (x a d:Int) (hx:x≠0)
    (hC:∀ W,Tabs W→Calls Tryz.prog 79 #[.string s,.int .i64 st.p,.int .i64 st.f] W fun e w'=>Below W.heap.size W w'∧∃ (sa:Option Addr) (sc:Nat),e = .returned (.tuple #[.slice sa N.length sc,.int .i64 (0:Int),.agg #[.int .i64 x,.int .i64 a,.int .i64 d]])∧SetF w' (fun k=>Fresh W w' k) N sa N.length sc) :
    Calls Tryz.prog 62 #[.pointer (some ⟨b,0,none⟩)] w (ListsOut w b lo s nv (.wrong x a d)):=by
  have HI:=hid h;have HC:=hid hC
  clear h hC
  go_enter Tryz.func62, Tryz.ntmps62
  go_wp2_with fail
  refine (syn_next b s st.f st.p nv _ HI.out.r HI.out.e.t HI.out.p).mono ?_
  rintro e w1 ⟨rfl,hR,hB⟩
  have L1:=hid (HI.out.below hB)
  clear hR hB
  rw [hc]
  have T1:=hid L1.out.i.e.t
  have R1:=hid L1.out.i.r
  have z1:=R1.out.lt
  have c0:=Blk.cell R1.out (j:=0) rfl
  have c1:=Blk.cell R1.out (j:=1) rfl
  have c2:=Blk.cell R1.out (j:=2) rfl
  go_wp2_with fail
  refine Code.wp_mono (Q:=fun e a' w'=>∃ (x6:Nat) (sa:Option Addr) (sc LO HI:Nat),e = .normal∧a'={ tmps:=((Value.pointer (some ⟨b,0,none⟩)) :: undef :: (Value.slice none 0 0) :: (Value.int .i32 91) :: (Value.slice sa N.length sc) :: (Value.int .i64 (0:Int)) :: (Value.pointer (some ⟨x6,0,none⟩)) :: (Value.pointer (some ⟨b,0,none⟩)) :: (Value.int .i32 91) :: (Value.int .i32 91) :: (Value.bool false) :: (Value.bool false) :: undef :: undef :: (Value.bool false) :: (Value.bool false) :: undef :: undef :: (Value.bool true) :: (Value.bool true) :: (Value.tuple #[.slice sa N.length sc,.int .i64 (0:Int),.agg #[.int .i64 x,.int .i64 a,.int .i64 d]]) :: (Value.pointer (some ⟨b,0,none⟩)) :: (Value.pointer (some ⟨b,0,none⟩)) :: (Value.pointer (some ⟨b,1,none⟩)) :: (Value.string s) :: (Value.pointer (some ⟨b,0,none⟩)) :: (Value.pointer (some ⟨b,0,none⟩)) :: (Value.pointer (some ⟨b,2,none⟩)) :: (Value.int .i64 (st.p:Int)) :: (Value.pointer (some ⟨b,0,none⟩)) :: (Value.pointer (some ⟨b,0,none⟩)) :: (Value.pointer (some ⟨b,0,none⟩)) :: (Value.pointer (some ⟨b,0,none⟩)) :: (Value.int .i64 st.f) :: (Value.tuple #[.slice sa N.length sc,.int .i64 (0:Int),.agg #[.int .i64 x,.int .i64 a,.int .i64 d]]) :: (Value.slice sa N.length sc) :: (Value.int .i64 (0:Int)) :: (Value.agg #[.int .i64 x,.int .i64 a,.int .i64 d]) :: undef :: undef :: undef :: undef :: undef :: undef :: undef :: undef :: undef :: undef :: undef :: undef :: undef :: undef :: undef :: undef :: undef :: undef :: undef :: undef :: undef :: undef :: undef :: undef :: undef :: undef :: undef :: undef :: undef :: undef :: undef :: undef :: undef :: undef :: undef :: undef :: undef :: undef :: undef :: undef :: undef :: undef :: undef :: undef :: []:List Value).toArray,defers:=[] }∧w1.grownBy w' none∧Blk w' x6 [.int .i64 x,.int .i64 a,.int .i64 d] 32∧w1.heap.size≤x6∧SetF w' (fun k=>LO≤k∧k < HI) N sa N.length sc∧w1.heap.size≤LO∧HI≤w'.heap.size) ?_ ?_
  rotate_left
  · go_region_held3 (fun w'=>w'.cell? ⟨b,0,none⟩=some (.int .i64 st.f)∧w'.cell? ⟨b,1,none⟩=some (.string s)∧w'.cell? ⟨b,2,none⟩=some (.int .i64 (st.p:Int))) (go_keep) ((go_at_call 79;first | (refine (HC.out (w1.drew) (T1.out.below (below_grownBy (grownBy_drew _ _)))).mono ?_;rintro e w4 ⟨hB,sa,sc,rfl,hS⟩;have G4:=hid (show w1.grownBy w4 none from grownBy_trans (grownBy_drew _ _) (grownBy_below hB none));have zs:w1.heap.size≤w4.heap.size:=G4.out.size;have R4:=R1.out.grown G4.out (by simp);have g0:=Blk.cell R4 (j:=0) rfl;have g1:=Blk.cell R4 (j:=1) rfl;have g2:=Blk.cell R4 (j:=2) rfl;have hsz:=hB.size;have:b≠w1.heap.size:=(by (first | omega | (simp at hsz;omega)));have:w1.heap.size≠b:=(by (first | omega | (simp at hsz;omega)));have:b≠w4.heap.size:=(by (first | omega | (simp at hsz;omega)));have:w4.heap.size≠b:=(by (first | omega | (simp at hsz;omega)));have S4:=hid (show SetF w4 (fun k=>w1.heap.size≤k∧k < w4.heap.size) N sa N.length sc from hS.turned (fun _ _=>rfl) (fun k hk=>⟨(by have:=hk.1;simpa using this),hk.2⟩));clear R4 hB hS hsz) | (refine (HC.out ((w1.alloc (.cells #[.int .i64 0,.int .i64 0,.int .i64 0] 32)).drew) (T1.out.below (below_grownBy (grownBy_trans (grownBy_alloc _ _ _) (grownBy_drew _ _))))).mono ?_;rintro e w4 ⟨hB,sa,sc,rfl,hS⟩;have G4:=hid (show w1.grownBy w4 none from grownBy_trans (grownBy_trans (grownBy_alloc _ _ _) (grownBy_drew _ _)) (grownBy_below hB none));have zs:w1.heap.size≤w4.heap.size:=G4.out.size;have R4:=R1.out.grown G4.out (by simp);have g0:=Blk.cell R4 (j:=0) rfl;have g1:=Blk.cell R4 (j:=1) rfl;have g2:=Blk.cell R4 (j:=2) rfl;have hsz:=hB.size;have:b≠w1.heap.size:=(by (first | omega | (simp at hsz;omega)));have:w1.heap.size≠b:=(by (first | omega | (simp at hsz;omega)));have:b≠w4.heap.size:=(by (first | omega | (simp at hsz;omega)));have:w4.heap.size≠b:=(by (first | omega | (simp at hsz;omega)));have S4:=hid (show SetF w4 (fun k=>w1.heap.size+1≤k∧k < w4.heap.size) N sa N.length sc from hS.turned (fun _ _=>rfl) (fun k hk=>⟨(by have:=hk.1;simpa using this),hk.2⟩));have NA:=hid (show Blk w4 w1.heap.size [.int .i64 0,.int .i64 0,.int .i64 0] 32 from Blk.below (w:=(w1.alloc (.cells #[.int .i64 0,.int .i64 0,.int .i64 0] 32)).drew) (Blk.new w1 [.int .i64 0,.int .i64 0,.int .i64 0] 32) hB (by simp));have za:=NA.out.lt;have fa0:=Blk.frozen (NA.out) 0;have ca0:=Blk.cell (NA.out) (j:=0) rfl;have fa1:=Blk.frozen (NA.out) 1;have ca1:=Blk.cell (NA.out) (j:=1) rfl;have fa2:=Blk.frozen (NA.out) 2;have ca2:=Blk.cell (NA.out) (j:=2) rfl;clear R4 hB hS hsz)))
    all_goals first | refine ⟨w4.heap.size,sa,sc,w1.heap.size,w4.heap.size,rfl,rfl,?_⟩ | refine ⟨w1.heap.size,sa,sc,w1.heap.size+1,w4.heap.size,rfl,rfl,?_⟩
    all_goals refine ⟨?_,?_,by omega,?_,by omega,by simp [World.setCell]⟩
    all_goals repeat' (first | with_reducible exact Blk.new _ _ _ | with_reducible exact NA.out | with_reducible refine Blk.sets3 (c0:=.int .i64 0) (c1:=.int .i64 0) (c2:=.int .i64 0) ?_ | with_reducible exact S4.out | with_reducible refine SetF.setCell ?_ _ _ (fun k hk=>by dsimp only;omega) | with_reducible refine SetF.alloc ?_ (fun k hk=>hk.2) _ | with_reducible refine grownBy_new ?_ (by omega) _ _ | with_reducible refine grownBy_trans ?_ (grownBy_alloc _ _ _) | exact G4.out)
  rintro e1 a1 W5 ⟨x6,sa,sc,LO,HI',rfl,rfl,hg,b6,l6,hS,hlo,hhi⟩
  have L5:=hid (L1.out.below (below_grownBy hg))
  have d0:=Blk.cell b6 (j:=0) rfl;have d1:=Blk.cell b6 (j:=1) rfl;have d2:=Blk.cell b6 (j:=2) rfl
  have hz5:=hg.size
  clear hS hg b6 c0 c1 c2
  go_wp2_with fail
  refine (syn_check_bad x a d hx _).mono ?_
  rintro e w6 ⟨rfl,hB⟩
  exact ⟨rfl,rfl,(L5.out.below hB).g⟩
theorem syn_cls (s:ByteArray) (hs:s.size≤100000000):ClsC s:=by
  intro b lo st nv w h hc
  have hp:=h.p
  have hfit:=clsQ_fit s st.p (onB st.f 32) (foldO st.f) h.p h.d
  have hB:=fun W (hW:Tabs W)=>brackets_Class s st.p st.f W h.p hs hW
  rw [show (if onB st.f 1 then some foldF else none)=foldO st.f from rfl]
  cases hx:clsQ s st.p (onB st.f 32) (foldO st.f) with
  | wrong x a d=>
    rw [hx] at hfit hB
    exact atoms_cls_wrong b lo s st nv w h hc [] x a d hfit.1 fun W hW=>(hB W hW).mono fun e w' ⟨h1,h2⟩=>⟨h1,none,0,h2,rfl,⟨Nat.le_refl _,by simp⟩,.inl rfl⟩
  | ok g q=>
    rw [hx] at hfit hB
    refine atoms_cls_ok b lo s st nv w h hc (normL g) q (Nat.le_of_lt hfit.1) hfit.2.1 hfit.2.2 fun W hW=>(hB W hW).mono fun e w' h2=>?_
    obtain ⟨h1,v,out,rfl,hl,hi⟩:=h2
    have hn:=hi.len
    obtain ⟨sa,sc,rfl,hS⟩:=laid_setF hl (by omega)
    rw [normL_is hi]
    exact ⟨h1,sa,sc,rfl,hS⟩
end Go.Proofs.YtnhnldmldnhaoaaGreatDoor
