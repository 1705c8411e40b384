/- The reader of patterns: what begins with a bracket and a question: a name, flags. -/
import Derived.Test.YtnhnldmldnhaoaaGreatDoorSSyOpen
import Derived.Test.YtnhnldmldnhaoaaGreatDoorSSyNames
import Derived.Test.YtnhnldmldnhaoaaGreatDoorSBrText
import Derived.Test.YtnhnldmldnhaoaaGreatDoorSProperty
import Derived.Test.YtnhnldmldnhaoaaGreatDoorSBrFull
set_option maxRecDepth 100000
set_option maxHeartbeats 16000000
open Go.Lib (hid)
namespace Go.Proofs.YtnhnldmldnhaoaaGreatDoor
open Go Go.RowKit Go.Proofs Go.Shelf
def oneR:PR T→PR (List T)
  | .out=>.out
  | .wrong e f t=>.wrong e f t
  | .ok t st=>.ok [t] st
def oneRF (g:Int):PR T→PR (List T)
  | .out=>.out
  | .wrong e f t=>.wrong e f t
  | .ok t st=>.ok [t] { st with f:=g }
def NameRes (s:ByteArray) (st:St) (nm:ByteArray) (q:Nat) (x a d:Int) (b lo:Nat) (nv:Value) (R:PR (List T)):Prop:=
  (x≠0∧R = .wrong x a d)∨(x=0∧a=0∧d=0∧((st.ns.contains nm=true∧R = .wrong 64 st.p q)∨(st.ns.contains nm=false∧st.p < q∧q≤s.size∧Bd s q∧
    ∃ r:PR T,r≠.out∧R=oneR r∧∀ W,SynIn W b lo s { st with p:=q } nv→Calls Tryz.prog 100 #[.pointer (some ⟨b,0,none⟩),.string nm] W (TreeOut W b lo s nv r))))
def FlagsRes (s:ByteArray) (st:St) (g:Int) (grp:Bool) (q:Nat) (x a d:Int) (b lo:Nat) (nv:Value) (R:PR (List T)):Prop:=
  (x≠0∧R = .wrong x a d)∨(x=0∧a=0∧d=0∧st.p < q∧q≤s.size∧Bd s q∧((grp=false∧R = .ok [] { st with p:=q,f:=g })∨(grp=true∧
    ∃ r:PR T,r≠.out∧R=oneRF st.f r∧∀ W,SynIn W b lo s { st with p:=q,f:=g } nv→Calls Tryz.prog 102 #[.pointer (some ⟨b,0,none⟩)] W (TreeOut W b lo s nv r))))
theorem open_name_four (b lo:Nat) (s:ByteArray) (st:St) (nv:Value) (w:World) (h:SynIn w b lo s st nv) (hs:s.size≤100000000) (hP:onB st.f 32=true) (hq:stands s st.p [40,63]=true) (h4:stands s st.p [40,63,80,60]=true) (nm:ByteArray) (q:Nat) (x a d:Int) (R:PR (List T)) (hR:NameRes s st nm q x a d b lo nv R) (hC:∀ W,Calls Tryz.prog 98 #[.string s,.int .i64 (st.p:Int)] W fun e w'=>e = .returned (.tuple #[.string nm,.int .i64 (q:Int),.agg #[.int .i64 x,.int .i64 a,.int .i64 d]])∧Below W.heap.size W w') :
    Calls Tryz.prog 77 #[.pointer (some ⟨b,0,none⟩)] w (ListsOut w b lo s nv (R)):=by
  have hp:=h.p
  have hb:=h.r.lt
  have hll:=h.e.le
  have HC:=hid hC;have HR:=hid hR
  have HI:=hid h
  have g0:=Blk.cell h.r (j:=0) rfl
  clear h hC hR
  go_enter Tryz.func77, Tryz.ntmps77
  go_wp2_with fail
  refine (syn_on st.f 32 _).mono ?_
  rintro e w1 ⟨rfl,hB⟩
  have L1:=hid (HI.out.below hB)
  clear hB g0
  rw [hP]
  go_wp2_with fail
  refine (syn_rest b s st.f st.p nv _ L1.out.i.r hp).mono ?_
  rintro e w2 ⟨rfl,hR,hB⟩
  have L2:=hid (L1.out.below hB)
  clear hR hB
  go_wp2_with fail
  refine (Tryz.strings_HasPrefix _ _ _).mono ?_
  rintro e w3 ⟨rfl,rfl⟩
  rw [tail_toList,show Lib.hasPrefix (List.drop st.p s.data.toList) (⟨#[40,63]⟩:ByteArray).data.toList=true from hq]
  go_wp2_with fail
  refine (syn_rest b s st.f st.p nv _ L2.out.i.r hp).mono ?_
  rintro e w4 ⟨rfl,hR,hB⟩
  have L4:=hid (L2.out.below hB)
  clear hR hB
  go_wp2_with fail
  refine (Tryz.strings_HasPrefix _ _ _).mono ?_
  rintro e w5 ⟨rfl,rfl⟩
  rw [tail_toList,show Lib.hasPrefix (List.drop st.p s.data.toList) (⟨#[40,63,80,60]⟩:ByteArray).data.toList=true from h4]
  have RA:=hid L4.out.i.r
  have TA:=hid L4.out.i.e.t
  have zA:=RA.out.lt
  have c0:=Blk.cell RA.out (j:=0) rfl
  have c1:=Blk.cell RA.out (j:=1) rfl
  have c2:=Blk.cell RA.out (j:=2) rfl
  go_wp2_with fail
  refine Code.wp_mono (Q:=fun e a' w'=>∃ (x6:Nat),e = .normal∧a'={ tmps:=((Value.pointer (some ⟨b,0,none⟩)) :: undef :: (Value.slice none 0 0) :: (Value.bool true) :: (Value.bool true) :: (Value.string nm) :: (Value.int .i64 (q:Int)) :: (Value.pointer (some ⟨x6,0,none⟩)) :: undef :: undef :: undef :: undef :: undef :: undef :: (Value.pointer (some ⟨b,0,none⟩)) :: (Value.pointer (some ⟨b,0,none⟩)) :: (Value.pointer (some ⟨b,0,none⟩)) :: (Value.agg #[.int .i64 st.f]) :: (Value.bool true) :: (Value.bool true) :: (Value.pointer (some ⟨b,0,none⟩)) :: (Value.string (tail s st.p)) :: (Value.bool true) :: (Value.bool true) :: (Value.bool true) :: (Value.bool true) :: (Value.pointer (some ⟨b,0,none⟩)) :: (Value.string (tail s st.p)) :: (Value.bool true) :: (Value.bool true) :: undef :: undef :: undef :: (Value.bool true) :: (Value.bool true) :: (Value.bool true) :: (Value.bool true) :: (Value.tuple #[.string nm,.int .i64 (q:Int),.agg #[.int .i64 x,.int .i64 a,.int .i64 d]]) :: (Value.pointer (some ⟨b,0,none⟩)) :: (Value.pointer (some ⟨b,0,none⟩)) :: (Value.pointer (some ⟨b,1,none⟩)) :: (Value.string s) :: (Value.pointer (some ⟨b,0,none⟩)) :: (Value.pointer (some ⟨b,0,none⟩)) :: (Value.pointer (some ⟨b,2,none⟩)) :: (Value.int .i64 (st.p:Int)) :: (Value.tuple #[.string nm,.int .i64 (q:Int),.agg #[.int .i64 x,.int .i64 a,.int .i64 d]]) :: (Value.string nm) :: (Value.int .i64 (q:Int)) :: (Value.agg #[.int .i64 x,.int .i64 a,.int .i64 d]) :: undef :: undef :: undef :: undef :: undef :: undef :: undef :: undef :: undef :: undef :: undef :: undef :: undef :: undef :: undef :: undef :: undef :: undef :: undef :: undef :: undef :: undef :: undef :: undef :: undef :: undef :: undef :: undef :: undef :: undef :: undef :: undef :: undef :: undef :: undef :: undef :: undef :: undef :: undef :: undef :: undef :: undef :: undef :: undef :: undef :: undef :: undef :: undef :: undef :: undef :: undef :: undef :: undef :: undef :: undef :: undef :: undef :: undef :: undef :: undef :: undef :: undef :: undef :: undef :: undef :: undef :: undef :: undef :: undef :: undef :: undef :: undef :: undef :: undef :: undef :: undef :: undef :: undef :: []:List Value).toArray,defers:=[] }∧w5.grownBy w' none∧Blk w' x6 [.int .i64 x,.int .i64 a,.int .i64 d] 32∧w5.heap.size≤x6) ?_ ?_
  rotate_left
  · go_region_held3 (fun w'=>w'.cell? ⟨b,0,none⟩=some (.int .i64 st.f)∧w'.cell? ⟨b,1,none⟩=some (.string s)∧w'.cell? ⟨b,2,none⟩=some (.int .i64 (st.p:Int))) (go_keep) ((go_at_call 98;first | (refine (HC.out (w5.drew)).mono ?_;rintro e w8 ⟨rfl,hB⟩;have G8:=hid (show w5.grownBy w8 none from grownBy_trans (grownBy_drew _ _) (grownBy_below hB none));have zs:w5.heap.size≤w8.heap.size:=G8.out.size;have R8:=RA.out.grown G8.out (by simp);have g0:=Blk.cell R8 (j:=0) rfl;have g1:=Blk.cell R8 (j:=1) rfl;have g2:=Blk.cell R8 (j:=2) rfl;have hsz:=hB.size;have:b≠w5.heap.size:=(by (first | omega | (simp at hsz;omega)));have:w5.heap.size≠b:=(by (first | omega | (simp at hsz;omega)));have:b≠w8.heap.size:=(by (first | omega | (simp at hsz;omega)));have:w8.heap.size≠b:=(by (first | omega | (simp at hsz;omega)));clear R8 hB hsz) | (refine (HC.out ((w5.alloc (.cells #[.int .i64 0,.int .i64 0,.int .i64 0] 32)).drew)).mono ?_;rintro e w8 ⟨rfl,hB⟩;have G8:=hid (show w5.grownBy w8 none from grownBy_trans (grownBy_trans (grownBy_alloc _ _ _) (grownBy_drew _ _)) (grownBy_below hB none));have zs:w5.heap.size≤w8.heap.size:=G8.out.size;have R8:=RA.out.grown G8.out (by simp);have g0:=Blk.cell R8 (j:=0) rfl;have g1:=Blk.cell R8 (j:=1) rfl;have g2:=Blk.cell R8 (j:=2) rfl;have hsz:=hB.size;have:b≠w5.heap.size:=(by (first | omega | (simp at hsz;omega)));have:w5.heap.size≠b:=(by (first | omega | (simp at hsz;omega)));have:b≠w8.heap.size:=(by (first | omega | (simp at hsz;omega)));have:w8.heap.size≠b:=(by (first | omega | (simp at hsz;omega)));have NA:=hid (show Blk w8 w5.heap.size [.int .i64 0,.int .i64 0,.int .i64 0] 32 from Blk.below (w:=(w5.alloc (.cells #[.int .i64 0,.int .i64 0,.int .i64 0] 32)).drew) (Blk.new w5 [.int .i64 0,.int .i64 0,.int .i64 0] 32) hB (by simp));have za:=NA.out.lt;have fa0:=Blk.frozen (NA.out) 0;have ca0:=Blk.cell (NA.out) (j:=0) rfl;have fa1:=Blk.frozen (NA.out) 1;have ca1:=Blk.cell (NA.out) (j:=1) rfl;have fa2:=Blk.frozen (NA.out) 2;have ca2:=Blk.cell (NA.out) (j:=2) rfl;clear R8 hB hsz)))
    all_goals first | refine ⟨w8.heap.size,rfl,rfl,?_⟩ | refine ⟨w5.heap.size,rfl,rfl,?_⟩
    all_goals refine ⟨?_,?_,by omega⟩
    all_goals repeat' (first | with_reducible exact Blk.new _ _ _ | with_reducible exact NA.out | with_reducible refine Blk.sets3 (c0:=.int .i64 0) (c1:=.int .i64 0) (c2:=.int .i64 0) ?_ | with_reducible refine grownBy_new ?_ (by omega) _ _ | with_reducible refine grownBy_trans ?_ (grownBy_alloc _ _ _) | exact G8.out)
  rintro e1 a1 W9 ⟨x6,rfl,rfl,hg,b6,l6⟩
  have L9:=hid (L4.out.below (below_grownBy hg))
  have d0:=Blk.cell b6 (j:=0) rfl;have d1:=Blk.cell b6 (j:=1) rfl;have d2:=Blk.cell b6 (j:=2) rfl
  have hz9:=hg.size
  clear hg b6 c0 c1 c2
  go_wp2_with fail
  rcases HR.out with ⟨hx,rfl⟩ | ⟨rfl,rfl,rfl,hok⟩
  · refine (syn_check_bad x a d hx _).mono ?_
    rintro e wa ⟨rfl,hB⟩
    exact ⟨rfl,rfl,(L9.out.below hB).g⟩
  refine (syn_check_ok 0 0 _).mono ?_
  rintro e wa ⟨rfl,hB⟩
  have LA:=hid (L9.out.below hB)
  clear hB d0 d1 d2
  obtain ⟨na,nc,rfl,hns⟩:=names_form LA.out.i.o
  have HNS:=hid hns
  have hnl:st.ns.length≤1000000000:=by have:=HI.out.m;omega
  have c3:=Blk.cell LA.out.i.r (j:=3) rfl
  clear hns
  go_wp2_with fail
  refine (contains_str na nc st.ns nm _ hnl HNS.out).mono ?_
  rintro e wb ⟨rfl,rfl⟩
  have c2:=Blk.cell LA.out.i.r (j:=2) rfl
  have f2:=LA.out.i.r.frozen 2
  rcases hok with ⟨hn,rfl⟩ | ⟨hn,hqp,hqs,hqb,r,hr,rfl,hG⟩
  · rw [hn]
    go_wp2_with fail
    refine (syn_stop 64 _ _ _).mono ?_
    rintro e wc ⟨rfl,rfl⟩
    exact ⟨rfl,rfl,LA.out.g⟩
  rw [hn]
  have HG:=hid hG
  clear hG
  have hm:=HI.out.m
  have LB:=hid (LA.out.grown (st':={ st with p:=q }) (Blk.set LA.out.i.r 2 _) (grownBy_setCell _ _ _ _) rfl hqs hqb (by show st.ns.length≤q;omega))
  go_wp2_with fail
  refine (HG.out _ LB.out.i).mono ?_
  intro e wc hT
  cases r with
  | out=>exact absurd rfl hr
  | wrong e1 f1 t1=>
    obtain ⟨rfl,hg⟩:=hT
    exact ⟨rfl,rfl,LB.out.g.trans hg LB.out.mine⟩
  | ok t st1=>
    obtain ⟨cs,nv1,rfl,hT,hL⟩:=hT
    obtain ⟨op,ka,kn,kc,rune,xa,xn,xc,pl,cap,name,mn,mx,lz,rfl⟩:=hT.form
    have L6:=hid (LB.out.trans hL);have T6:=hid (tree_down hT LB.out.g.size)
    clear hT hL
    go_wp2_with fail
    go_ret
    exact ⟨_,_,nv1,rfl,row_single T6.out L6.out.g.size (fun k hk=>(L6.out.i.o.lt k hk).2),L6.out.below ((Below.refl _ _).alloc (Nat.le_refl _) _)⟩
theorem open_name_three (b lo:Nat) (s:ByteArray) (st:St) (nv:Value) (w:World) (h:SynIn w b lo s st nv) (hs:s.size≤100000000) (hP:onB st.f 32=true) (hq:stands s st.p [40,63]=true) (h4:stands s st.p [40,63,80,60]=false) (h3:stands s st.p [40,63,60]=true) (nm:ByteArray) (q:Nat) (x a d:Int) (R:PR (List T)) (hR:NameRes s st nm q x a d b lo nv R) (hC:∀ W,Calls Tryz.prog 98 #[.string s,.int .i64 (st.p:Int)] W fun e w'=>e = .returned (.tuple #[.string nm,.int .i64 (q:Int),.agg #[.int .i64 x,.int .i64 a,.int .i64 d]])∧Below W.heap.size W w') :
    Calls Tryz.prog 77 #[.pointer (some ⟨b,0,none⟩)] w (ListsOut w b lo s nv (R)):=by
  have hp:=h.p
  have hb:=h.r.lt
  have hll:=h.e.le
  have HC:=hid hC;have HR:=hid hR
  have HI:=hid h
  have g0:=Blk.cell h.r (j:=0) rfl
  clear h hC hR
  go_enter Tryz.func77, Tryz.ntmps77
  go_wp2_with fail
  refine (syn_on st.f 32 _).mono ?_
  rintro e w1 ⟨rfl,hB⟩
  have L1:=hid (HI.out.below hB)
  clear hB g0
  rw [hP]
  go_wp2_with fail
  refine (syn_rest b s st.f st.p nv _ L1.out.i.r hp).mono ?_
  rintro e w2 ⟨rfl,hR,hB⟩
  have L2:=hid (L1.out.below hB)
  clear hR hB
  go_wp2_with fail
  refine (Tryz.strings_HasPrefix _ _ _).mono ?_
  rintro e w3 ⟨rfl,rfl⟩
  rw [tail_toList,show Lib.hasPrefix (List.drop st.p s.data.toList) (⟨#[40,63]⟩:ByteArray).data.toList=true from hq]
  go_wp2_with fail
  refine (syn_rest b s st.f st.p nv _ L2.out.i.r hp).mono ?_
  rintro e w4 ⟨rfl,hR,hB⟩
  have L4:=hid (L2.out.below hB)
  clear hR hB
  go_wp2_with fail
  refine (Tryz.strings_HasPrefix _ _ _).mono ?_
  rintro e w5 ⟨rfl,rfl⟩
  rw [tail_toList,show Lib.hasPrefix (List.drop st.p s.data.toList) (⟨#[40,63,80,60]⟩:ByteArray).data.toList=false from h4]
  go_wp2_with fail
  refine (syn_rest b s st.f st.p nv _ L4.out.i.r hp).mono ?_
  rintro e w6 ⟨rfl,hR,hB⟩
  have L6:=hid (L4.out.below hB)
  clear hR hB
  go_wp2_with fail
  refine (Tryz.strings_HasPrefix _ _ _).mono ?_
  rintro e w7 ⟨rfl,rfl⟩
  rw [tail_toList,show Lib.hasPrefix (List.drop st.p s.data.toList) (⟨#[40,63,60]⟩:ByteArray).data.toList=true from h3]
  have RA:=hid L6.out.i.r
  have TA:=hid L6.out.i.e.t
  have zA:=RA.out.lt
  have c0:=Blk.cell RA.out (j:=0) rfl
  have c1:=Blk.cell RA.out (j:=1) rfl
  have c2:=Blk.cell RA.out (j:=2) rfl
  go_wp2_with fail
  refine Code.wp_mono (Q:=fun e a' w'=>∃ (x6:Nat),e = .normal∧a'={ tmps:=((Value.pointer (some ⟨b,0,none⟩)) :: undef :: (Value.slice none 0 0) :: (Value.bool true) :: (Value.bool true) :: (Value.string nm) :: (Value.int .i64 (q:Int)) :: (Value.pointer (some ⟨x6,0,none⟩)) :: undef :: undef :: undef :: undef :: undef :: undef :: (Value.pointer (some ⟨b,0,none⟩)) :: (Value.pointer (some ⟨b,0,none⟩)) :: (Value.pointer (some ⟨b,0,none⟩)) :: (Value.agg #[.int .i64 st.f]) :: (Value.bool true) :: (Value.bool true) :: (Value.pointer (some ⟨b,0,none⟩)) :: (Value.string (tail s st.p)) :: (Value.bool true) :: (Value.bool true) :: (Value.bool true) :: (Value.bool true) :: (Value.pointer (some ⟨b,0,none⟩)) :: (Value.string (tail s st.p)) :: (Value.bool false) :: (Value.bool false) :: (Value.pointer (some ⟨b,0,none⟩)) :: (Value.string (tail s st.p)) :: (Value.bool true) :: (Value.bool true) :: (Value.bool true) :: (Value.bool true) :: (Value.bool true) :: (Value.tuple #[.string nm,.int .i64 (q:Int),.agg #[.int .i64 x,.int .i64 a,.int .i64 d]]) :: (Value.pointer (some ⟨b,0,none⟩)) :: (Value.pointer (some ⟨b,0,none⟩)) :: (Value.pointer (some ⟨b,1,none⟩)) :: (Value.string s) :: (Value.pointer (some ⟨b,0,none⟩)) :: (Value.pointer (some ⟨b,0,none⟩)) :: (Value.pointer (some ⟨b,2,none⟩)) :: (Value.int .i64 (st.p:Int)) :: (Value.tuple #[.string nm,.int .i64 (q:Int),.agg #[.int .i64 x,.int .i64 a,.int .i64 d]]) :: (Value.string nm) :: (Value.int .i64 (q:Int)) :: (Value.agg #[.int .i64 x,.int .i64 a,.int .i64 d]) :: undef :: undef :: undef :: undef :: undef :: undef :: undef :: undef :: undef :: undef :: undef :: undef :: undef :: undef :: undef :: undef :: undef :: undef :: undef :: undef :: undef :: undef :: undef :: undef :: undef :: undef :: undef :: undef :: undef :: undef :: undef :: undef :: undef :: undef :: undef :: undef :: undef :: undef :: undef :: undef :: undef :: undef :: undef :: undef :: undef :: undef :: undef :: undef :: undef :: undef :: undef :: undef :: undef :: undef :: undef :: undef :: undef :: undef :: undef :: undef :: undef :: undef :: undef :: undef :: undef :: undef :: undef :: undef :: undef :: undef :: undef :: undef :: undef :: undef :: undef :: undef :: undef :: undef :: []:List Value).toArray,defers:=[] }∧w7.grownBy w' none∧Blk w' x6 [.int .i64 x,.int .i64 a,.int .i64 d] 32∧w7.heap.size≤x6) ?_ ?_
  rotate_left
  · go_region_held3 (fun w'=>w'.cell? ⟨b,0,none⟩=some (.int .i64 st.f)∧w'.cell? ⟨b,1,none⟩=some (.string s)∧w'.cell? ⟨b,2,none⟩=some (.int .i64 (st.p:Int))) (go_keep) ((go_at_call 98;first | (refine (HC.out (w7.drew)).mono ?_;rintro e w8 ⟨rfl,hB⟩;have G8:=hid (show w7.grownBy w8 none from grownBy_trans (grownBy_drew _ _) (grownBy_below hB none));have zs:w7.heap.size≤w8.heap.size:=G8.out.size;have R8:=RA.out.grown G8.out (by simp);have g0:=Blk.cell R8 (j:=0) rfl;have g1:=Blk.cell R8 (j:=1) rfl;have g2:=Blk.cell R8 (j:=2) rfl;have hsz:=hB.size;have:b≠w7.heap.size:=(by (first | omega | (simp at hsz;omega)));have:w7.heap.size≠b:=(by (first | omega | (simp at hsz;omega)));have:b≠w8.heap.size:=(by (first | omega | (simp at hsz;omega)));have:w8.heap.size≠b:=(by (first | omega | (simp at hsz;omega)));clear R8 hB hsz) | (refine (HC.out ((w7.alloc (.cells #[.int .i64 0,.int .i64 0,.int .i64 0] 32)).drew)).mono ?_;rintro e w8 ⟨rfl,hB⟩;have G8:=hid (show w7.grownBy w8 none from grownBy_trans (grownBy_trans (grownBy_alloc _ _ _) (grownBy_drew _ _)) (grownBy_below hB none));have zs:w7.heap.size≤w8.heap.size:=G8.out.size;have R8:=RA.out.grown G8.out (by simp);have g0:=Blk.cell R8 (j:=0) rfl;have g1:=Blk.cell R8 (j:=1) rfl;have g2:=Blk.cell R8 (j:=2) rfl;have hsz:=hB.size;have:b≠w7.heap.size:=(by (first | omega | (simp at hsz;omega)));have:w7.heap.size≠b:=(by (first | omega | (simp at hsz;omega)));have:b≠w8.heap.size:=(by (first | omega | (simp at hsz;omega)));have:w8.heap.size≠b:=(by (first | omega | (simp at hsz;omega)));have NA:=hid (show Blk w8 w7.heap.size [.int .i64 0,.int .i64 0,.int .i64 0] 32 from Blk.below (w:=(w7.alloc (.cells #[.int .i64 0,.int .i64 0,.int .i64 0] 32)).drew) (Blk.new w7 [.int .i64 0,.int .i64 0,.int .i64 0] 32) hB (by simp));have za:=NA.out.lt;have fa0:=Blk.frozen (NA.out) 0;have ca0:=Blk.cell (NA.out) (j:=0) rfl;have fa1:=Blk.frozen (NA.out) 1;have ca1:=Blk.cell (NA.out) (j:=1) rfl;have fa2:=Blk.frozen (NA.out) 2;have ca2:=Blk.cell (NA.out) (j:=2) rfl;clear R8 hB hsz)))
    all_goals first | refine ⟨w8.heap.size,rfl,rfl,?_⟩ | refine ⟨w7.heap.size,rfl,rfl,?_⟩
    all_goals refine ⟨?_,?_,by omega⟩
    all_goals repeat' (first | with_reducible exact Blk.new _ _ _ | with_reducible exact NA.out | with_reducible refine Blk.sets3 (c0:=.int .i64 0) (c1:=.int .i64 0) (c2:=.int .i64 0) ?_ | with_reducible refine grownBy_new ?_ (by omega) _ _ | with_reducible refine grownBy_trans ?_ (grownBy_alloc _ _ _) | exact G8.out)
  rintro e1 a1 W9 ⟨x6,rfl,rfl,hg,b6,l6⟩
  have L9:=hid (L6.out.below (below_grownBy hg))
  have d0:=Blk.cell b6 (j:=0) rfl;have d1:=Blk.cell b6 (j:=1) rfl;have d2:=Blk.cell b6 (j:=2) rfl
  have hz9:=hg.size
  clear hg b6 c0 c1 c2
  go_wp2_with fail
  rcases HR.out with ⟨hx,rfl⟩ | ⟨rfl,rfl,rfl,hok⟩
  · refine (syn_check_bad x a d hx _).mono ?_
    rintro e wa ⟨rfl,hB⟩
    exact ⟨rfl,rfl,(L9.out.below hB).g⟩
  refine (syn_check_ok 0 0 _).mono ?_
  rintro e wa ⟨rfl,hB⟩
  have LA:=hid (L9.out.below hB)
  clear hB d0 d1 d2
  obtain ⟨na,nc,rfl,hns⟩:=names_form LA.out.i.o
  have HNS:=hid hns
  have hnl:st.ns.length≤1000000000:=by have:=HI.out.m;omega
  have c3:=Blk.cell LA.out.i.r (j:=3) rfl
  clear hns
  go_wp2_with fail
  refine (contains_str na nc st.ns nm _ hnl HNS.out).mono ?_
  rintro e wb ⟨rfl,rfl⟩
  have c2:=Blk.cell LA.out.i.r (j:=2) rfl
  have f2:=LA.out.i.r.frozen 2
  rcases hok with ⟨hn,rfl⟩ | ⟨hn,hqp,hqs,hqb,r,hr,rfl,hG⟩
  · rw [hn]
    go_wp2_with fail
    refine (syn_stop 64 _ _ _).mono ?_
    rintro e wc ⟨rfl,rfl⟩
    exact ⟨rfl,rfl,LA.out.g⟩
  rw [hn]
  have HG:=hid hG
  clear hG
  have hm:=HI.out.m
  have LB:=hid (LA.out.grown (st':={ st with p:=q }) (Blk.set LA.out.i.r 2 _) (grownBy_setCell _ _ _ _) rfl hqs hqb (by show st.ns.length≤q;omega))
  go_wp2_with fail
  refine (HG.out _ LB.out.i).mono ?_
  intro e wc hT
  cases r with
  | out=>exact absurd rfl hr
  | wrong e1 f1 t1=>
    obtain ⟨rfl,hg⟩:=hT
    exact ⟨rfl,rfl,LB.out.g.trans hg LB.out.mine⟩
  | ok t st1=>
    obtain ⟨cs,nv1,rfl,hT,hL⟩:=hT
    obtain ⟨op,ka,kn,kc,rune,xa,xn,xc,pl,cap,name,mn,mx,lz,rfl⟩:=hT.form
    have L6:=hid (LB.out.trans hL);have T6:=hid (tree_down hT LB.out.g.size)
    clear hT hL
    go_wp2_with fail
    go_ret
    exact ⟨_,_,nv1,rfl,row_single T6.out L6.out.g.size (fun k hk=>(L6.out.i.o.lt k hk).2),L6.out.below ((Below.refl _ _).alloc (Nat.le_refl _) _)⟩
theorem open_flags (b lo:Nat) (s:ByteArray) (st:St) (nv:Value) (w:World) (h:SynIn w b lo s st nv) (hP:onB st.f 32=true) (hq:stands s st.p [40,63]=true) (h4:stands s st.p [40,63,80,60]=false) (h3:stands s st.p [40,63,60]=false) (g:Int) (grp:Bool) (q:Nat) (x a d:Int) (R:PR (List T)) (hR:FlagsRes s st g grp q x a d b lo nv R) (hC:∀ W,Tabs W→Calls Tryz.prog 101 #[.string s,.int .i64 (st.p:Int),.int .i64 st.f] W fun e w'=>e = .returned (.tuple #[.int .i64 g,.bool grp,.int .i64 (q:Int),.agg #[.int .i64 x,.int .i64 a,.int .i64 d]])∧Below W.heap.size W w') :
    Calls Tryz.prog 77 #[.pointer (some ⟨b,0,none⟩)] w (ListsOut w b lo s nv (R)):=by
  have hp:=h.p
  have hb:=h.r.lt
  have hll:=h.e.le
  have HC:=hid hC;have HR:=hid hR
  have HI:=hid h
  have g0:=Blk.cell h.r (j:=0) rfl
  clear h hC hR
  go_enter Tryz.func77, Tryz.ntmps77
  go_wp2_with fail
  refine (syn_on st.f 32 _).mono ?_
  rintro e w1 ⟨rfl,hB⟩
  have L1:=hid (HI.out.below hB)
  clear hB g0
  rw [hP]
  go_wp2_with fail
  refine (syn_rest b s st.f st.p nv _ L1.out.i.r hp).mono ?_
  rintro e w2 ⟨rfl,hR,hB⟩
  have L2:=hid (L1.out.below hB)
  clear hR hB
  go_wp2_with fail
  refine (Tryz.strings_HasPrefix _ _ _).mono ?_
  rintro e w3 ⟨rfl,rfl⟩
  rw [tail_toList,show Lib.hasPrefix (List.drop st.p s.data.toList) (⟨#[40,63]⟩:ByteArray).data.toList=true from hq]
  go_wp2_with fail
  refine (syn_rest b s st.f st.p nv _ L2.out.i.r hp).mono ?_
  rintro e w4 ⟨rfl,hR,hB⟩
  have L4:=hid (L2.out.below hB)
  clear hR hB
  go_wp2_with fail
  refine (Tryz.strings_HasPrefix _ _ _).mono ?_
  rintro e w5 ⟨rfl,rfl⟩
  rw [tail_toList,show Lib.hasPrefix (List.drop st.p s.data.toList) (⟨#[40,63,80,60]⟩:ByteArray).data.toList=false from h4]
  go_wp2_with fail
  refine (syn_rest b s st.f st.p nv _ L4.out.i.r hp).mono ?_
  rintro e w6 ⟨rfl,hR,hB⟩
  have L6:=hid (L4.out.below hB)
  clear hR hB
  go_wp2_with fail
  refine (Tryz.strings_HasPrefix _ _ _).mono ?_
  rintro e w7 ⟨rfl,rfl⟩
  rw [tail_toList,show Lib.hasPrefix (List.drop st.p s.data.toList) (⟨#[40,63,60]⟩:ByteArray).data.toList=false from h3]
  have RA:=hid L6.out.i.r
  have TA:=hid L6.out.i.e.t
  have zA:=RA.out.lt
  have c0:=Blk.cell RA.out (j:=0) rfl
  have c1:=Blk.cell RA.out (j:=1) rfl
  have c2:=Blk.cell RA.out (j:=2) rfl
  go_wp2_with fail
  refine Code.wp_mono (Q:=fun e a' w'=>∃ (x6:Nat),e = .normal∧a'={ tmps:=((Value.pointer (some ⟨b,0,none⟩)) :: undef :: (Value.slice none 0 0) :: (Value.bool true) :: (Value.bool false) :: undef :: undef :: undef :: (Value.int .i64 g) :: (Value.bool grp) :: (Value.int .i64 (q:Int)) :: (Value.pointer (some ⟨x6,0,none⟩)) :: undef :: undef :: (Value.pointer (some ⟨b,0,none⟩)) :: (Value.pointer (some ⟨b,0,none⟩)) :: (Value.pointer (some ⟨b,0,none⟩)) :: (Value.agg #[.int .i64 st.f]) :: (Value.bool true) :: (Value.bool true) :: (Value.pointer (some ⟨b,0,none⟩)) :: (Value.string (tail s st.p)) :: (Value.bool true) :: (Value.bool true) :: (Value.bool true) :: (Value.bool true) :: (Value.pointer (some ⟨b,0,none⟩)) :: (Value.string (tail s st.p)) :: (Value.bool false) :: (Value.bool false) :: (Value.pointer (some ⟨b,0,none⟩)) :: (Value.string (tail s st.p)) :: (Value.bool false) :: (Value.bool false) :: (Value.bool false) :: (Value.bool false) :: (Value.bool false) :: undef :: undef :: undef :: undef :: undef :: undef :: undef :: undef :: undef :: undef :: undef :: undef :: undef :: undef :: undef :: undef :: undef :: undef :: undef :: undef :: undef :: undef :: undef :: undef :: undef :: undef :: undef :: undef :: undef :: undef :: undef :: undef :: undef :: undef :: undef :: (Value.bool true) :: (Value.bool true) :: (Value.tuple #[.int .i64 g,.bool grp,.int .i64 (q:Int),.agg #[.int .i64 x,.int .i64 a,.int .i64 d]]) :: (Value.pointer (some ⟨b,0,none⟩)) :: (Value.pointer (some ⟨b,0,none⟩)) :: (Value.pointer (some ⟨b,1,none⟩)) :: (Value.string s) :: (Value.pointer (some ⟨b,0,none⟩)) :: (Value.pointer (some ⟨b,0,none⟩)) :: (Value.pointer (some ⟨b,2,none⟩)) :: (Value.int .i64 (st.p:Int)) :: (Value.pointer (some ⟨b,0,none⟩)) :: (Value.pointer (some ⟨b,0,none⟩)) :: (Value.pointer (some ⟨b,0,none⟩)) :: (Value.pointer (some ⟨b,0,none⟩)) :: (Value.int .i64 st.f) :: (Value.tuple #[.int .i64 g,.bool grp,.int .i64 (q:Int),.agg #[.int .i64 x,.int .i64 a,.int .i64 d]]) :: (Value.int .i64 g) :: (Value.bool grp) :: (Value.int .i64 (q:Int)) :: (Value.agg #[.int .i64 x,.int .i64 a,.int .i64 d]) :: undef :: undef :: undef :: undef :: undef :: undef :: undef :: undef :: undef :: undef :: undef :: undef :: undef :: undef :: undef :: undef :: undef :: undef :: undef :: undef :: undef :: undef :: undef :: undef :: undef :: undef :: undef :: undef :: undef :: undef :: undef :: undef :: undef :: undef :: undef :: []:List Value).toArray,defers:=[] }∧w7.grownBy w' none∧Blk w' x6 [.int .i64 x,.int .i64 a,.int .i64 d] 32∧w7.heap.size≤x6) ?_ ?_
  rotate_left
  · go_region_held3 (fun w'=>w'.cell? ⟨b,0,none⟩=some (.int .i64 st.f)∧w'.cell? ⟨b,1,none⟩=some (.string s)∧w'.cell? ⟨b,2,none⟩=some (.int .i64 (st.p:Int))) (go_keep) ((go_at_call 101;first | (refine (HC.out (w7.drew) (TA.out.below (below_grownBy (grownBy_drew _ _)))).mono ?_;rintro e w8 ⟨rfl,hB⟩;have G8:=hid (show w7.grownBy w8 none from grownBy_trans (grownBy_drew _ _) (grownBy_below hB none));have zs:w7.heap.size≤w8.heap.size:=G8.out.size;have R8:=RA.out.grown G8.out (by simp);have g0:=Blk.cell R8 (j:=0) rfl;have g1:=Blk.cell R8 (j:=1) rfl;have g2:=Blk.cell R8 (j:=2) rfl;have hsz:=hB.size;have:b≠w7.heap.size:=(by (first | omega | (simp at hsz;omega)));have:w7.heap.size≠b:=(by (first | omega | (simp at hsz;omega)));have:b≠w8.heap.size:=(by (first | omega | (simp at hsz;omega)));have:w8.heap.size≠b:=(by (first | omega | (simp at hsz;omega)));clear R8 hB hsz) | (refine (HC.out ((w7.alloc (.cells #[.int .i64 0,.int .i64 0,.int .i64 0] 32)).drew) (TA.out.below (below_grownBy (grownBy_trans (grownBy_alloc _ _ _) (grownBy_drew _ _))))).mono ?_;rintro e w8 ⟨rfl,hB⟩;have G8:=hid (show w7.grownBy w8 none from grownBy_trans (grownBy_trans (grownBy_alloc _ _ _) (grownBy_drew _ _)) (grownBy_below hB none));have zs:w7.heap.size≤w8.heap.size:=G8.out.size;have R8:=RA.out.grown G8.out (by simp);have g0:=Blk.cell R8 (j:=0) rfl;have g1:=Blk.cell R8 (j:=1) rfl;have g2:=Blk.cell R8 (j:=2) rfl;have hsz:=hB.size;have:b≠w7.heap.size:=(by (first | omega | (simp at hsz;omega)));have:w7.heap.size≠b:=(by (first | omega | (simp at hsz;omega)));have:b≠w8.heap.size:=(by (first | omega | (simp at hsz;omega)));have:w8.heap.size≠b:=(by (first | omega | (simp at hsz;omega)));have NA:=hid (show Blk w8 w7.heap.size [.int .i64 0,.int .i64 0,.int .i64 0] 32 from Blk.below (w:=(w7.alloc (.cells #[.int .i64 0,.int .i64 0,.int .i64 0] 32)).drew) (Blk.new w7 [.int .i64 0,.int .i64 0,.int .i64 0] 32) hB (by simp));have za:=NA.out.lt;have fa0:=Blk.frozen (NA.out) 0;have ca0:=Blk.cell (NA.out) (j:=0) rfl;have fa1:=Blk.frozen (NA.out) 1;have ca1:=Blk.cell (NA.out) (j:=1) rfl;have fa2:=Blk.frozen (NA.out) 2;have ca2:=Blk.cell (NA.out) (j:=2) rfl;clear R8 hB hsz)))
    all_goals first | refine ⟨w8.heap.size,rfl,rfl,?_⟩ | refine ⟨w7.heap.size,rfl,rfl,?_⟩
    all_goals refine ⟨?_,?_,by omega⟩
    all_goals repeat' (first | with_reducible exact Blk.new _ _ _ | with_reducible exact NA.out | with_reducible refine Blk.sets3 (c0:=.int .i64 0) (c1:=.int .i64 0) (c2:=.int .i64 0) ?_ | with_reducible refine grownBy_new ?_ (by omega) _ _ | with_reducible refine grownBy_trans ?_ (grownBy_alloc _ _ _) | exact G8.out)
  rintro e1 a1 W9 ⟨x6,rfl,rfl,hg,b6,l6⟩
  have L9:=hid (L6.out.below (below_grownBy hg))
  have d0:=Blk.cell b6 (j:=0) rfl;have d1:=Blk.cell b6 (j:=1) rfl;have d2:=Blk.cell b6 (j:=2) rfl
  have hz9:=hg.size
  clear hg b6 c0 c1 c2
  go_wp2_with fail
  rcases HR.out with ⟨hx,rfl⟩ | ⟨rfl,rfl,rfl,hok⟩
  · refine (syn_check_bad x a d hx _).mono ?_
    rintro e wa ⟨rfl,hB⟩
    exact ⟨rfl,rfl,(L9.out.below hB).g⟩
  refine (syn_check_ok 0 0 _).mono ?_
  rintro e wa ⟨rfl,hB⟩
  have LA:=hid (L9.out.below hB)
  clear hB d0 d1 d2
  obtain ⟨hqp,hqs,hqb,hok⟩:=hok
  have c2:=Blk.cell LA.out.i.r (j:=2) rfl
  have f2:=LA.out.i.r.frozen 2
  have c0:=Blk.cell LA.out.i.r (j:=0) rfl
  have f0:=LA.out.i.r.frozen 0
  have hm:=HI.out.m
  have hbA:=LA.out.i.r.lt
  have LB:=hid (LA.out.grown (st':={ st with p:=q,f:=g }) (Blk.set (Blk.set LA.out.i.r 2 (.int .i64 (q:Int))) 0 (.int .i64 g)) (grownBy_trans (grownBy_setCell _ _ _ _) (grownBy_setCell _ _ _ _)) rfl hqs hqb (by show st.ns.length≤q;omega))
  have hzB:((wa.setCell ⟨b,2,none⟩ (.int .i64 (q:Int))).setCell ⟨b,0,none⟩ (.int .i64 g)).heap.size=wa.heap.size:=by simp [World.setCell]
  have LD:=hid (LB.out.below ((Below.refl _ _).alloc (Nat.le_refl _) (.cells #[.int .i64 st.f] 49)))
  have MD:=hid (show Blk (((wa.setCell ⟨b,2,none⟩ (.int .i64 (q:Int))).setCell ⟨b,0,none⟩ (.int .i64 g)).alloc (.cells #[.int .i64 st.f] 49)) wa.heap.size [.int .i64 st.f] 49 by
    have:=Blk.new ((wa.setCell ⟨b,2,none⟩ (.int .i64 (q:Int))).setCell ⟨b,0,none⟩ (.int .i64 g)) [.int .i64 st.f] 49
    rwa [hzB] at this)
  have hne:b≠wa.heap.size:=by omega
  have hne':wa.heap.size≠b:=by omega
  rcases hok with ⟨rfl,rfl⟩ | ⟨rfl,r,hr,rfl,hG⟩
  · go_wp2_with fail
    go_ret
    exact ⟨.slice none 0 0,[],nv,rfl,RowF.nil _ _ _,LD.out⟩
  have HG:=hid hG
  clear hG
  go_wp2_with fail
  clear c0 c2 f0 f2
  refine (HG.out _ LD.out.i).mono ?_
  intro e wc hT
  cases r with
  | out=>exact absurd rfl hr
  | wrong e1 f1 t1=>
    obtain ⟨rfl,hg⟩:=hT
    exact ⟨rfl,rfl,LD.out.g.trans hg LD.out.mine⟩
  | ok t st1=>
    obtain ⟨cs,nv1,rfl,hT,hL⟩:=hT
    obtain ⟨op,ka,kn,kc,rune,xa,xn,xc,pl,cap,name,mn,mx,lz,rfl⟩:=hT.form
    have ME:=hid (MD.out.grownF hL.g (by rintro (h2 | h2);exact hne' h2;exact absurd h2 (fun e=>by have:=(LA.out.i.o.lt _ e).2;omega)))
    have LE:=hid (LD.out.trans hL);have TE:=hid (tree_down hT LD.out.g.size)
    have HV:=hid hL.v
    clear hT hL
    have mF:=Blk.cell (Blk.alloc ME.out (.cells #[.int .i64 op,.slice ka kn kc,.int .i32 rune,.slice xa xn xc,.int .i64 pl,.int .i64 cap,.string name,.int .i64 mn,.int .i64 mx,.bool lz] 29)) (j:=0) rfl
    have mE:=Blk.cell ME.out (j:=0) rfl
    have c0:=Blk.cell LE.out.i.r (j:=0) rfl
    have f0:=LE.out.i.r.frozen 0
    have hbc:b < wc.heap.size:=LE.out.i.r.lt
    have hnb:b≠wc.heap.size:=by omega
    have hnb':wc.heap.size≠b:=by omega
    have hzE:(wc.setCell ⟨b,0,none⟩ (.int .i64 st.f)).heap.size=wc.heap.size:=by simp [World.setCell]
    have LF:=hid (LE.out.grown (st':={ st1 with f:=st.f }) (Blk.set LE.out.i.r 0 (.int .i64 st.f)) (grownBy_setCell _ _ _ _) rfl LE.out.i.p LE.out.i.d LE.out.i.m)
    have LG:=hid (LF.out.below ((Below.refl _ _).alloc (Nat.le_refl _) (.cells #[.int .i64 op,.slice ka kn kc,.int .i32 rune,.slice xa xn xc,.int .i64 pl,.int .i64 cap,.string name,.int .i64 mn,.int .i64 mx,.bool lz] 29)))
    have NF:=hid (show Blk ((wc.setCell ⟨b,0,none⟩ (.int .i64 st.f)).alloc (.cells #[.int .i64 op,.slice ka kn kc,.int .i32 rune,.slice xa xn xc,.int .i64 pl,.int .i64 cap,.string name,.int .i64 mn,.int .i64 mx,.bool lz] 29)) wc.heap.size [.int .i64 op,.slice ka kn kc,.int .i32 rune,.slice xa xn xc,.int .i64 pl,.int .i64 cap,.string name,.int .i64 mn,.int .i64 mx,.bool lz] 29 by
      have:=Blk.new (wc.setCell ⟨b,0,none⟩ (.int .i64 st.f)) [.int .i64 op,.slice ka kn kc,.int .i32 rune,.slice xa xn xc,.int .i64 pl,.int .i64 cap,.string name,.int .i64 mn,.int .i64 mx,.bool lz] 29
      rwa [hzE] at this)
    obtain ⟨k0,k1,k2,k3,k4,k5,k6,k7,k8,k9,q0,q1,q2,q3,q4,q5,q6,q7,q8,q9⟩:=NF.out.ten
    have TG:=hid (show TreeF ((wc.setCell ⟨b,0,none⟩ (.int .i64 st.f)).alloc (.cells #[.int .i64 op,.slice ka kn kc,.int .i32 rune,.slice xa xn xc,.int .i64 pl,.int .i64 cap,.string name,.int .i64 mn,.int .i64 mx,.bool lz] 29)) (FreshN w ((wc.setCell ⟨b,0,none⟩ (.int .i64 st.f)).alloc (.cells #[.int .i64 op,.slice ka kn kc,.int .i32 rune,.slice xa xn xc,.int .i64 pl,.int .i64 cap,.string name,.int .i64 mn,.int .i64 mx,.bool lz] 29)) nv1) t _ from
      TE.out.turned (fun k hk=>by rw [Below.heap_alloc _ _ k (by rw [hzE];exact hk.1.2),Below.heap_setCell _ ⟨b,0,none⟩ _ k (by show k≠b;have:=hk.1.1;have:=HI.out.r.lt;omega)]) (fun k hk=>⟨⟨hk.1.1,by have:=hk.1.2;simp [World.setCell];omega⟩,hk.2⟩))
    have hzG:((wc.setCell ⟨b,0,none⟩ (.int .i64 st.f)).alloc (.cells #[.int .i64 op,.slice ka kn kc,.int .i32 rune,.slice xa xn xc,.int .i64 pl,.int .i64 cap,.string name,.int .i64 mn,.int .i64 mx,.bool lz] 29)).heap.size=wc.heap.size+1:=by simp [World.setCell]
    have RS:=row_single TG.out LG.out.g.size (fun k hk=>(LG.out.i.o.lt k hk).2)
    rw [hzG] at RS
    have HRS:=hid RS
    clear RS
    go_wp2_with fail
    go_ret
    exact ⟨_,_,nv1,rfl,HRS.out,LG.out.below ((Below.refl _ _).alloc (Nat.le_refl _) _)⟩
end Go.Proofs.YtnhnldmldnhaoaaGreatDoor
namespace Go.Proofs.YtnhnldmldnhaoaaGreatDoor
open Go Go.RowKit Go.Proofs Go.Shelf
theorem syn_open (s:ByteArray) (n:Nat) (hs:s.size≤100000000) (hG:GroupC s n) (hC:CloseC s n):OpenC s (n+1):=by
  intro b lo st nv w h hlt hc hn
  have hst:stands s st.p [40]=true:=stands_of_nextC (c:=40) hc (by decide)
  have hd1:=Bd.sign h.d (Nat.le_refl _) hst (by decide)
  have hl:8 * (s.size - (st.p+1))+6≤n:=by omega
  have hm:=h.m
  by_cases hcond:onB st.f 32=true∧stands s st.p [40,63]=true
  · obtain ⟨hP,hq⟩:=hcond
    unfold openP
    rw [if_pos ⟨hP,hq⟩]
    by_cases hnm:stands s st.p [40,63,80,60]=true∨stands s st.p [40,63,60]=true
    · rw [if_pos hnm]
      have hN:=fun W=>scan_NameS s st.p W h.p (by omega)
      have hfit:=nameP_fit s st.p h.p h.d
      have hcase:∀ (nm:ByteArray) (q:Nat) (x a d:Int) (R:PR (List T)),NameRes s st nm q x a d b lo nv R→(∀ W,Calls Tryz.prog 98 #[.string s,.int .i64 (st.p:Int)] W fun e w'=>e = .returned (.tuple #[.string nm,.int .i64 (q:Int),.agg #[.int .i64 x,.int .i64 a,.int .i64 d]])∧Below W.heap.size W w')→
          Calls Tryz.prog 77 #[.pointer (some ⟨b,0,none⟩)] w (ListsOut w b lo s nv R):=by
        intro nm q x a d R hR hC
        cases h4:stands s st.p [40,63,80,60] with
        | true=>exact open_name_four b lo s st nv w h hs hP hq h4 nm q x a d R hR hC
        | false=>exact open_name_three b lo s st nv w h hs hP hq h4 (by rcases hnm with h5 | h5;rw [h4] at h5;cases h5;exact h5) nm q x a d R hR hC
      cases hx:nameP s st.p with
      | error q=>
        rw [hx] at hN hfit
        have hN':∀ W,Calls Tryz.prog 98 #[.string s,.int .i64 (st.p:Int)] W fun e w'=>e = .returned (.tuple #[.string ⟨#[]⟩,.int .i64 0,.agg #[.int .i64 64,.int .i64 (st.p:Int),.int .i64 (q:Int)]])∧Below W.heap.size W w':=hN
        refine hcase ⟨#[]⟩ 0 64 st.p q _ (.inl ⟨by decide,rfl⟩) hN'
      | ok y=>
        obtain ⟨nm,q⟩:=y
        rw [hx] at hN hfit
        have hN':∀ W,Calls Tryz.prog 98 #[.string s,.int .i64 (st.p:Int)] W fun e w'=>e = .returned (.tuple #[.string nm,.int .i64 (q:Int),.agg #[.int .i64 0,.int .i64 0,.int .i64 0]])∧Below W.heap.size W w':=hN
        obtain ⟨hq1,hq2,hq3⟩:Behind s st.p q:=hfit
        simp only
        cases hcn:st.ns.contains nm with
        | true=>
          rw [if_pos rfl]
          exact hcase nm q 0 0 0 _ (.inr ⟨rfl,rfl,rfl,.inl ⟨hcn,rfl⟩⟩) hN'
        | false=>
          rw [if_neg (by simp)]
          have hG':∀ W,SynIn W b lo s { st with p:=q } nv→Calls Tryz.prog 100 #[.pointer (some ⟨b,0,none⟩),.string nm] W (TreeOut W b lo s nv (groupP s n { st with p:=q } nm)):=fun W hW=>hG b lo _ nm nv W hW (by show st.ns.length < q;omega) (by show 8 * (s.size - q)+6≤n;omega)
          have hf:=(syn_fit s n).group { st with p:=q } nm hq2 hq3 (by show 8 * (s.size - q)+6≤n;omega)
          have hne:groupP s n { st with p:=q } nm≠.out:=fun e=>by rw [e] at hf;exact hf
          suffices hh:Calls Tryz.prog 77 #[.pointer (some ⟨b,0,none⟩)] w (ListsOut w b lo s nv (oneR (groupP s n { st with p:=q } nm))) by
            cases hr:groupP s n { st with p:=q } nm <;> (rw [hr] at hh;exact hh)
          exact hcase nm q 0 0 0 _ (.inr ⟨rfl,rfl,rfl,.inr ⟨hcn,hq1,hq2,hq3,_,hne,rfl,hG'⟩⟩) hN'
    · rw [if_neg hnm]
      have h4:stands s st.p [40,63,80,60]=false:=Bool.eq_false_iff.2 fun h=>hnm (.inl h)
      have h3:stands s st.p [40,63,60]=false:=Bool.eq_false_iff.2 fun h=>hnm (.inr h)
      have hF:=fun W (hW:Tabs W)=>scan_Flags s st.p st.f W hW h.p (by omega)
      have hfit:=flagsP_fit s st.p st.f h.p h.d
      cases hx:flagsP s st.p st.f with
      | error q=>
        rw [hx] at hF
        exact open_flags b lo s st nv w h hP hq h4 h3 0 false 0 65 st.p q _ (.inl ⟨by decide,rfl⟩) hF
      | ok y=>
        obtain ⟨g,grp,q⟩:=y
        rw [hx] at hF hfit
        obtain ⟨hq1,hq2,hq3⟩:Behind s st.p q:=hfit
        have hF':∀ W,Tabs W→Calls Tryz.prog 101 #[.string s,.int .i64 (st.p:Int),.int .i64 st.f] W fun e w'=>e = .returned (.tuple #[.int .i64 g,.bool grp,.int .i64 (q:Int),.agg #[.int .i64 0,.int .i64 0,.int .i64 0]])∧Below W.heap.size W w':=hF
        simp only
        cases grp with
        | false=>
          rw [if_neg (by simp)]
          exact open_flags b lo s st nv w h hP hq h4 h3 g false q 0 0 0 _ (.inr ⟨rfl,rfl,rfl,hq1,hq2,hq3,.inl ⟨rfl,rfl⟩⟩) hF'
        | true=>
          rw [if_pos rfl]
          have hC':∀ W,SynIn W b lo s { st with p:=q,f:=g } nv→Calls Tryz.prog 102 #[.pointer (some ⟨b,0,none⟩)] W (TreeOut W b lo s nv (closeP s n { st with p:=q,f:=g })):=fun W hW=>hC b lo _ nv W hW (by show 8 * (s.size - q)+5≤n;omega)
          have hf:=(syn_fit s n).close { st with p:=q,f:=g } hq2 hq3 (by show 8 * (s.size - q)+5≤n;omega)
          have hne:closeP s n { st with p:=q,f:=g }≠.out:=fun e=>by rw [e] at hf;exact hf
          suffices hh:Calls Tryz.prog 77 #[.pointer (some ⟨b,0,none⟩)] w (ListsOut w b lo s nv (oneRF st.f (closeP s n { st with p:=q,f:=g }))) by
            cases hr:closeP s n { st with p:=q,f:=g } <;> (rw [hr] at hh;exact hh)
          exact open_flags b lo s st nv w h hP hq h4 h3 g true q 0 0 0 _ (.inr ⟨rfl,rfl,rfl,hq1,hq2,hq3,.inr ⟨rfl,_,hne,rfl,hC'⟩⟩) hF'
  · unfold openP
    rw [if_neg hcond]
    have hG':∀ W,SynIn W b lo s { st with p:=st.p+1 } nv→Calls Tryz.prog 100 #[.pointer (some ⟨b,0,none⟩),.string ⟨#[]⟩] W (TreeOut W b lo s nv (groupP s n { st with p:=st.p+1 } ⟨#[]⟩)):=fun W hW=>hG b lo _ _ nv W hW (by show st.ns.length < st.p+1;omega) hl
    have hf:=(syn_fit s n).group { st with p:=st.p+1 } ⟨#[]⟩ (by show st.p+1≤s.size;omega) hd1 hl
    cases hx:groupP s n { st with p:=st.p+1 } ⟨#[]⟩ with
    | out=>rw [hx] at hf;exact hf.elim
    | wrong x a d=>
      rw [hx] at hG'
      cases hP:onB st.f 32 with
      | false=>exact open_plain_wrong b lo s st nv w h hs hc hP x a d hG'
      | true=>exact open_perl_wrong b lo s st nv w h hs hc hP (Bool.eq_false_iff.2 fun h2=>hcond ⟨hP,h2⟩) x a d hG'
    | ok t st1=>
      rw [hx] at hG'
      cases hP:onB st.f 32 with
      | false=>exact open_plain_ok b lo s st nv w h hs hc hP t st1 hG'
      | true=>exact open_perl_ok b lo s st nv w h hs hc hP (Bool.eq_false_iff.2 fun h2=>hcond ⟨hP,h2⟩) t st1 hG'
end Go.Proofs.YtnhnldmldnhaoaaGreatDoor
