/- The names of a tree's groups: trees.Caps. A named group's beginning: scan.Name. -/
import Derived.Test.YtnhnldmldnhaoaaGreatDoorSRight
import Derived.Maps.AppendAt
import Derived.RangeFuncBox
import Derived.Test.YtnhnldmldnhaoaaGreatDoorSUntil
import Derived.BigRegion
set_option maxRecDepth 100000
set_option maxHeartbeats 16000000
open Go.Lib (hid)
namespace Go.Proofs.YtnhnldmldnhaoaaGreatDoor
open Go Go.RowKit Go.Proofs Go.Shelf
attribute [local go_sem] Oper.semAt_some
def capsN (l:List T):List ByteArray:=⟨#[]⟩ :: (l.filter fun p=>decide (p.op=6)).map T.name
theorem capsN_snoc (l:List T) (p:T):capsN (l ++ [p])=capsN l ++ (if p.op=6 then [p.name] else []):=by
  by_cases h:p.op=6 <;> simp [capsN,List.filter_append,h]
theorem infoStr:(Tryz.prog.info? 9).map (fun i=>(i.zero,i.size,i.bytes))=some (some (.string ⟨#[]⟩),1,16):=by kernel_rfl
def CI (w:World) (b L:Nat) (names:List ByteArray) (k:Nat) (W:World):Prop:=
  ∃ v,Boxed W b 50 v∧W.ownsRow w.heap.size 9 1 v names.length (names.map Value.string)∧names.length≤k+1∧names≠[]∧Below w.heap.size w W∧L≤W.heap.size
theorem lit_row (w:World) (base:Nat) (hb:base≤w.heap.size) (s:ByteArray):(w.alloc (.cells #[.string s] 9)).ownsRow base 9 1 (.slice (some ⟨w.heap.size,0,none⟩) 1 1) 1 [Value.string s]:=
  ⟨rfl,.inr ⟨w.heap.size,1,#[.string s],rfl,hb,World.alloc_heap_new w _,Nat.le_refl _,by decide,rfl,rfl⟩⟩
theorem caps_no {P:List (Int × Int)→Prop} (hS:SetsRight P) (t:T) (cs:List Value) (B:Nat) (w:World) (h:TreeV w B t cs) (hB:B≤w.heap.size) (hP:∀ p ∈ parts t,p.op=4→P p.set) (hN:(parts t).length≤1000000) (hR:rightB t=false) :
    Calls Tryz.prog 128 #[.agg cs.toArray] w fun e w'=>e = .returned (.slice none 0 0)∧Below w.heap.size w w':=by
  have hc:=fun W (hW:Below w.heap.size w W)=>right_any hS t cs B W (h.below (hW.mono hB)) (Nat.le_trans hB hW.size) hP hN
  rw [hR] at hc
  obtain ⟨op1,ka1,kn1,kc1,rune1,sa1,sn1,sc1,pl1,cap1,name1,mn1,mx1,lz1,rfl⟩:=h.form
  have HC:=hid hc
  clear hS h hP hR hc
  refine (callsIn_wide (n:=20)).1 ?_
  refine callsIn_of_wp_marks Tryz.func128 rfl trivial ?_ rfl
  simp only [Tryz.ntmps128,List.size_toArray,List.length_cons,List.length_nil,Nat.reduceAdd,Nat.reduceSub,Array.replicate_succ,Array.replicate_zero,List.push_toArray,List.append_toArray,List.nil_append,List.cons_append]
  refine wpIn_wide.2 ?_
  go_wp2_with fail
  refine (HC.out _ ((Below.refl _ w).alloc (Nat.le_refl _) _)).mono ?_
  rintro e w1 ⟨rfl,hb1⟩
  go_wp2_with fail
  exact ⟨_,results_tmp rfl _ _ _,rfl,((Below.refl _ w).alloc (Nat.le_refl _) _).trans (hb1.mono (by simp))⟩
theorem caps_yes {P:List (Int × Int)→Prop} (hS:SetsRight P) (t:T) (cs:List Value) (B:Nat) (w:World) (h:TreeV w B t cs) (hB:B≤w.heap.size) (hP:∀ p ∈ parts t,p.op=4→P p.set) (hN:(parts t).length≤1000000) (hR:rightB t=true) :
    Calls Tryz.prog 128 #[.agg cs.toArray] w fun e w'=>∃ v,e = .returned v∧w'.ownsRow w.heap.size 9 1 v (capsN (parts t)).length ((capsN (parts t)).map Value.string)∧Below w.heap.size w w':=by
  have hc:=fun W (hW:Below w.heap.size w W)=>right_any hS t cs B W (h.below (hW.mono hB)) (Nat.le_trans hB hW.size) hP hN
  rw [hR] at hc
  obtain ⟨op1,ka1,kn1,kc1,rune1,sa1,sn1,sc1,pl1,cap1,name1,mn1,mx1,lz1,rfl⟩:=h.form
  have HC:=hid hc;have HH:=hid h;have HNN:=hid hN
  clear hS h hP hR hc
  obtain ⟨i0,hi,hz0,hz1,hz2⟩:=info_parts infoStr
  refine (callsIn_wide (n:=20)).1 ?_
  refine callsIn_of_wp_marks Tryz.func128 rfl trivial ?_ rfl
  simp only [Tryz.ntmps128,List.size_toArray,List.length_cons,List.length_nil,Nat.reduceAdd,Nat.reduceSub,Array.replicate_succ,Array.replicate_zero,List.push_toArray,List.append_toArray,List.nil_append,List.cons_append]
  refine wpIn_wide.2 ?_
  go_wp2_with fail
  have ht:=hid (Blk.new w [.int .i64 op1,.slice ka1 kn1 kc1,.int .i32 rune1,.slice sa1 sn1 sc1,.int .i64 pl1,.int .i64 cap1,.string name1,.int .i64 mn1,.int .i64 mx1,.bool lz1] 29)
  refine (HC.out _ ((Below.refl _ w).alloc (Nat.le_refl _) _)).mono ?_
  rintro e w1 ⟨rfl,hb1⟩
  have B1:=hid (show Below w.heap.size w w1 from ((Below.refl _ w).alloc (Nat.le_refl _) _).trans (hb1.mono (by simp)))
  have hsz:w.heap.size < w1.heap.size:=by have:=hb1.size;simp only [World.size_alloc] at this;omega
  have ht1:=ht.out.below hb1 (by simp)
  clear ht hb1
  have t0:=Blk.cell ht1 (j:=0) rfl;have t1:=Blk.cell ht1 (j:=1) rfl;have t2:=Blk.cell ht1 (j:=2) rfl;have t3:=Blk.cell ht1 (j:=3) rfl;have t4:=Blk.cell ht1 (j:=4) rfl
  have t5:=Blk.cell ht1 (j:=5) rfl;have t6:=Blk.cell ht1 (j:=6) rfl;have t7:=Blk.cell ht1 (j:=7) rfl;have t8:=Blk.cell ht1 (j:=8) rfl;have t9:=Blk.cell ht1 (j:=9) rfl
  have HT:=hid ht1;clear ht1
  go_wp2_with fail
  have bO:=hid (Boxed.new (w1.alloc (.cells #[.string ⟨#[]⟩] 9)) 50 (.slice (some ⟨w1.heap.size,0,none⟩) 1 1))
  have bW:=hid ((lit_row w1 w.heap.size (Nat.le_of_lt hsz) ⟨#[]⟩).alloc (.cells #[.slice (some ⟨w1.heap.size,0,none⟩) 1 1] 50))
  have B2:=hid ((B1.out.alloc (Nat.le_of_lt hsz) (.cells #[.string ⟨#[]⟩] 9)).alloc (by simp;omega) (.cells #[.slice (some ⟨w1.heap.size,0,none⟩) 1 1] 50))
  have hsz2:((w1.alloc (.cells #[.string ⟨#[]⟩] 9)).alloc (.cells #[.slice (some ⟨w1.heap.size,0,none⟩) 1 1] 50)).heap.size=w1.heap.size+1+1:=by simp
  obtain ⟨w2,hw2⟩:∃ w2,(w1.alloc (.cells #[.string ⟨#[]⟩] 9)).alloc (.cells #[.slice (some ⟨w1.heap.size,0,none⟩) 1 1] 50)=w2:=⟨_,rfl⟩
  have bO2:=bO.out
  rw [World.size_alloc] at bO2
  rw [hw2] at bW B2 bO2 hsz2 ⊢
  have HO:=hid bO2
  clear hw2 t0 t1 t2 t3 t4 t5 t6 t7 t8 t9 HT bO bO2
  refine ((callsIn_wide (n:=18)).1 (all_in Fence.wide 18 trivial rfl t B w _ HH.out w2)).mono ?_
  rintro e w3 ⟨rfl,rfl⟩
  have HZ:=hid hsz2;clear hsz2
  go_wp2_with fail
  have hz:=HZ.out
  have hB2s:=B2.out.size
  refine (wpIn_wide (n:=20)).1 ?_
  refine wpIn_rangeFunc_ownH rfl (by omega) (gf:=37) (lb:=#[.pointer (some ⟨w2.heap.size,0,none⟩)]) rfl trivial (enters_of Tryz.func37 (by kernel_rfl) rfl)
    (all_stops Fence.wide rfl 19 trivial trivial rfl w2.heap.size w.heap.size (w2.heap.size+1) B w (fun _=>True) hB (by omega) t _ HH.out (fun _ _=>trivial) 1000000 HNN.out _ (Blk.new w2 _ _) (B2.out.alloc hB2s _) (by simp))
    (fun h k=>KpT.trans h k) (fun W l o o' hl h hc hw=>KpT.book (w:=w2.alloc (.cells #[.int .i64 op1,.slice ka1 kn1 kc1,.int .i32 rune1,.slice sa1 sn1 sc1,.int .i64 pl1,.int .i64 cap1,.string name1,.int .i64 mn1,.int .i64 mx1,.bool lz1] 29)) (by simp;omega) W l o o' hl h hc hw) (Below.refl _ _) (fun _=>rfl)
    (fun pre W=>CI w (w1.heap.size+1) (w2.heap.size+1) (capsN (pre.map (·.1.1))) pre.length W)
    (fun _ _ _=>False)
    (fun s X Y row hs hg hr=>by
      obtain ⟨v,c1,c2,c3,c4,c5,c6⟩:=hs
      have hnb:∀ j,j < w2.heap.size→some j≠row:=fun j hj e=>by have:=(hr j e.symm).1;simp at this;omega
      refine ⟨v,c1.kept hg (hnb _ (by omega)),c2.kept hg ?_,c3,c4,c5.grown hg c5.size (fun j e=>by have:=(hr j e).1;simp at this;omega),Nat.le_trans c6 hg.size⟩
      rcases hv:v.ownBlock with _ | g
      · exact .inl rfl
      · refine .inr (fun e=>?_)
        obtain ⟨_,o,ho,hc⟩:=hr g e.symm
        rcases c2.2 with ⟨rfl,_⟩ | ⟨g',cap,cur,rfl,_,hh,_⟩
        · cases hv
        · have:g'=g:=by simpa [Value.ownBlock] using hv
          subst this
          rw [hh] at ho;cases ho;cases hc)
    (fun _ _ _ _ _ hs _ _=>hs)
    ?h0
    (fun x a' W=>∃ Bx,w2.heap.size+1≤Bx∧Blk W Bx x.1.2 29∧a'={ tmps:=#[.agg #[.int .i64 op1,.slice ka1 kn1 kc1,.int .i32 rune1,.slice sa1 sn1 sc1,.int .i64 pl1,.int .i64 cap1,.string name1,.int .i64 mn1,.int .i64 mx1,.bool lz1],
      .pointer (some ⟨w.heap.size,0,none⟩),.slice none 0 0,.pointer (some ⟨w1.heap.size+1,0,none⟩),.pointer (some ⟨Bx,0,none⟩),
      .agg #[.int .i64 op1,.slice ka1 kn1 kc1,.int .i32 rune1,.slice sa1 sn1 sc1,.int .i64 pl1,.int .i64 cap1,.string name1,.int .i64 mn1,.int .i64 mx1,.bool lz1],.bool true,.bool false,.slice (some ⟨w1.heap.size,0,none⟩) 1 1,
      .agg #[.int .i64 op1,.slice ka1 kn1 kc1,.int .i32 rune1,.slice sa1 sn1 sc1,.int .i64 pl1,.int .i64 cap1,.string name1,.int .i64 mn1,.int .i64 mx1,.bool lz1],.func (.func 37) #[] #[.pointer (some ⟨w1.heap.size+1+1,0,none⟩)],
      .agg x.1.2.toArray,undef,undef,undef,undef,undef,undef,undef,undef,undef],defers:=[] })
    ?hAx ?assign ?body ?done ?stop
  case h0=>exact ⟨_,HO.out.alloc _,bW.out.alloc _,by simp [capsN],by simp [capsN],B2.out.alloc hB2s _,by simp⟩
  case hAx=>
    intro x a' _ X Y row hs hg hr
    obtain ⟨Bx,h1,h2,h3⟩:=hs
    refine ⟨Bx,h1,h2.grown hg (fun e=>?_),h3⟩
    obtain ⟨_,o,ho,hc⟩:=hr Bx e.symm
    have h2':=h2
    unfold Blk at h2'
    rw [h2'] at ho
    cases ho
    cases hc
  case assign=>
    rintro l pre x W K ⟨v,c1,c2,c3,c4,c5,c6⟩ hK
    have hp:=x.2.1
    obtain ⟨op2,ka2,kn2,kc2,rune2,sa2,sn2,sc2,pl2,cap2,name2,mn2,mx2,lz2,he⟩:=hp.form
    have hn:=Blk.new W x.1.2 29
    rw [he] at hn ⊢
    have HK:=hid hK;have C3:=hid c3;have C4:=hid c4
    clear hK c3 c4
    gi_wp2
    exact HK.out _ _ ((KeepsOthers.alloc _ _).from _) (KpT.alloc (by omega) _) ⟨v,c1.alloc _,c2.alloc _,C3.out,C4.out,c5.alloc c5.size _,by simp;omega⟩ ⟨W.heap.size,c6,by rw [he];exact hn,by rw [he]⟩
  case body=>
    rintro l pre x a' W hl ⟨r,hr⟩ ⟨v,c1,c2,c3,c4,c5,c6⟩ ⟨Bx,hBx,hX,rfl⟩ hlt
    have hp:=x.2.1
    obtain ⟨op2,ka2,kn2,kc2,rune2,sa2,sn2,sc2,pl2,cap2,name2,mn2,mx2,lz2,he⟩:=hp.form
    have HF:=hid (TreeV.fields (by rw [← he];exact hp:TreeV w B x.1.1 _))
    rw [he] at hX ⊢
    have HSN:=hid (show capsN ((pre ++ [x]).map (·.1.1))=capsN (pre.map (·.1.1)) ++ (if op2=6 then [name2] else []) by rw [List.map_append,List.map_cons,List.map_nil,capsN_snoc,HF.out.1,HF.out.2.2])
    obtain ⟨ns,hns⟩:∃ ns,ns=capsN (pre.map (·.1.1)):=⟨_,rfl⟩
    rw [← hns] at c2 c3 c4 HSN
    have t0:=Blk.cell hX (j:=0) rfl;have t6:=Blk.cell hX (j:=6) rfl
    have u1:=c1.cell;have u2:=c1.frozen
    have HX:=hid hX;have HR:=hid hr;have HPP:=hid hp;have HE:=hid he;have C4:=hid c4;have C1:=hid c1;have C2:=hid c2;have C5:=hid c5;have HNS:=hid hns
    clear hX hr he c4 c1 c2 c5 hns
    by_cases o6:op2=6
    · subst o6
      gi_wp2_with (gi_at_builtin;refine wpListIn_append_own _ rfl _ _ 50 rfl w.heap.size 9 i0 (.string ⟨#[]⟩) 1 16 Tryz.underlying50 hi hz0 hz1 hz2 rfl (by decide) _ _ _ rfl (C2.out.alloc _) ⟨W.heap.size,0,none⟩ 1 1 [.string name2] rfl rfl (cell_one_new _ _ _) (by simp [Value.oneCell']) (by unfold maxLen;omega) (by omega) (by have:=C5.out.size;simp;omega) ?_;intro v' w4 hown' hgrow _;obtain ⟨g',cap',rfl⟩:=ownsRow_succ hown';obtain ⟨hv1,hv2,hr2,hk2,hb2⟩:=C1.out.appended (by decide) C2.out C5.out.size (by omega) hown' hgrow;have hc1:=hv1.cell;have hf1:=hv1.frozen)
      have HN:=hid (show capsN ((pre ++ [x]).map (·.1.1))=ns ++ [name2] by rw [HSN.out];simp)
      have hz:=HZ.out
      have hkp:KpT w.heap.size (w2.heap.size+1) W (w4.setCell ⟨w1.heap.size+1,0,none⟩ (.slice (some ⟨g',0,none⟩) (ns.length+1) cap')):=by
        refine ⟨hb2,fun b hb cs z ho=>?_⟩
        have hlt':=(Array.getElem?_eq_some_iff.1 ho).1
        rw [Below.heap_setCell _ _ _ b (show b≠w1.heap.size+1 by omega),hgrow.block b (by simp;omega) ?_,Below.heap_alloc _ _ _ hlt']
        intro e0
        have e:some b=v.ownBlock:=e0
        rcases C2.out.2 with ⟨rfl,_⟩ | ⟨g,cap,cur,rfl,_,hh,_⟩
        · cases e
        · have:b=g:=by simpa [Value.ownBlock] using e
          subst this
          rw [hh] at ho;cases ho
      exact ⟨hk2.from _,by rw [← hz];exact hkp,_,hv2,by rw [HN.out];simpa using hr2,by rw [HN.out];simp;omega,by rw [HN.out];simp,C5.out.trans hb2,by rw [← hz];exact Nat.le_trans c6 hkp.1.size⟩
    · have o6':(op2 == 6)=false:=by simpa using o6
      have HN:=hid (show capsN ((pre ++ [x]).map (·.1.1))=ns by rw [HSN.out,if_neg o6,List.append_nil])
      clear o6
      gi_wp2_with fail
      exact ⟨KeepsFrom.refl _ _,KpT.refl _ _ _,v,C1.out,by rw [HN.out];exact C2.out,by rw [HN.out];simp;omega,by rw [HN.out];exact C4.out,C5.out,by have:=HZ.out;omega⟩
  case done=>
    rintro D ys W hD hS ⟨v,c1,c2,c3,c4,c5,c6⟩ hK
    rw [hS] at c2
    have u1:=c1.cell
    have HK:=hid hK;have HB:=hid c5;have C2:=hid c2
    clear hK c1 c2 c3 c4 c5 hS
    simp only [World.size_alloc] at hD
    go_wp2_with fail
    refine ⟨by simp,.inl ⟨_,_,rfl,run_takeDeferred HK.out,?_⟩⟩
    exact ⟨_,results_tmp rfl _ _ _,v,rfl,ownsRow_putObj C2.out _ HK.out rfl,HB.out.trans (belowK_b (w:=w) (Nat.le_refl _) W D _ _ (by omega) HK.out rfl rfl)⟩
  case stop=>
    rintro D c pre W _ _ h _
    exact h.elim
end Go.Proofs.YtnhnldmldnhaoaaGreatDoor
namespace Go.Proofs.YtnhnldmldnhaoaaGreatDoor
open Go Go.RowKit Go.Proofs
def nameTree (name:ByteArray):T:=.mk 6 [.mk 2 [] 0 [] 0 0 ⟨#[]⟩ 0 0 false] 0 [] 0 1 name 0 0 false
theorem nameTree_parts (name:ByteArray):parts (nameTree name)=[nameTree name,.mk 2 [] 0 [] 0 0 ⟨#[]⟩ 0 0 false]:=by
  simp [nameTree,parts,partsL]
theorem plainT_empty:plainT (.mk 2 [] 0 [] 0 0 ⟨#[]⟩ 0 0 false)=true:=by decide
theorem plainT_nameTree (name:ByteArray):plainT (nameTree name)=(decide (name.size=0) || nameB name):=by
  unfold plainT nameTree
  simp [T.op,T.rune,T.set,T.pl,T.cap,T.name,T.mn,T.mx,T.lz,T.kids,bareOk,kindOk]
theorem nameTree_right (name:ByteArray):rightB (nameTree name)=(decide (name.size=0) || nameB name):=by
  have hd:depth (nameTree name)=2:=by simp [nameTree,depth,depthL]
  have hw:weight (nameTree name)=3:=by simp [nameTree,weight,weightF,weightK];decide
  unfold rightB
  rw [hd,hw,nameTree_parts]
  cases h:(decide (name.size=0) || nameB name) with
  | false=>
    have h1:stepR (some (0,[])) (nameTree name)=none:=by
      simp only [stepR];rw [if_pos (by rw [plainT_nameTree];exact h)]
    simp [runR,h1,stepR_none]
  | true=>
    have h1:stepR (some (0,[])) (nameTree name)=some (1,[name.data.toList]):=by
      simp only [stepR]
      rw [if_neg (by rw [plainT_nameTree,h];simp),if_pos (by rfl),if_neg (by simp [nameTree,T.cap])]
      rfl
    have h2:stepR (some (1,[name.data.toList])) (.mk 2 [] 0 [] 0 0 ⟨#[]⟩ 0 0 false)=some (1,[name.data.toList]):=by
      simp only [stepR]
      rw [if_neg (by rw [plainT_empty];simp),if_neg (by simp [T.op])]
    simp [runR,h1,h2]
theorem nameTree_V (w:World) (b B:Nat) (name:ByteArray) (hb:b < B) (h:Blk w b [.int .i64 2,.slice none 0 0,.int .i32 0,.slice none 0 0,.int .i64 0,.int .i64 0,.string ⟨#[]⟩,.int .i64 0,.int .i64 0,.bool false] 29) :
    TreeV w B (nameTree name) [.int .i64 6,.slice (some ⟨b,0,none⟩) 1 1,.int .i32 0,.slice none 0 0,.int .i64 0,.int .i64 1,.string name,.int .i64 0,.int .i64 0,.bool false]:=by
  have hk:KidsV w B [] none 0 0:=⟨rfl,⟨Nat.le_refl _,Nat.zero_le _⟩,.inl rfl⟩
  have hr:RangesV w B [] none 0 0:=⟨rfl,⟨Nat.le_refl _,Nat.zero_le _⟩,.inl rfl⟩
  refine TreeV.mk ⟨rfl,⟨Nat.le_refl _,(by decide)⟩,.inr ⟨b,0,rfl,hb,KidsAt.cons.2 ⟨⟨_,TreeV.mk hk hr,?_⟩,KidsAt.nil⟩⟩⟩ hr
  intro j hj
  simp only [Nat.zero_add]
  have:∀ (l:List Value) (j:Nat) (hj:j < l.length),l[j]? = some l[j]:=fun l j hj=>List.getElem?_eq_getElem hj
  rw [this _ j hj]
  exact Blk.cell h (this _ j hj)
theorem setsRight_none:SetsRight (fun _=>False):=fun _ h=>h.elim
def capsLen (name:ByteArray):Nat:=if (decide (name.size=0) || nameB name)=true then 2 else 0
theorem caps_name (w:World) (b:Nat) (name:ByteArray) (hb:b < w.heap.size) (h:Blk w b [.int .i64 2,.slice none 0 0,.int .i32 0,.slice none 0 0,.int .i64 0,.int .i64 0,.string ⟨#[]⟩,.int .i64 0,.int .i64 0,.bool false] 29) :
    Calls Tryz.prog 128 #[.agg #[.int .i64 6,.slice (some ⟨b,0,none⟩) 1 1,.int .i32 0,.slice none 0 0,.int .i64 0,.int .i64 1,.string name,.int .i64 0,.int .i64 0,.bool false]] w
      fun e w'=>∃ A c,e = .returned (.slice A (capsLen name) c)∧Below w.heap.size w w':=by
  have hV:=nameTree_V w b w.heap.size name hb h
  have hP:∀ p ∈ parts (nameTree name),p.op=4→False:=by
    intro p hp
    rw [nameTree_parts] at hp
    simp only [List.mem_cons,List.not_mem_nil,or_false] at hp
    rcases hp with rfl | rfl
    · simp [nameTree,T.op]
    · simp [T.op]
  have hN:(parts (nameTree name)).length≤1000000:=by rw [nameTree_parts];simp
  have hR:=nameTree_right name
  cases hr:(decide (name.size=0) || nameB name) with
  | false=>
    have hl:capsLen name=0:=by unfold capsLen;rw [hr];rfl
    rw [hr] at hR
    rw [hl]
    exact (caps_no setsRight_none (nameTree name) _ w.heap.size w hV (Nat.le_refl _) hP hN hR).mono fun e w' h=>⟨none,0,h.1,h.2⟩
  | true=>
    have hl:capsLen name=2:=by unfold capsLen;rw [hr];rfl
    rw [hr] at hR
    rw [hl]
    refine (caps_yes setsRight_none (nameTree name) _ w.heap.size w hV (Nat.le_refl _) hP hN hR).mono fun e w' h=>?_
    obtain ⟨v,he,hrow,hB⟩:=h
    have hlen:(capsN (parts (nameTree name))).length=2:=by rw [nameTree_parts];simp [capsN,nameTree,T.op]
    rw [hlen] at hrow
    rcases hrow.2 with ⟨_,h0⟩ | ⟨g,cap,cur,rfl,_⟩
    · cases h0
    · exact ⟨_,cap,he,hB⟩
end Go.Proofs.YtnhnldmldnhaoaaGreatDoor
