/- Is it a tree? trees.Right. -/
import Derived.Test.YtnhnldmldnhaoaaGreatDoorSPlainYes
import Derived.Test.YtnhnldmldnhaoaaGreatDoorSSortEdges
import Derived.WalkMore
import Derived.RangeFuncNested
import Derived.RangeFuncBound
import Derived.RangeFuncCalls
import Derived.RangeFuncLeaves
import Derived.Shelf.Abstract
import Derived.Shelf.RegionOpen
import Derived.WalkKit
import Derived.OwnWalkIn
import Derived.TacticsInMore
import Derived.LoopNIn
import Derived.LoopIn
import Derived.Maps.OwnIn
set_option maxRecDepth 100000
set_option maxHeartbeats 16000000
open Go.Lib (hid)
namespace Go.Proofs.YtnhnldmldnhaoaaGreatDoor
open Go Go.RowKit Go.Proofs Go.Shelf
attribute [local go_sem] Oper.semAt_some
def stepR (s:Option (Nat × List (List UInt8))) (p:T):Option (Nat × List (List UInt8)):=
  match s with
  | none=>none
  | some (n,S)=>if plainT p=false then none else if p.op=6 then (if p.cap≠n+1∨(p.name.size≠0∧p.name.data.toList ∈ S) then none else some (n+1,p.name.data.toList :: S)) else some (n,S)
def runR (l:List T):Option (Nat × List (List UInt8)):=l.foldl stepR (some (0,[]))
def rightB (t:T):Bool:=decide (depth t≤50) && decide (weight t≤4000) && (runR (parts t)).isSome
theorem stepR_none (p:T):stepR none p=none:=rfl
theorem foldl_stepR_none (l:List T):l.foldl stepR none=none:=by
  induction l with
  | nil=>rfl
  | cons p l ih=>simp only [List.foldl_cons,stepR_none,ih]
theorem runR_snoc (l:List T) (p:T):runR (l ++ [p])=stepR (runR l) p:=by simp [runR]
theorem runR_prefix {a l:List T} (h:a <+: l) (ha:runR a=none):runR l=none:=by
  obtain ⟨b,rfl⟩:=h
  unfold runR at ha ⊢
  rw [List.foldl_append,ha,foldl_stepR_none]
theorem depth_le_parts (t:T):depth t≤(parts t).length:=by
  induction t using T.ind with
  | h op kids rune set pl cap name mn mx lz ih=>
    have:∀ l:List T,(∀ k ∈ l,depth k≤(parts k).length)→depthL l≤(partsL l).length:=by
      intro l
      induction l with
      | nil=>intro _;simp [depthL]
      | cons a l ihl=>
        intro h
        have h1:=h a (List.mem_cons_self ..)
        have h2:=ihl (fun k hk=>h k (List.mem_cons_of_mem _ hk))
        simp only [depthL,partsL,List.length_append]
        omega
    have:=this kids ih
    simp only [depth,parts,List.length_cons]
    omega
theorem TreeV.fields {w:World} {B:Nat} {t:T} {op:Int} {ka:Option Addr} {kn kc:Nat} {rune:Int} {sa:Option Addr} {sn sc:Nat} {pl cap:Int} {name:ByteArray} {mn mx:Int} {lz:Bool}
    (h:TreeV w B t [.int .i64 op,.slice ka kn kc,.int .i32 rune,.slice sa sn sc,.int .i64 pl,.int .i64 cap,.string name,.int .i64 mn,.int .i64 mx,.bool lz]):t.op=op∧t.cap=cap∧t.name=name:=by
  obtain ⟨op',kids',rune',set',pl',cap',name',mn',mx',lz'⟩:=t
  obtain ⟨ka2,kn2,kc2,sa2,sn2,sc2,he,_⟩:=h.open
  simp only [List.cons.injEq,Value.int.injEq,Value.string.injEq,true_and] at he
  exact ⟨he.1.symm,he.2.2.2.2.2.1.symm,he.2.2.2.2.2.2.1.symm⟩
theorem list_nil {s:ByteArray} (h:¬ s.size=0):¬ s.toList=[]:=fun e=>by
  have:=list_ne h
  rw [e] at this
  simp at this
theorem plainT_name {p:T} (h:plainT p=true) (h6:p.op=6):p.name.size≤32:=by
  unfold plainT at h
  rw [Bool.and_eq_true] at h
  have h2:=h.2
  rw [h6] at h2
  unfold kindOk at h2
  rw [if_neg (by decide),if_neg (by decide),if_neg (by decide),if_neg (by decide),if_pos rfl] at h2
  simp only [Bool.and_eq_true,Bool.or_eq_true,decide_eq_true_eq] at h2
  rcases h2.2 with h3 | h3
  · omega
  · unfold nameB at h3
    simp only [Bool.and_eq_true,decide_eq_true_eq] at h3
    exact h3.1.1.2
structure Stp (n₀ L:Nat) (W W':World):Prop where
  keeps:KeepsFrom L W W'
  kp:KpT n₀ L W W'
theorem Stp.trans {n₀ L:Nat} {a b c:World} (h:Stp n₀ L a b) (k:Stp n₀ L b c):Stp n₀ L a c:=⟨h.keeps.trans k.keeps,h.kp.trans k.kp⟩
theorem Stp.row {n₀ L r:Nat} {W W':World} (hg:W.grownBy W' (some r)) (h1:n₀≤r) (h2:r < L) (hn:n₀≤W.heap.size):Stp n₀ L W W':=
  ⟨KeepsFrom.of_grownBy hg (fun j e=>by cases e;exact h2),below_of_grownBy hg hn (fun k e=>by cases e;exact h1),fun b hb _ _ ho=>hg.block b (Array.getElem?_eq_some_iff.1 ho).1 (fun e=>by cases e;omega)⟩
theorem Stp.below {n₀ L:Nat} {W W':World} (hb:Below W.heap.size W W') (hn:n₀≤W.heap.size):Stp n₀ L W W':=
  ⟨KeepsFrom.of_grownBy (grownBy_below hb none) (fun j e=>by cases e),hb.mono hn,fun b _ _ _ ho=>hb.block b (Array.getElem?_eq_some_iff.1 ho).1⟩
def RI (w:World) (b:Nat) (s:Option (Nat × List (List UInt8))) (k:Nat) (W:World):Prop:=
  ∃ (n:Nat) (S:List (List UInt8)) (m:Nat),s=some (n,S)∧n≤k∧m≤k∧Boxed W b 4 (.bool true)∧Boxed W (b+1) 3 (.int .i64 n)∧Boxed W (b+1+1+1) 55 (.map (some (b+1+1)))∧SeenAt W (b+1+1) m S∧Below w.heap.size w W∧b+5≤W.heap.size
def RX (w:World) (b:Nat) (s:Option (Nat × List (List UInt8))) (W:World):Prop:=
  s=none∧Boxed W b 4 (.bool false)∧Below w.heap.size w W
theorem RI.kept {w:World} {b k L:Nat} {s:Option (Nat × List (List UInt8))} {W W':World} {row:Option Nat} (h:RI w b s k W) (hg:W.grownBy W' row) (hr:∀ r,row=some r→L≤r) (h1:b+4≤L) (h2:w.heap.size≤L):RI w b s k W':=by
  obtain ⟨n,S,m,e,hn,hm,c1,c2,c3,c4,c5,c6⟩:=h
  have ne:∀ j,j < L→some j≠row:=fun j hj e=>by have:=hr j e.symm;omega
  exact ⟨n,S,m,e,hn,hm,c1.kept hg (ne _ (by omega)),c2.kept hg (ne _ (by omega)),c3.kept hg (ne _ (by omega)),c4.kept hg (ne _ (by omega)),c5.grown hg c5.size (fun j e=>Nat.le_trans h2 (hr j e)),Nat.le_trans c6 hg.size⟩
theorem RX.kept {w:World} {b L:Nat} {s:Option (Nat × List (List UInt8))} {W W':World} {row:Option Nat} (h:RX w b s W) (hg:W.grownBy W' row) (hr:∀ r,row=some r→L≤r) (h1:b+4≤L) (h2:w.heap.size≤L):RX w b s W':=by
  obtain ⟨e,c1,c5⟩:=h
  exact ⟨e,c1.kept hg (fun e=>by have:=hr b e.symm;omega),c5.grown hg c5.size (fun j e=>Nat.le_trans h2 (hr j e))⟩
theorem right_any {P:List (Int × Int)→Prop} (hS:SetsRight P) (t:T) (cs:List Value) (B:Nat) (w:World) (h:TreeV w B t cs) (hB:B≤w.heap.size) (hP:∀ p ∈ parts t,p.op=4→P p.set) (hN:(parts t).length≤1000000) :
    Calls Tryz.prog 11 #[.agg cs.toArray] w fun e w'=>e = .returned (.bool (rightB t))∧Below w.heap.size w w':=by
  have hd:=depth_le_parts t
  have cD:=fun W (hW:Below w.heap.size w W)=>depth_any t cs B W (h.below (hW.mono hB)) (Nat.le_trans hB hW.size) (by omega)
  have cW:=fun W (hW:Below w.heap.size w W)=>weight_any t cs B W (h.below (hW.mono hB)) (Nat.le_trans hB hW.size)
  obtain ⟨op1,ka1,kn1,kc1,rune1,sa1,sn1,sc1,pl1,cap1,name1,mn1,mx1,lz1,rfl⟩:=h.form
  have CD:=hid cD;have CW:=hid cW
  have HS:=hid hS;have HH:=hid h;have HP:=hid hP;have HNN:=hid hN
  clear cD cW hS h hP
  obtain ⟨dd,hdd⟩:∃ dd,dd=depth t:=⟨_,rfl⟩
  obtain ⟨ww,hww⟩:∃ ww,ww=weight t:=⟨_,rfl⟩
  have HD:=hid hdd;have HW:=hid hww
  rw [← hdd] at hd
  clear hdd hww
  have hmm:=@run_makeMap Tryz.prog
  refine (callsIn_wide (n:=20)).1 ?_
  refine callsIn_of_wp_marks Tryz.func11 rfl trivial ?_ rfl
  simp only [Tryz.ntmps11,List.size_toArray,List.length_cons,List.length_nil,Nat.reduceAdd,Nat.reduceSub,Array.replicate_succ,Array.replicate_zero,List.push_toArray,List.append_toArray,List.nil_append,List.cons_append]
  refine wpIn_wide.2 ?_
  go_wp2_with fail
  have ht:=Blk.new w [.int .i64 op1,.slice ka1 kn1 kc1,.int .i32 rune1,.slice sa1 sn1 sc1,.int .i64 pl1,.int .i64 cap1,.string name1,.int .i64 mn1,.int .i64 mx1,.bool lz1] 29
  have t0:=Blk.cell ht (j:=0) rfl;have t1:=Blk.cell ht (j:=1) rfl;have t2:=Blk.cell ht (j:=2) rfl;have t3:=Blk.cell ht (j:=3) rfl;have t4:=Blk.cell ht (j:=4) rfl
  have t5:=Blk.cell ht (j:=5) rfl;have t6:=Blk.cell ht (j:=6) rfl;have t7:=Blk.cell ht (j:=7) rfl;have t8:=Blk.cell ht (j:=8) rfl;have t9:=Blk.cell ht (j:=9) rfl
  have HT:=hid ht;clear ht
  go_step3
  go_wp2_with fail
  refine (CD.out _ ((Below.refl _ w).alloc (Nat.le_refl _) _)).mono ?_
  rintro e w1 ⟨rfl,hb1⟩
  rw [← HD.out]
  have B1:=hid (show Below w.heap.size w w1 from ((Below.refl _ w).alloc (Nat.le_refl _) _).trans (hb1.mono (by simp)))
  have hsz:w.heap.size < w1.heap.size:=by have:=hb1.size;simp only [World.size_alloc] at this;omega
  have ht1:=HT.out.below hb1 (by simp)
  clear t0 t1 t2 t3 t4 t5 t6 t7 t8 t9 HT hb1
  have t0:=Blk.cell ht1 (j:=0) rfl;have t1:=Blk.cell ht1 (j:=1) rfl;have t2:=Blk.cell ht1 (j:=2) rfl;have t3:=Blk.cell ht1 (j:=3) rfl;have t4:=Blk.cell ht1 (j:=4) rfl
  have t5:=Blk.cell ht1 (j:=5) rfl;have t6:=Blk.cell ht1 (j:=6) rfl;have t7:=Blk.cell ht1 (j:=7) rfl;have t8:=Blk.cell ht1 (j:=8) rfl;have t9:=Blk.cell ht1 (j:=9) rfl
  have HT:=hid ht1;clear ht1
  by_cases hq:dd≤50
  rotate_left
  · have hq2:(50:Int) < (dd:Int):=by omega
    have HR:=hid (show rightB t=false by unfold rightB;rw [← HD.out,decide_eq_false hq];rfl)
    clear hq
    go_wp2_with fail
    exact ⟨_,results_tmp rfl _ _ _,by rw [HR.out];rfl,B1.out⟩
  have hq2:¬ (50:Int) < (dd:Int):=by omega
  go_wp2_with fail
  refine (CW.out _ B1.out).mono ?_
  rintro e w2 ⟨rfl,hb2⟩
  rw [← HW.out]
  have B2:=hid (B1.out.trans (hb2.mono (Nat.le_of_lt hsz)))
  have hsz2:w.heap.size < w2.heap.size:=Nat.lt_of_lt_of_le hsz hb2.size
  have ht2:=HT.out.below hb2 hsz
  clear t0 t1 t2 t3 t4 t5 t6 t7 t8 t9 HT hb2
  have t0:=Blk.cell ht2 (j:=0) rfl;have t1:=Blk.cell ht2 (j:=1) rfl;have t2:=Blk.cell ht2 (j:=2) rfl;have t3:=Blk.cell ht2 (j:=3) rfl;have t4:=Blk.cell ht2 (j:=4) rfl
  have t5:=Blk.cell ht2 (j:=5) rfl;have t6:=Blk.cell ht2 (j:=6) rfl;have t7:=Blk.cell ht2 (j:=7) rfl;have t8:=Blk.cell ht2 (j:=8) rfl;have t9:=Blk.cell ht2 (j:=9) rfl
  have HT:=hid ht2;clear ht2
  by_cases hv:ww≤4000
  rotate_left
  · have hv2:(4000:Int) < ww:=by omega
    have HR:=hid (show rightB t=false by unfold rightB;rw [← HW.out,decide_eq_false hv];simp)
    clear hv
    go_wp2_with fail
    exact ⟨_,results_tmp rfl _ _ _,by rw [HR.out];rfl,B2.out⟩
  have hv2:¬ (4000:Int) < ww:=by omega
  go_wp2_with fail
  have bR:=((Boxed.new w2 4 (.bool true)).alloc (.cells #[.int .i64 0] 3)).alloc (.map #[] 0) |>.alloc (.cells #[.map (some (w2.heap.size+1+1))] 55)
  have bN:=(Boxed.new (w2.alloc (.cells #[.bool true] 4)) 3 (.int .i64 0)).alloc (.map #[] 0) |>.alloc (.cells #[.map (some (w2.heap.size+1+1))] 55)
  have bM:=(SeenAt.made ((w2.alloc (.cells #[.bool true] 4)).alloc (.cells #[.int .i64 0] 3))).alloc (.cells #[.map (some (w2.heap.size+1+1))] 55)
  have bV:=Boxed.new (((w2.alloc (.cells #[.bool true] 4)).alloc (.cells #[.int .i64 0] 3)).alloc (.map #[] 0)) 55 (.map (some (w2.heap.size+1+1)))
  have B3:=hid ((((B2.out.alloc (Nat.le_of_lt hsz2) (.cells #[.bool true] 4)).alloc (by simp;omega) (.cells #[.int .i64 0] 3)).alloc (by simp;omega) (.map #[] 0)).alloc (by simp;omega) (.cells #[.map (some (w2.heap.size+1+1))] 55))
  have ht3:=(((HT.out.alloc (.cells #[.bool true] 4)).alloc (.cells #[.int .i64 0] 3)).alloc (.map #[] 0)).alloc (.cells #[.map (some (w2.heap.size+1+1))] 55)
  simp only [World.size_alloc] at bR bN bM bV
  have hsz3:((((w2.alloc (.cells #[.bool true] 4)).alloc (.cells #[.int .i64 0] 3)).alloc (.map #[] 0)).alloc (.cells #[.map (some (w2.heap.size+1+1))] 55)).heap.size=w2.heap.size+4:=by simp
  obtain ⟨w3,hw3⟩:∃ w3,(((w2.alloc (.cells #[.bool true] 4)).alloc (.cells #[.int .i64 0] 3)).alloc (.map #[] 0)).alloc (.cells #[.map (some (w2.heap.size+1+1))] 55)=w3:=⟨_,rfl⟩
  rw [hw3] at bR bN bM bV B3 ht3 hsz3 ⊢
  clear hw3 t0 t1 t2 t3 t4 t5 t6 t7 t8 t9 HT
  have t0:=Blk.cell ht3 (j:=0) rfl;have t1:=Blk.cell ht3 (j:=1) rfl;have t2:=Blk.cell ht3 (j:=2) rfl;have t3:=Blk.cell ht3 (j:=3) rfl;have t4:=Blk.cell ht3 (j:=4) rfl
  have t5:=Blk.cell ht3 (j:=5) rfl;have t6:=Blk.cell ht3 (j:=6) rfl;have t7:=Blk.cell ht3 (j:=7) rfl;have t8:=Blk.cell ht3 (j:=8) rfl;have t9:=Blk.cell ht3 (j:=9) rfl
  have HT:=hid ht3;clear ht3
  have BR:=hid bR;have BN:=hid bN;have BM:=hid bM;have BV:=hid bV
  have HZ:=hid hsz3
  clear bR bN bM bV hsz3
  go_step3
  go_wp2_with fail
  refine ((callsIn_wide (n:=18)).1 (all_in Fence.wide 18 trivial rfl t B w _ HH.out w3)).mono ?_
  rintro e w4 ⟨rfl,rfl⟩
  go_wp2_with fail
  have hB4:=B3.out
  have hz3:=HZ.out
  have hB4s:=hB4.size
  refine (wpIn_wide (n:=20)).1 ?_
  refine wpIn_rangeFunc_ownH rfl (by omega) (gf:=37) (lb:=#[.pointer (some ⟨w3.heap.size,0,none⟩)]) rfl trivial (enters_of Tryz.func37 (by kernel_rfl) rfl)
    (all_stops Fence.wide rfl 19 trivial trivial rfl w3.heap.size w.heap.size (w3.heap.size+1) B w (fun p=>p.op=4→P p.set) hB (by omega) t _ HH.out HP.out 1000000 HNN.out _ (Blk.new w3 _ _) (hB4.alloc hB4s _) (by simp))
    (fun h k=>KpT.trans h k) (fun W l o o' hl h hc hw=>KpT.book (w:=w3.alloc (.cells #[.int .i64 op1,.slice ka1 kn1 kc1,.int .i32 rune1,.slice sa1 sn1 sc1,.int .i64 pl1,.int .i64 cap1,.string name1,.int .i64 mn1,.int .i64 mx1,.bool lz1] 29)) (by simp;omega) W l o o' hl h hc hw) (Below.refl _ _) (fun _=>rfl)
    (fun pre W=>RI w w2.heap.size (runR (pre.map (·.1.1))) pre.length W)
    (fun c pre W=>c = .exit 0∧RX w w2.heap.size (runR (pre.map (·.1.1))) W)
    (fun s X Y row hs hg hr=>by exact RI.kept hs hg (fun r e=>(hr r e).1) (by simp;omega) (by simp;omega))
    (fun c s X Y row hs hg hr=>by exact ⟨hs.1,RX.kept hs.2 hg (fun r e=>(hr r e).1) (by simp;omega) (by simp;omega)⟩)
    ?h0
    (fun x a' W=>∃ Bx,w3.heap.size+1≤Bx∧Blk W Bx x.1.2 29∧a'={ tmps:=#[.agg #[.int .i64 op1,.slice ka1 kn1 kc1,.int .i32 rune1,.slice sa1 sn1 sc1,.int .i64 pl1,.int .i64 cap1,.string name1,.int .i64 mn1,.int .i64 mx1,.bool lz1],
      .pointer (some ⟨w.heap.size,0,none⟩),.bool false,.pointer (some ⟨w2.heap.size,0,none⟩),.pointer (some ⟨w2.heap.size+1,0,none⟩),.pointer (some ⟨w2.heap.size+1+1+1,0,none⟩),.pointer (some ⟨Bx,0,none⟩),
      .agg #[.int .i64 op1,.slice ka1 kn1 kc1,.int .i32 rune1,.slice sa1 sn1 sc1,.int .i64 pl1,.int .i64 cap1,.string name1,.int .i64 mn1,.int .i64 mx1,.bool lz1],.int .i64 dd,.bool (decide ((50:Int) < dd)),.bool (decide ((50:Int) < dd)),
      .agg #[.int .i64 op1,.slice ka1 kn1 kc1,.int .i32 rune1,.slice sa1 sn1 sc1,.int .i64 pl1,.int .i64 cap1,.string name1,.int .i64 mn1,.int .i64 mx1,.bool lz1],.int .i64 ww,.bool (decide ((4000:Int) < ww)),
      .bool (decide ((50:Int) < dd) || decide ((4000:Int) < ww)),.map (some (w2.heap.size+1+1)),
      .agg #[.int .i64 op1,.slice ka1 kn1 kc1,.int .i32 rune1,.slice sa1 sn1 sc1,.int .i64 pl1,.int .i64 cap1,.string name1,.int .i64 mn1,.int .i64 mx1,.bool lz1],.func (.func 37) #[] #[.pointer (some ⟨w2.heap.size+4,0,none⟩)],
      .agg x.1.2.toArray,undef,undef,undef,undef,undef,undef,undef,undef,undef,undef,undef,undef,undef,undef,undef,undef,undef,undef,undef,undef,undef,undef,undef,undef,undef,undef,undef,undef],defers:=[] })
    ?hAx ?assign ?body ?done ?stop
  case h0=>exact ⟨0,[],0,rfl,Nat.le_refl _,Nat.le_refl _,BR.out.alloc _,BN.out.alloc _,BV.out.alloc _,BM.out.alloc _,hB4.alloc hB4s _,by simp;omega⟩
  case hAx=>
    intro x a' _ X Y row hs hg hr
    obtain ⟨Bx,h1,h2,h3⟩:=hs
    refine ⟨Bx,h1,h2.grown hg (fun e=>?_),h3⟩
    obtain ⟨_,o,ho,hc⟩:=hr Bx e.symm
    have h2':=h2
    unfold Blk at h2'
    rw [h2'] at ho
    cases ho
    cases hc
  case assign=>
    rintro l pre x W K hI hK
    have hp:=x.2.1
    obtain ⟨op2,ka2,kn2,kc2,rune2,sa2,sn2,sc2,pl2,cap2,name2,mn2,mx2,lz2,he⟩:=hp.form
    have hWs:w3.heap.size+1≤W.heap.size:=by obtain ⟨_,_,_,_,_,_,_,_,_,_,_,h⟩:=hI;omega
    have hn:=Blk.new W x.1.2 29
    rw [he] at hn ⊢
    clear t0 t1 t2 t3 t4 t5 t6 t7 t8 t9
    gi_wp2
    exact hK _ _ ((KeepsOthers.alloc _ _).from _) (KpT.alloc (by omega) _) (RI.kept hI (World.grownBy_alloc W _ none) (fun r e=>by cases e) (L:=w3.heap.size) (by omega) (by omega)) ⟨W.heap.size,hWs,by rw [he];exact hn,by rw [he]⟩
  case body=>
    rintro l pre x a' W hl ⟨r,hr⟩ hI ⟨Bx,hBx,hX,rfl⟩ hlt
    have hp:=x.2.1
    obtain ⟨op2,ka2,kn2,kc2,rune2,sa2,sn2,sc2,pl2,cap2,name2,mn2,mx2,lz2,he⟩:=hp.form
    have hpl:=fun W' (hW':Below w.heap.size w W')=>plain_any HS.out x.1.1 x.1.2 B W' (hp.below (hW'.mono hB)) (Nat.le_trans hB hW'.size) x.2.2
    rw [he] at hX hpl ⊢
    obtain ⟨n,S,m,hs,hn,hm,c1,c2,c3,c4,c5,c6⟩:=hI
    clear t0 t1 t2 t3 t4 t5 t6 t7 t8 t9
    have t0:=Blk.cell hX (j:=0) rfl;have t1:=Blk.cell hX (j:=1) rfl;have t2:=Blk.cell hX (j:=2) rfl;have t3:=Blk.cell hX (j:=3) rfl;have t4:=Blk.cell hX (j:=4) rfl
    have t5:=Blk.cell hX (j:=5) rfl;have t6:=Blk.cell hX (j:=6) rfl;have t7:=Blk.cell hX (j:=7) rfl;have t8:=Blk.cell hX (j:=8) rfl;have t9:=Blk.cell hX (j:=9) rfl
    have HR:=hid hr;have HX:=hid hX;have HPP:=hid hp;have HSS:=hid hs;have HE:=hid he;have HPL:=hid hpl
    have C1:=hid c1;have C2:=hid c2;have C3:=hid c3;have C4:=hid c4;have C5:=hid c5
    clear hr hX hp hs c1 c2 c3 c4 c5 he hpl
    gi_wp2_with fail
    refine ⟨trivial,?_⟩
    refine (CallsIn.inRound l (callsIn_wide.2 (HPL.out W C5.out))).mono ?_
    rintro e w5 ⟨rfl,hb5⟩
    obtain ⟨pv,hpv⟩:∃ pv,pv=plainT x.1.1:=⟨_,rfl⟩
    rw [← hpv]
    have HPV:=hid hpv;clear hpv
    have hX5:=HX.out.below hb5 HX.out.lt
    have C15:=hid (C1.out.kept (grownBy_below hb5 none) (by simp));have C25:=hid (C2.out.kept (grownBy_below hb5 none) (by simp));have C35:=hid (C3.out.kept (grownBy_below hb5 none) (by simp))
    have C45:=hid (C4.out.kept (grownBy_below hb5 none) (by simp));have HB5:=hid (C5.out.trans (hb5.mono C5.out.size))
    have HK5:=hid hb5
    clear t0 t1 t2 t3 t4 t5 t6 t7 t8 t9 hb5
    have t0:=Blk.cell hX5 (j:=0) rfl;have t1:=Blk.cell hX5 (j:=1) rfl;have t2:=Blk.cell hX5 (j:=2) rfl;have t3:=Blk.cell hX5 (j:=3) rfl;have t4:=Blk.cell hX5 (j:=4) rfl
    have t5:=Blk.cell hX5 (j:=5) rfl;have t6:=Blk.cell hX5 (j:=6) rfl;have t7:=Blk.cell hX5 (j:=7) rfl;have t8:=Blk.cell hX5 (j:=8) rfl;have t9:=Blk.cell hX5 (j:=9) rfl
    have u1:=C15.out.cell;have u2:=C25.out.cell;have u3:=C35.out.cell
    have f1:=C15.out.frozen;have f2:=C25.out.frozen;have f3:=C35.out.frozen
    have HX5:=hid hX5;clear hX5
    have HF:=hid (TreeV.fields (by rw [← HE.out];exact HPP.out:TreeV w B x.1.1 _))
    have hs5:=HK5.out.size
    have hs6:=C5.out.size
    have hS0:=hid (Stp.below (n₀:=w.heap.size) (L:=w2.heap.size+4+1) HK5.out hs6)
    have hrun:runR ((pre ++ [x]).map (·.1.1))=stepR (some (n,S)) x.1.1:=by rw [List.map_append,List.map_cons,List.map_nil,runR_snoc,HSS.out]
    have HRUN:=hid hrun;clear hrun
    cases pv with
    | false=>
      have HN:=hid (show runR ((pre ++ [x]).map (·.1.1))=none by rw [HRUN.out];simp only [stepR];rw [if_pos HPV.out.symm])
      gi_wp2_with fail
      exact ⟨(hS0.out.trans (Stp.row (grownBy_setCell w5 w2.heap.size 0 _) (by omega) (by omega) (by omega))).keeps,rfl,HN.out,C15.out.set _,HB5.out.setCell (p:=⟨w2.heap.size,0,none⟩) (by simp;omega) _⟩
    | true=>
      by_cases o6:op2=6
      rotate_left
      · have HN:=hid (show runR ((pre ++ [x]).map (·.1.1))=some (n,S) by rw [HRUN.out];simp only [stepR];rw [if_neg (by rw [← HPV.out];simp),if_neg (by rw [HF.out.1];exact o6)])
        have o6':(op2 == 6)=false:=by simpa using o6
        clear o6
        gi_wp2_with fail
        have hst:=hS0.out.trans (Stp.row (grownBy_setCell w5 w2.heap.size 0 (.bool true)) (by omega) (by omega) (by omega))
        exact ⟨hst.keeps,hst.kp,n,S,m,HN.out,by simp;omega,by simp;omega,C15.out.set _,C25.out.other (by omega) _,C35.out.other (by omega) _,C45.out.kept (grownBy_setCell w5 w2.heap.size 0 (.bool true)) (ne_some (by omega)),HB5.out.setCell (p:=⟨w2.heap.size,0,none⟩) (by simp;omega) _,by simp [World.setCell];omega⟩
      · subst o6
        have hst:=hid ((hS0.out.trans (Stp.row (grownBy_setCell w5 w2.heap.size 0 (.bool true)) (by omega) (by omega) (by omega))).trans (Stp.row (grownBy_setCell (w5.setCell ⟨w2.heap.size,0,none⟩ (.bool true)) (w2.heap.size+1) 0 (.int .i64 ((n:Int)+1))) (by omega) (by omega) (by simp [World.setCell];omega)))
        have hb6:=hid ((HB5.out.setCell (p:=⟨w2.heap.size,0,none⟩) (by simp;omega) (.bool true)).setCell (p:=⟨w2.heap.size+1,0,none⟩) (by simp;omega) (.int .i64 ((n:Int)+1)))
        have d1:=hid ((C15.out.set (.bool true)).other (B':=w2.heap.size+1) (by omega) (.int .i64 ((n:Int)+1)))
        have d2:=hid ((C25.out.other (B':=w2.heap.size) (by omega) (.bool true)).set (.int .i64 ((n:Int)+1)))
        have d3:=hid ((C35.out.other (B':=w2.heap.size) (by omega) (.bool true)).other (B':=w2.heap.size+1) (by omega) (.int .i64 ((n:Int)+1)))
        have d4:=(C45.out.kept (grownBy_setCell w5 w2.heap.size 0 (.bool true)) (ne_some (by omega))).kept (grownBy_setCell _ (w2.heap.size+1) 0 (.int .i64 ((n:Int)+1))) (ne_some (by omega))
        have hsz6:((w5.setCell ⟨w2.heap.size,0,none⟩ (.bool true)).setCell ⟨w2.heap.size+1,0,none⟩ (.int .i64 ((n:Int)+1))).heap.size=w5.heap.size:=by simp [World.setCell]
        have e1:=d2.out.cell
        by_cases hc:cap2=(n:Int)+1
        rotate_left
        · have HN:=hid (show runR ((pre ++ [x]).map (·.1.1))=none by rw [HRUN.out];simp only [stepR];rw [if_neg (by rw [← HPV.out];simp),if_pos HF.out.1,if_pos (.inl (by rw [HF.out.2.1];exact hc))])
          have hc2:(cap2 != (n:Int)+1)=true:=by simpa using hc
          clear hc hsz6 d4
          gi_wp2_with fail
          have d5:=d1.out.set (.bool false)
          exact ⟨(hst.out.trans (Stp.row (grownBy_setCell _ w2.heap.size 0 _) (by omega) (by omega) (by simp [World.setCell];omega))).keeps,rfl,HN.out,d5,hb6.out.setCell (p:=⟨w2.heap.size,0,none⟩) (by simp;omega) _⟩
        have hc2:(cap2 != (n:Int)+1)=false:=by simpa using hc
        have hcc:=hid hc
        clear hc
        by_cases hz:name2.size=0
        · have HN:=hid (show runR ((pre ++ [x]).map (·.1.1))=some (n+1,name2.data.toList :: S) by rw [HRUN.out];simp only [stepR];rw [if_neg (by rw [← HPV.out];simp),if_pos HF.out.1,if_neg (by rw [HF.out.2.1,HF.out.2.2];exact fun h=>h.elim (fun h=>h hcc.out) (fun h=>h.1 hz)),HF.out.2.2])
          obtain rfl:=size_zero hz
          clear hz
          have hx:(⟨#[]⟩:ByteArray).size≤maxLen:=by decide
          gi_wp2_with (gi_at_mapUpdate;refine wpListIn_seen_put _ rfl _ _ _ rfl (w2.heap.size+1+1) m S rfl d4 (by unfold maxLen;omega) ⟨#[]⟩ hx rfl rfl ?_;intro w7 hown7 hgrow7)
          have hst7:=hst.out.trans (Stp.row hgrow7 (by omega) (by omega) (by rw [hsz6];omega))
          have hg7:=hgrow7.size
          exact ⟨hst7.keeps,hst7.kp,n+1,_,m+1,HN.out,by simp;omega,by simp;omega,d1.out.kept hgrow7 (ne_some (by omega)),by simpa using d2.out.kept hgrow7 (ne_some (by omega)),d3.out.kept hgrow7 (ne_some (by omega)),hown7,below_next (hb6.out) (by omega) hgrow7 (fun k e=>by cases e;omega),by omega⟩
        · have hq:=list_ne hz
          have hq2:=hid hz
          have hq3:=list_nil hz
          have hx:name2.size≤maxLen:=by
            have h1:=plainT_name HPV.out.symm HF.out.1
            rw [HF.out.2.2] at h1
            unfold maxLen;omega
          clear hz
          by_cases hS:name2.data.toList ∈ S
          · have hlk:=d4.look name2 hx
            rw [decide_eq_true hS] at hlk
            have HN:=hid (show runR ((pre ++ [x]).map (·.1.1))=none by rw [HRUN.out];simp only [stepR];rw [if_neg (by rw [← HPV.out];simp),if_pos HF.out.1,if_pos (.inr (by rw [HF.out.2.2];exact ⟨hq2.out,hS⟩))])
            clear hsz6 d4 hS hx
            gi_wp2_with fail
            have d5:=d1.out.set (.bool false)
            exact ⟨(hst.out.trans (Stp.row (grownBy_setCell _ w2.heap.size 0 _) (by omega) (by omega) (by simp [World.setCell];omega))).keeps,rfl,HN.out,d5,hb6.out.setCell (p:=⟨w2.heap.size,0,none⟩) (by simp;omega) _⟩
          · have hlk:=d4.look name2 hx
            rw [decide_eq_false hS] at hlk
            have HN:=hid (show runR ((pre ++ [x]).map (·.1.1))=some (n+1,name2.data.toList :: S) by rw [HRUN.out];simp only [stepR];rw [if_neg (by rw [← HPV.out];simp),if_pos HF.out.1,if_neg (by rw [HF.out.2.1,HF.out.2.2];exact fun h=>h.elim (fun h=>h hcc.out) (fun h=>hS h.2)),HF.out.2.2])
            clear hS
            gi_wp2_with (gi_at_mapUpdate;refine wpListIn_seen_put _ rfl _ _ _ rfl (w2.heap.size+1+1) m S rfl d4 (by unfold maxLen;omega) name2 hx rfl rfl ?_;intro w7 hown7 hgrow7)
            have hst7:=hst.out.trans (Stp.row hgrow7 (by omega) (by omega) (by rw [hsz6];omega))
            have hg7:=hgrow7.size
            exact ⟨hst7.keeps,hst7.kp,n+1,_,m+1,HN.out,by simp;omega,by simp;omega,d1.out.kept hgrow7 (ne_some (by omega)),by simpa using d2.out.kept hgrow7 (ne_some (by omega)),d3.out.kept hgrow7 (ne_some (by omega)),hown7,below_next (hb6.out) (by omega) hgrow7 (fun k e=>by cases e;omega),by omega⟩
  case done=>
    rintro D ys W hD hS ⟨n,S,m,hs,hn,hm,c1,c2,c3,c4,c5,c6⟩ hK
    have hR:=hid (show rightB t=true by
      unfold rightB
      rw [← HD.out,← HW.out,decide_eq_true hq,decide_eq_true hv,← hS,hs];rfl)
    have u1:=c1.cell
    have HK:=hid hK;have HB:=hid c5
    clear t0 t1 t2 t3 t4 t5 t6 t7 t8 t9 hK c1 c2 c3 c4 c5 hs hS
    simp only [World.size_alloc] at hD
    go_wp2_with fail
    refine ⟨by simp,.inl ⟨_,_,rfl,run_takeDeferred HK.out,?_⟩⟩
    exact ⟨_,results_tmp rfl _ _ _,by rw [hR.out];rfl,HB.out.trans (belowK_b (w:=w) (Nat.le_refl _) W D _ _ (by omega) HK.out rfl rfl)⟩
  case stop=>
    rintro D c pre W hD hS ⟨rfl,hs,c1,c5⟩ hK
    have hR:=hid (show rightB t=false by
      unfold rightB
      rw [runR_prefix hS hs];simp)
    have u1:=c1.cell
    have HK:=hid hK;have HB:=hid c5
    clear t0 t1 t2 t3 t4 t5 t6 t7 t8 t9 hK c1 c5 hs hS
    simp only [World.size_alloc] at hD
    refine wpIn_wide.2 ?_
    go_wp2_with fail
    refine ⟨by simp,.inl ⟨_,_,rfl,run_takeDeferred HK.out,?_⟩⟩
    exact ⟨_,results_tmp rfl _ _ _,by rw [hR.out];rfl,HB.out.trans (belowK_b (w:=w) (Nat.le_refl _) W D _ _ (by omega) HK.out rfl rfl)⟩
end Go.Proofs.YtnhnldmldnhaoaaGreatDoor
