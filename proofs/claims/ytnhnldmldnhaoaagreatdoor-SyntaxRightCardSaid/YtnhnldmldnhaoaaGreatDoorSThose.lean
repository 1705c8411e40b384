/- The set of the stretches in which a number of ranges is right: sets. -/
import Derived.Test.YtnhnldmldnhaoaaGreatDoorSSpans
import Derived.Lib.SmallJoins
import Derived.Test.YtnhnldmldnhaoaaGreatDoorSBase
set_option maxRecDepth 100000
set_option maxHeartbeats 16000000
open Go.Lib (hid)
namespace Go.Proofs.YtnhnldmldnhaoaaGreatDoor
open Go Go.RowKit Go.Proofs Go.Shelf
attribute [local go_sem] Oper.semAt_some
theorem those_any (isf:Int→Bool) (gi:Nat) (hen:∀ args w,(callFunc gi args).run Tryz.prog w = .ok (.enter gi args) w)
    (hIs:∀ (n:Int) W,Calls Tryz.prog gi #[.int .i64 n] W fun e w'=>e = .returned (.bool (isf n))∧Below W.heap.size W w')
    (es:List (Int × Int)) (sa:Option Addr) (sc B:Nat) (w:World) (hv:EdgesV w B es sa) (hB:B≤w.heap.size) (hes:∀ e ∈ es,0≤e.1∧e.1≤1114112∧(e.2=1∨e.2 = -1)) (hlen:es.length≤4000000000000) :
    Calls Tryz.prog 86 #[.slice sa es.length sc,.func (.func gi) #[] #[]] w fun e w'=>∃ v,e = .returned v∧
      w'.ownsRow w.heap.size 61 2 v (thoseL isf (spansL 0 0 es)).length (flatR (thoseL isf (spansL 0 0 es)))∧Below w.heap.size w w':=by
  obtain ⟨i0,hi,hz0,hz1,hz2⟩:=info_parts infoRange
  have HIS:=hid hIs;have HV:=hid hv;have HES:=hid hes
  clear hIs hv hes
  refine (callsIn_wide (n:=20)).1 ?_
  refine callsIn_of_wp_marks Tryz.func86 rfl trivial ?_ rfl
  simp only [Tryz.ntmps86,List.size_toArray,List.length_cons,List.length_nil,Nat.reduceAdd,Nat.reduceSub,Array.replicate_succ,Array.replicate_zero,List.push_toArray,List.append_toArray,List.nil_append,List.cons_append]
  refine wpIn_wide.2 ?_
  go_wp2_with fail
  have bF:=hid ((Boxed.new w 112 (.func (.func gi) #[] #[])).alloc (.cells #[.slice none 0 0] 26))
  have bO0:=Boxed.new (w.alloc (.cells #[.func (.func gi) #[] #[]] 112)) 26 (.slice none 0 0)
  rw [World.size_alloc] at bO0
  have bO:=hid bO0
  have B2:=hid (((Below.refl w.heap.size w).alloc (Nat.le_refl _) (.cells #[.func (.func gi) #[] #[]] 112)).alloc (by simp) (.cells #[.slice none 0 0] 26))
  have hsz2:((w.alloc (.cells #[.func (.func gi) #[] #[]] 112)).alloc (.cells #[.slice none 0 0] 26)).heap.size=w.heap.size+1+1:=by simp
  obtain ⟨w2,hw2⟩:∃ w2,(w.alloc (.cells #[.func (.func gi) #[] #[]] 112)).alloc (.cells #[.slice none 0 0] 26)=w2:=⟨_,rfl⟩
  rw [hw2] at bF bO B2 hsz2 ⊢
  clear hw2 bO0
  refine ((callsIn_wide (n:=18)).1 (spans_in Fence.wide 18 trivial rfl sa es.length sc w2)).mono ?_
  rintro e w3 ⟨rfl,rfl⟩
  have hbx:=World.alloc_heap_new w2 (.cells #[.slice sa es.length sc] 133)
  have bF3:=hid (bF.out.alloc (.cells #[.slice sa es.length sc] 133));have bO3:=hid (bO.out.alloc (.cells #[.slice sa es.length sc] 133))
  have B3:=hid (B2.out.alloc B2.out.size (.cells #[.slice sa es.length sc] 133))
  have hsz3:(w2.alloc (.cells #[.slice sa es.length sc] 133)).heap.size=w.heap.size+1+1+1:=by simp [hsz2]
  rw [hsz2] at hbx ⊢
  obtain ⟨w3,hw3⟩:∃ w3,w2.alloc (.cells #[.slice sa es.length sc] 133)=w3:=⟨_,rfl⟩
  rw [hw3] at hbx bF3 bO3 B3 hsz3 ⊢
  clear hw3 bF bO B2 hsz2
  have HBX:=hid hbx;clear hbx
  have HZ:=hid hsz3;clear hsz3
  go_wp2_with fail
  have hz:=HZ.out
  refine (wpIn_wide (n:=20)).1 ?_
  refine wpIn_rangeFunc_ownH rfl (by omega) (gf:=143) (lb:=#[.pointer (some ⟨w.heap.size+1+1,0,none⟩)]) rfl trivial (enters_of Tryz.func143 (by kernel_rfl) rfl)
    (spans_stops Fence.wide rfl 19 trivial rfl (w.heap.size+1+1) w.heap.size (w.heap.size+1+1+1) B w hB (by omega) es sa sc HV.out HES.out hlen 4000000000001 (Nat.le_trans (spansL_length _ _ _) (by omega)) w3 HBX.out B3.out (by omega))
    (fun h k=>KpS.trans h k) (fun W l o o' hl h hc hw=>KpS.book (w:=w3) (by omega) W l o o' hl h hc hw) (Below.refl _ _) (fun _=>rfl)
    (fun pre W=>∃ v,TI w w.heap.size (.func (.func gi) #[] #[]) (thoseL isf (pre.map (·.1))) pre.length (w.heap.size+1+1+1) v W)
    (fun _ _ _=>False)
    (fun s X Y row hs hg hr=>by
      obtain ⟨v,c1,c2,c3,c4,c5,c6,c7⟩:=hs
      have hnb:∀ j,j < w3.heap.size→some j≠row:=fun j hj e=>by have:=(hr j e.symm).1;omega
      refine ⟨v,c1.kept hg (hnb _ (by omega)),c2.kept hg (hnb _ (by omega)),c3.kept hg ?_,c4,c5,c6.grown hg c6.size (fun j e=>by have:=(hr j e).1;omega),Nat.le_trans c7 hg.size⟩
      rcases hv:v.ownBlock with _ | g
      · exact .inl rfl
      · refine .inr (fun e=>?_)
        obtain ⟨_,o,ho,hc⟩:=hr g e.symm
        rcases c3.2 with ⟨rfl,_⟩ | ⟨g',cap,cur,rfl,_,hh,_⟩
        · cases hv
        · have:g'=g:=by simpa [Value.ownBlock] using hv
          subst this
          rw [hh] at ho;cases ho;cases hc)
    (fun _ _ _ _ _ hs _ _=>hs)
    ?h0
    (fun x a' W=>∃ Bx,w3.heap.size≤Bx∧Blk W Bx [.int .i32 x.1.1.1,.int .i32 x.1.1.2] 61∧a'={ tmps:=#[.slice sa es.length sc,.func (.func gi) #[] #[],undef,.pointer (some ⟨w.heap.size,0,none⟩),.slice none 0 0,.pointer (some ⟨w.heap.size+1,0,none⟩),.pointer (some ⟨Bx,0,none⟩),.int .i64 x.1.2,undef,.slice sa es.length sc,.func (.func 143) #[] #[.pointer (some ⟨w.heap.size+1+1,0,none⟩)],.agg #[.int .i32 x.1.1.1,.int .i32 x.1.1.2],.int .i64 x.1.2,undef,undef,undef,undef,undef,undef,undef,undef,undef,undef,undef,undef,undef,undef,undef,undef,undef,undef,undef,undef,undef,undef,undef,undef,undef,undef,undef,undef,undef,undef,undef,undef,undef,undef],defers:=[] })
    ?hAx ?assign ?body ?done ?stop
  case h0=>exact ⟨_,bO3.out,bF3.out,World.ownsRow_nil _ _ _ _,Nat.le_refl _,(fun r hr=>by simp [thoseL] at hr),B3.out,by omega⟩
  case hAx=>
    intro x a' _ X Y row hs hg hr
    obtain ⟨Bx,h1,h2,h3⟩:=hs
    refine ⟨Bx,h1,h2.grown hg (fun e=>?_),h3⟩
    obtain ⟨_,o,ho,hc⟩:=hr Bx e.symm
    have h2':=h2
    unfold Blk at h2'
    rw [h2'] at ho
    cases ho
    cases hc
  case assign=>
    rintro l pre x W K ⟨v,c1,c2,c3,c4,c5,c6,c7⟩ hK
    have hn:=Blk.new W [.int .i32 x.1.1.1,.int .i32 x.1.1.2] 61
    have HK:=hid hK;have C3:=hid c3;have C4:=hid c4;have C5:=hid c5
    clear hK c3 c4 c5
    gi_wp2
    exact HK.out _ _ ((KeepsOthers.alloc _ _).from _) (KpS.alloc (by omega) _) ⟨v,c1.alloc _,c2.alloc _,C3.out.alloc _,C4.out,C5.out,c6.alloc c6.size _,by simp;omega⟩ ⟨W.heap.size,by omega,hn,rfl⟩
  case body=>
    rintro l pre x a' W hl ⟨r,hr⟩ ⟨v,c1,c2,c3,c4,c5,c6,c7⟩ ⟨Bx,hBx,hX,rfl⟩ hlt
    obtain ⟨⟨⟨lo,hx⟩,m⟩,p0,p1,p2⟩:=x
    dsimp only at p0 p1 p2 hX ⊢
    have HSN:=hid (show thoseL isf ((pre ++ [⟨((lo,hx),m),p0,p1,p2⟩]:List Span).map (·.1))=stepT isf (thoseL isf (pre.map (·.1))) ((lo,hx),m) by unfold thoseL;rw [List.map_append,List.foldl_append];rfl)
    obtain ⟨out,hout⟩:∃ out,out=thoseL isf (pre.map (·.1)):=⟨_,rfl⟩
    rw [← hout] at c3 c4 c5 HSN
    clear hout
    obtain ⟨va,vc,rfl⟩:∃ va vc,v = .slice va out.length vc:=by
      rcases c3.2 with ⟨rfl,h0⟩ | ⟨g,cap,cur,rfl,_⟩
      · exact ⟨none,0,by rw [h0]⟩
      · exact ⟨_,_,rfl⟩
    have u1:=c1.cell;have u2:=c2.cell
    have t0:=Blk.cell hX (j:=0) rfl;have t1:=Blk.cell hX (j:=1) rfl
    have C1:=hid c1;have C2:=hid c2;have C3:=hid c3;have C4:=hid c4;have C5:=hid c5;have C6:=hid c6;have C7:=hid c7
    have HX:=hid hX;have HR:=hid hr
    clear c1 c2 c3 c4 c5 c6 c7 hX hr
    gi_wp2_with fail
    refine ⟨trivial,?_⟩
    refine (CallsIn.inRound l (callsIn_wide.2 (HIS.out m W))).mono ?_
    rintro e w5 ⟨rfl,hb5⟩
    obtain ⟨pv,hpv⟩:∃ pv,pv=isf m:=⟨_,rfl⟩
    rw [← hpv]
    have HPV:=hid hpv;clear hpv
    have C15:=hid (C1.out.kept (grownBy_below hb5 none) (by simp));have C25:=hid (C2.out.kept (grownBy_below hb5 none) (by simp))
    have C35:=hid (C3.out.kept (grownBy_below hb5 none) (by cases (Value.slice va out.length vc).ownBlock <;> simp))
    have C65:=hid (C6.out.trans (hb5.mono C6.out.size))
    have HST:=hid (StS.below (n₀:=w.heap.size) (L:=w.heap.size+1+1+1) hb5 C6.out.size)
    have hX5:=HX.out.below hb5 HX.out.lt
    have hs5:=hb5.size
    have hs7:=C7.out
    clear u1 u2 t0 t1 hb5
    have u1:=C15.out.cell;have t0:=Blk.cell hX5 (j:=0) rfl;have t1:=Blk.cell hX5 (j:=1) rfl
    have f1:=C15.out.frozen
    have HX5:=hid hX5;clear hX5
    cases pv with
    | false=>
      have HN:=hid (show thoseL isf ((pre ++ [⟨((lo,hx),m),p0,p1,p2⟩]:List Span).map (·.1))=out by rw [HSN.out];simp only [stepT];rw [← HPV.out];simp)
      gi_wp2_with fail
      exact ⟨HST.out.keeps.from _,HST.out.kp,_,C15.out,C25.out,by rw [HN.out];exact C35.out,by rw [HN.out];simp;have:=C4.out;omega,by rw [HN.out];exact C5.out,C65.out,by omega⟩
    | true=>
      have HN:=hid (show thoseL isf ((pre ++ [⟨((lo,hx),m),p0,p1,p2⟩]:List Span).map (·.1))=pushT out (lo,hx) by rw [HSN.out];simp only [stepT];rw [← HPV.out];simp)
      rcases snoc_cases out with rfl | ⟨b,y,rfl⟩
      · gi_wp2_with fail
        refine wpIn_region_quiet_round l rfl (by kernel_rfl) (by kernel_rfl) (by kernel_rfl) ?_
        repeat (gi_big_quiet_step (fail))
        refine wpQuietIn_nil ?_
        intro _ hw'
        obtain ⟨nq,hw''⟩:=hw'
        subst hw''
        have T6:=hid ((⟨C15.out,C25.out,C35.out,C4.out,C5.out,C65.out,by omega⟩:TI w w.heap.size (.func (.func gi) #[] #[]) [] pre.length (w.heap.size+1+1+1) (.slice va 0 vc) w5).kept (below_drewN (Below.refl _ _) nq))
        have S6:=hid (HST.out.trans (StS.below (n₀:=w.heap.size) (L:=w.heap.size+1+1+1) (below_drewN (Below.refl _ w5) nq) (by omega)))
        obtain ⟨W6,hW6⟩:∃ W6,w5.drewN nq=W6:=⟨_,rfl⟩
        have u6:W6.cell? ⟨w.heap.size+1,0,none⟩=some (.slice va 0 vc):=hW6 ▸ u1
        have t60:W6.cell? ⟨Bx,0,none⟩=some (.int .i32 lo):=hW6 ▸ t0
        have t61:W6.cell? ⟨Bx,1,none⟩=some (.int .i32 hx):=hW6 ▸ t1
        rw [hW6] at T6 S6 ⊢
        clear hW6 u1 t0 t1 f1
        have hs6:=T6.out.below.size
        have hk6:=T6.out.len
        gi_wp2_with (gi_at_builtin;refine wpListIn_append_own _ rfl _ _ 26 rfl w.heap.size 61 i0 (.agg #[.int .i32 0,.int .i32 0]) 2 8 Tryz.underlying26 hi hz0 hz1 hz2 rfl (by decide) _ _ _ rfl (T6.out.row.alloc _) ⟨W6.heap.size,0,none⟩ 1 1 [.int .i32 lo,.int .i32 hx] rfl rfl (cell_two_new _ _ _ _) (fun x hx=>by simp at hx;rcases hx with rfl | rfl <;> rfl) (by unfold maxLen;simp) (by simp) (by simp;omega) ?_;intro v' w4 hown' hgrow _;obtain ⟨g',cap',rfl⟩:=ownsRow_succ hown';have hq:=(T6.out.box.alloc (.cells #[.int .i32 lo,.int .i32 hx] 61)).kept hgrow ((T6.out.box.alloc (.cells #[.int .i32 lo,.int .i32 hx] 61)).not_row (by decide) (T6.out.row.alloc (.cells #[.int .i32 lo,.int .i32 hx] 61)));have hc1:=hq.cell;have hf1:=hq.frozen)
        have:=T6.out.pushed (by omega) p2 (by rfl) hown' hgrow
        exact ⟨(S6.out.trans this.2).keeps.from _,(S6.out.trans this.2).kp,_,by rw [HN.out,List.length_append];exact this.1⟩
      · have T5:=hid (⟨C15.out,C25.out,C35.out,C4.out,C5.out,C65.out,by omega⟩:TI w w.heap.size (.func (.func gi) #[] #[]) (b ++ [y]) pre.length (w.heap.size+1+1+1) (.slice va (b ++ [y]).length vc) w5)
        have hlb:(b ++ [y]).length=b.length+1:=by simp
        have hy:=T5.out.top y (by simp)
        obtain ⟨y1,y2⟩:=y
        dsimp only at hy
        obtain ⟨g,rfl⟩:∃ g,va=some ⟨g,0,none⟩:=by
          rcases T5.out.row.2 with ⟨_,h0⟩ | ⟨g,cap,cur,h,_⟩
          · rw [hlb] at h0;cases h0
          · cases h;exact ⟨g,rfl⟩
        have ct:=(T5.out.row.cellAt (b.length * 2+1) (by rw [hlb];omega)).trans (flatR_snoc1 b (y1,y2))
        have fr:=T5.out.row.frozenAt (b.length * 2+1)
        have hbl:b.length+1≤4000000000001:=by have:=T5.out.len;rw [hlb] at this;omega
        have HLB:=hid hlb
        rw [hlb] at u1 ⊢
        clear hlb C15 C25 C35 C4 C5 C65
        have hg0:decide ((b.length:Int)+1 > 0)=true:=decide_eq_true (by omega)
        have hwr:IntKind.i64.wrap (b.length:Int)=(b.length:Int):=by rw [IntKind.wrap_i64];omega
        have hwy:IntKind.i32.wrap (y2+1)=y2+1:=IntWalk.i32_in _ (by omega)
        have c78:Tryz.prog.cellsOf 61=2:=by kernel_rfl
        have hix1:(b.length:Int) < (b.length:Int)+1:=by omega
        have hix2:(b.length:Int) < ((b.length+1:Nat):Int):=by omega
        have hix3:b.length < b.length+1:=by omega
        have hix0:(0:Int)≤(b.length:Int):=by omega
        by_cases hyx:y2+1=lo
        · have hyb:(y2+1 == lo)=true:=by simpa using hyx
          gi_wp2_with fail
          refine wpIn_region_quiet_round l rfl (by kernel_rfl) (by kernel_rfl) (by kernel_rfl) ?_
          repeat (gi_big_quiet_step (fail))
          refine wpQuietIn_nil ?_
          intro _ hw'
          obtain ⟨nq,hw''⟩:=hw'
          subst hw''
          have T6:=hid (T5.out.kept (below_drewN (Below.refl _ _) nq))
          have S6:=hid (HST.out.trans (StS.below (n₀:=w.heap.size) (L:=w.heap.size+1+1+1) (below_drewN (Below.refl _ w5) nq) (by omega)))
          obtain ⟨W6,hW6⟩:∃ W6,w5.drewN nq=W6:=⟨_,rfl⟩
          have u6:W6.cell? ⟨w.heap.size+1,0,none⟩=some (.slice (some ⟨g,0,none⟩) (b.length+1) vc):=hW6 ▸ u1
          have t60:W6.cell? ⟨Bx,0,none⟩=some (.int .i32 lo):=hW6 ▸ t0
          have t61:W6.cell? ⟨Bx,1,none⟩=some (.int .i32 hx):=hW6 ▸ t1
          have ct6:W6.cell? ⟨g,b.length * 2+1,none⟩=some (.int .i32 y2):=hW6 ▸ ct
          have fr6:W6.frozen? ⟨g,b.length * 2+1,none⟩=false:=hW6 ▸ fr
          rw [hW6] at T6 S6 ⊢
          clear hW6 u1 t0 t1 f1 ct fr
          gi_wp2_with fail
          have:=T6.out.joined (lo:=lo) (hx:=hx) (by omega) p2 hyx
          exact ⟨(S6.out.trans this.2).keeps.from _,(S6.out.trans this.2).kp,_,by rw [HN.out,List.length_append];exact this.1⟩
        · have hyb:(y2+1 == lo)=false:=by simpa using hyx
          have HYX:=hid hyx;clear hyx
          gi_wp2_with fail
          refine wpIn_region_quiet_round l rfl (by kernel_rfl) (by kernel_rfl) (by kernel_rfl) ?_
          repeat (gi_big_quiet_step (fail))
          refine wpQuietIn_nil ?_
          intro _ hw'
          obtain ⟨nq,hw''⟩:=hw'
          subst hw''
          have T6:=hid (T5.out.kept (below_drewN (Below.refl _ _) nq))
          have S6:=hid (HST.out.trans (StS.below (n₀:=w.heap.size) (L:=w.heap.size+1+1+1) (below_drewN (Below.refl _ w5) nq) (by omega)))
          obtain ⟨W6,hW6⟩:∃ W6,w5.drewN nq=W6:=⟨_,rfl⟩
          have u6:W6.cell? ⟨w.heap.size+1,0,none⟩=some (.slice (some ⟨g,0,none⟩) (b.length+1) vc):=hW6 ▸ u1
          have t60:W6.cell? ⟨Bx,0,none⟩=some (.int .i32 lo):=hW6 ▸ t0
          have t61:W6.cell? ⟨Bx,1,none⟩=some (.int .i32 hx):=hW6 ▸ t1
          have ct6:W6.cell? ⟨g,b.length * 2+1,none⟩=some (.int .i32 y2):=hW6 ▸ ct
          have fr6:W6.frozen? ⟨g,b.length * 2+1,none⟩=false:=hW6 ▸ fr
          rw [hW6] at T6 S6 ⊢
          clear hW6 u1 t0 t1 f1 ct fr
          have hs6:=T6.out.below.size
          have hk6:=T6.out.len
          gi_wp2_with (gi_at_builtin;refine wpListIn_append_own _ rfl _ _ 26 rfl w.heap.size 61 i0 (.agg #[.int .i32 0,.int .i32 0]) 2 8 Tryz.underlying26 hi hz0 hz1 hz2 rfl (by decide) _ _ _ (by rw [HLB.out];rfl) (T6.out.row.alloc _) ⟨W6.heap.size,0,none⟩ 1 1 [.int .i32 lo,.int .i32 hx] rfl rfl (cell_two_new _ _ _ _) (fun x hx=>by simp at hx;rcases hx with rfl | rfl <;> rfl) (by unfold maxLen;rw [HLB.out];omega) (by rw [HLB.out];omega) (by simp;omega) ?_;intro v' w4 hown' hgrow _;obtain ⟨g',cap',rfl⟩:=ownsRow_succ hown';have hq:=(T6.out.box.alloc (.cells #[.int .i32 lo,.int .i32 hx] 61)).kept hgrow ((T6.out.box.alloc (.cells #[.int .i32 lo,.int .i32 hx] 61)).not_row (by decide) (T6.out.row.alloc (.cells #[.int .i32 lo,.int .i32 hx] 61)));have hc1:=hq.cell;have hf1:=hq.frozen)
          have:=T6.out.pushed (by omega) p2 (by rw [pushT_snoc,if_neg (by exact HYX.out)]) hown' hgrow
          rw [HLB.out] at this
          exact ⟨(S6.out.trans this.2).keeps.from _,(S6.out.trans this.2).kp,_,by rw [HN.out,List.length_append];exact this.1⟩
  case done=>
    rintro D ys W hD hS ⟨v,c1,c2,c3,c4,c5,c6,c7⟩ hK
    rw [hS] at c3
    have u1:=c1.cell
    have HK:=hid hK;have HB:=hid c6;have C3:=hid c3
    clear hK c1 c2 c3 c4 c5 c6 hS
    go_wp2_with fail
    refine ⟨by simp,.inl ⟨_,_,rfl,run_takeDeferred HK.out,?_⟩⟩
    exact ⟨_,results_tmp rfl _ _ _,v,rfl,ownsRow_putObj C3.out _ HK.out rfl,HB.out.trans (belowK_b (w:=w) (Nat.le_refl _) W D _ _ (by omega) HK.out rfl rfl)⟩
  case stop=>
    rintro D c pre W _ _ h _
    exact h.elim
end Go.Proofs.YtnhnldmldnhaoaaGreatDoor
namespace Go.Proofs.YtnhnldmldnhaoaaGreatDoor
open Go Go.RowKit Go.Proofs Go.Shelf
theorem EdgesV.of_row {w:World} {base:Nat} {es:List (Int × Int)} {v:Value} (h:w.ownsRow base 166 2 v es.length (flatE es)):∃ sa sc,v = .slice sa es.length sc∧EdgesV w w.heap.size es sa:=by
  have h':=h
  rcases h.2 with ⟨rfl,h0⟩ | ⟨g,cap,cur,rfl,hb,hg,_⟩
  · exact ⟨none,0,by rw [h0],.inl (List.eq_nil_of_length_eq_zero h0)⟩
  · refine ⟨_,_,rfl,.inr ⟨g,rfl,(Array.getElem?_eq_some_iff.1 hg).1,fun j hj=>⟨?_,?_⟩⟩⟩
    · rw [h'.cellAt (j * 2) (by omega),flatE_get es _ (by omega)]
      have e1:j * 2 / 2=j:=by omega
      have e2:j * 2 % 2=0:=by omega
      simp only [e1,e2];simp [encE]
    · rw [h'.cellAt (j * 2+1) (by omega),flatE_get es _ (by omega)]
      have e1:(j * 2+1) / 2=j:=by omega
      have e2:(j * 2+1) % 2=1:=by omega
      simp only [e1,e2];simp [encE]
def Laid (w w':World) (out:List (Int × Int)) (v:Value):Prop:=w'.ownsRow w.heap.size 61 2 v out.length (flatR out)
theorem RangesAt.of_cells {w:World} {b:Nat}:∀ (rs:List (Int × Int)) (o:Nat),(∀ j (h:j < rs.length),w.cell? ⟨b,o+j * 2,none⟩=some (.int .i32 rs[j].1)∧w.cell? ⟨b,o+j * 2+1,none⟩=some (.int .i32 rs[j].2))→RangesAt w rs b o
  | [],_,_=>trivial
  | (l,h) :: rs,o,hc=>by
    have h0:=hc 0 (by simp)
    simp only [List.getElem_cons_zero,Nat.zero_mul,Nat.add_zero] at h0
    refine ⟨h0.1,h0.2,RangesAt.of_cells rs (o+2) fun j hj=>?_⟩
    have h1:=hc (j+1) (by simpa using hj)
    have e1:o+(j+1) * 2=o+2+j * 2:=by omega
    rw [e1] at h1
    simpa using h1
theorem flatR_get:∀ (rs:List (Int × Int)) (j:Nat) (h:j < rs.length),(flatR rs)[j * 2]? = some (.int .i32 rs[j].1)∧(flatR rs)[j * 2+1]? = some (.int .i32 rs[j].2)
  | x :: rs,0,_=>by simp [flatR]
  | x :: rs,j+1,h=>by
    have:=flatR_get rs j (by simpa using h)
    have e1:(j+1) * 2=j * 2+1+1:=by omega
    rw [show flatR (x :: rs) = .int .i32 x.1 :: .int .i32 x.2 :: flatR rs by simp [flatR],e1]
    simpa using this
theorem Laid.ranges {w w':World} {out:List (Int × Int)} {v:Value} (h:Laid w w' out v) (hN:out.length≤140737488351232):∃ sa sc,v = .slice sa out.length sc∧RangesV w' w'.heap.size out sa out.length sc∧(out=[]∨∃ g,sa=some ⟨g,0,none⟩):=by
  have h':=h
  rcases h.2 with ⟨rfl,h0⟩ | ⟨g,cap,cur,rfl,hb,hg,hc,_⟩
  · exact ⟨none,0,by rw [h0],⟨rfl,⟨by omega,hN⟩,.inl h0⟩,.inl (List.eq_nil_of_length_eq_zero h0)⟩
  · refine ⟨_,_,rfl,⟨rfl,⟨hc,hN⟩,.inr ⟨g,0,rfl,(Array.getElem?_eq_some_iff.1 hg).1,RangesAt.of_cells out 0 fun j hj=>?_⟩⟩,.inr ⟨g,rfl⟩⟩
    have hf:=flatR_get out j hj
    have h':w'.ownsRow w.heap.size 61 2 (.slice (some ⟨g,0,none⟩) out.length cap) out.length (flatR out):=h'
    rw [Nat.zero_add,h'.cellAt (j * 2) (by omega),h'.cellAt (j * 2+1) (by omega)]
    exact hf
theorem thoseL_length (is:Int→Bool) (sp:List ((Int × Int) × Int)):(thoseL is sp).length≤sp.length:=by
  have key:∀ (sp:List ((Int × Int) × Int)) (out:List (Int × Int)),(sp.foldl (stepT is) out).length≤out.length+sp.length:=by
    intro sp
    induction sp with
    | nil=>intro out;simp
    | cons x sp ih=>
      intro out
      refine Nat.le_trans (ih _) ?_
      have:(stepT is out x).length≤out.length+1:=by
        unfold stepT;split
        · exact pushT_length _ _
        · omega
      simp only [List.length_cons];omega
  simpa [thoseL] using key sp []
theorem edgesOf_flatten:∀ ls:List (List (Int × Int)),edgesOf ls=edgesL ls.flatten
  | []=>rfl
  | a :: l=>by
    have:=edgesOf_flatten l
    unfold edgesOf at this ⊢
    rw [List.flatMap_cons,List.flatten_cons,edges_append,this]
theorem edgesOf_length (ls:List (List (Int × Int))):(edgesOf ls).length≤2 * ls.flatten.length:=by
  rw [edgesOf_flatten];exact edges_length _
theorem swept (is:Int→Bool) (ls:List (List (Int × Int))) (es:List (Int × Int)) (hp:es.Perm (edgesOf ls)) (hs:es.Pairwise fun a b=>a.1≤b.1) :
    setRight (thoseL is (spansL 0 0 es))=true∧(∀ c,memR (thoseL is (spansL 0 0 es)) c=(decide (0≤c) && decide (c≤1114111) && is (coverN c ls.flatten)))∧(thoseL is (spansL 0 0 es)).length≤2 * ls.flatten.length+1∧
      (∀ e ∈ es,0≤e.1∧e.1≤1114112∧(e.2=1∨e.2 = -1)):=by
  rw [edgesOf_flatten] at hp
  obtain ⟨h1,h2⟩:=sweep is _ es hp hs
  refine ⟨h1,h2,?_,fun x hx=>edges_bound _ x (hp.mem_iff.1 hx)⟩
  have l1:=thoseL_length is (spansL 0 0 es)
  have l2:=spansL_length es 0 0
  have l3:=hp.length_eq
  have l4:=edges_length ls.flatten
  omega
theorem ListsAt.one {w:World} {B:Nat} {rs:List (Int × Int)} {sa:Option Addr} {sn sc:Nat} (hB:B≤w.heap.size) (h:RangesV w B rs sa sn sc) (t:TypeId):ListsAt (w.alloc (.cells #[.slice sa sn sc] t)) B [rs] w.heap.size:=by
  intro j hj
  obtain rfl:j=0:=by simpa using hj
  exact ⟨sa,sn,sc,(Blk.new w [.slice sa sn sc] t).cell (j:=0) rfl,h.below ((Below.refl _ w).alloc hB _)⟩
theorem ListsAt.two {w:World} {B:Nat} {r1 r2:List (Int × Int)} {a1 a2:Option Addr} {n1 c1 n2 c2:Nat} (hB:B≤w.heap.size) (h1:RangesV w B r1 a1 n1 c1) (h2:RangesV w B r2 a2 n2 c2) (t:TypeId):ListsAt (w.alloc (.cells #[.slice a1 n1 c1,.slice a2 n2 c2] t)) B [r1,r2] w.heap.size:=by
  intro j hj
  match j,hj with
  | 0,_=>exact ⟨a1,n1,c1,(Blk.new w [.slice a1 n1 c1,.slice a2 n2 c2] t).cell (j:=0) rfl,h1.below ((Below.refl _ w).alloc hB _)⟩
  | 1,_=>exact ⟨a2,n2,c2,(Blk.new w [.slice a1 n1 c1,.slice a2 n2 c2] t).cell (j:=1) rfl,h2.below ((Below.refl _ w).alloc hB _)⟩
def SetOf (w:World) (p:Int→Bool) (N:Nat) (e:Ending) (w':World):Prop:=
  ∃ v out,e = .returned v∧Laid w w' out v∧setRight out=true∧(∀ c,memR out c=(decide (0≤c) && decide (c≤1114111) && p c))∧out.length≤N∧Below w.heap.size w w'
theorem union_is (n:Int) (W:World):Calls Tryz.prog 88 #[.int .i64 n] W fun e w'=>e = .returned (.bool (decide (0 < n)))∧Below W.heap.size W w':=by
  go_enter Tryz.func88, Tryz.ntmps88
  go_wp2
  go_ret
  exact ⟨by by_cases h:0 < n <;> simp [h],Below.refl _ _⟩
theorem sets_Union (r1 r2:List (Int × Int)) (a1 a2:Option Addr) (n1 c1 n2 c2 B:Nat) (w:World) (h1:RangesV w B r1 a1 n1 c1) (h2:RangesV w B r2 a2 n2 c2) (hB:B≤w.heap.size) (hN:r1.length+r2.length≤1000000000000) :
    Calls Tryz.prog 65 #[.slice a1 n1 c1,.slice a2 n2 c2] w (SetOf w (fun c=>memR r1 c || memR r2 c) (2 * (r1.length+r2.length)+1)):=by
  have hl:=ListsAt.two hB h1 h2 26
  have hee:Calls Tryz.prog 87 #[.slice (some ⟨w.heap.size,0,none⟩) 2 2] (w.alloc (.cells #[.slice a1 n1 c1,.slice a2 n2 c2] 26)) _:=edges_any [r1,r2] w.heap.size 2 B (w.alloc (.cells #[.slice a1 n1 c1,.slice a2 n2 c2] 26)) hl (by simp) (by simp;omega) (by simp) (by have:=edgesOf_length [r1,r2];simp at this;omega)
  have HE:=hid hee;clear hee hl
  go_enter Tryz.func65, Tryz.ntmps65
  go_wp2_with fail
  refine (HE.out).mono ?_
  rintro e w1 ⟨v,es,rfl,hp,hs,hrow,hb⟩
  obtain ⟨ea,ec,rfl,hv⟩:=EdgesV.of_row hrow
  obtain ⟨s1,s2,s3,s4⟩:=swept (fun n=>decide (0 < n)) [r1,r2] es hp hs
  have hel:es.length≤4000000000000:=by have:=hp.length_eq;have h2:=edgesOf_length [r1,r2];simp at h2;omega
  have hth:=those_any (fun n=>decide (0 < n)) 88 (enters_of Tryz.func88 (by kernel_rfl) rfl) union_is es ea ec w1.heap.size w1 hv (Nat.le_refl _) s4 hel
  have HT:=hid hth
  have HS:=hid (And.intro s1 (And.intro s2 s3));have HB:=hid hb
  clear hth s1 s2 s3 s4 hp hs hrow hb hv hel
  go_wp2_with fail
  refine (HT.out).mono ?_
  rintro e w2 ⟨v,rfl,hrow2,hb2⟩
  have HR2:=hid hrow2;have HB2:=hid hb2
  clear hrow2 hb2
  go_wp2_with fail
  have hb0:Below w.heap.size w w1:=((Below.refl _ w).alloc (Nat.le_refl _) _).trans (HB.out.mono (by simp))
  go_ret
  refine ⟨v,_,rfl,?_,HS.out.1,?_,?_,hb0.trans (HB2.out.mono hb0.size)⟩
  · exact Joins.ownsRow_le HR2.out hb0.size
  · intro c;rw [HS.out.2.1];simp only [List.flatten_cons,List.flatten_nil,List.append_nil,coverN_pos,memR_append]
  · have:=HS.out.2.2;simpa using this
theorem RangesV.nil (w:World) (B:Nat):RangesV w B [] none 0 0:=⟨rfl,⟨Nat.le_refl _,by omega⟩,.inl rfl⟩
theorem sets_Norm (rs:List (Int × Int)) (sa:Option Addr) (sn sc B:Nat) (w:World) (h:RangesV w B rs sa sn sc) (hB:B≤w.heap.size) (hN:rs.length≤1000000000000) :
    Calls Tryz.prog 50 #[.slice sa sn sc] w (SetOf w (fun c=>memR rs c) (2 * rs.length+1)):=by
  have HU:=hid (sets_Union rs [] sa none sn sc 0 0 B w h (RangesV.nil w B) hB (by simpa using hN))
  go_enter Tryz.func50, Tryz.ntmps50
  go_wp2_with fail
  refine (HU.out).mono ?_
  rintro e w1 ⟨v,out,rfl,h1,h2,h3,h4,h5⟩
  have H:=hid (And.intro h1 (And.intro h2 (And.intro h3 (And.intro h4 h5))))
  clear h1 h2 h3 h4 h5
  go_wp2_with fail
  go_ret
  obtain ⟨h1,h2,h3,h4,h5⟩:=H.out
  exact ⟨v,out,rfl,h1,h2,fun c=>by rw [h3];simp [memR],by simpa using h4,h5⟩
end Go.Proofs.YtnhnldmldnhaoaaGreatDoor
namespace Go.Proofs.YtnhnldmldnhaoaaGreatDoor
open Go Go.RowKit Go.Proofs Go.Shelf
structure GrownF (F:Nat→Prop) (w w':World):Prop where
  os:w'.os=w.os
  tape:w'.tape=w.tape
  output:w'.output=w.output
  size:w.heap.size≤w'.heap.size
  block:∀ k,k < w.heap.size→¬ F k→w'.heap[k]? = w.heap[k]?
theorem GrownF.refl (F:Nat→Prop) (w:World):GrownF F w w:=⟨rfl,rfl,rfl,Nat.le_refl _,fun _ _ _=>rfl⟩
theorem GrownF.mono {F G:Nat→Prop} {w w':World} (h:GrownF F w w') (hF:∀ k,k < w.heap.size→F k→G k):GrownF G w w':=
  ⟨h.os,h.tape,h.output,h.size,fun k hk hn=>h.block k hk fun hf=>hn (hF k hk hf)⟩
theorem GrownF.trans {F G:Nat→Prop} {a b c:World} (h:GrownF F a b) (h':GrownF G b c) (hG:∀ k,k < a.heap.size→G k→F k):GrownF F a c:=
  ⟨h'.os.trans h.os,h'.tape.trans h.tape,h'.output.trans h.output,Nat.le_trans h.size h'.size,fun k hk hn=>
    (h'.block k (Nat.lt_of_lt_of_le hk h.size) fun hg=>hn (hG k hk hg)).trans (h.block k hk hn)⟩
theorem GrownF.of_below {F:Nat→Prop} {w w':World} (h:Below w.heap.size w w'):GrownF F w w':=⟨h.os,h.tape,h.output,h.size,fun k hk _=>h.block k hk⟩
theorem GrownF.of_grown {F:Nat→Prop} {w w':World} {row:Option Nat} (h:w.grownBy w' row) (hr:∀ k,row=some k→k < w.heap.size→F k):GrownF F w w':=
  ⟨h.os,h.tape,h.output,h.size,fun k hk hn=>h.block k hk fun e=>hn (hr k e.symm hk)⟩
theorem GrownF.below {F:Nat→Prop} {w w':World} {B:Nat} (h:GrownF F w w') (hB:B≤w.heap.size) (hF:∀ k,k < B→¬ F k):Below B w w':=
  ⟨h.os,h.tape,h.output,h.size,fun k hk=>h.block k (Nat.lt_of_lt_of_le hk hB) (hF k hk)⟩
theorem GrownF.then_below {F:Nat→Prop} {a b c:World} (h:GrownF F a b) (h':Below b.heap.size b c):GrownF F a c:=h.trans (GrownF.of_below (F:=fun _=>False) h') (fun _ _ hf=>hf.elim)
theorem GrownF.alloc {F:Nat→Prop} {a b:World} (h:GrownF F a b) (o:Obj):GrownF F a (b.alloc o):=h.then_below ((Below.refl _ b).alloc (Nat.le_refl _) o)
theorem GrownF.drew {F:Nat→Prop} {a b:World} (h:GrownF F a b):GrownF F a b.drew:=h.then_below (Below.refl _ b).drew
theorem GrownF.drewN {F:Nat→Prop} {a b:World} (h:GrownF F a b) (n:Nat):GrownF F a (b.drewN n):=h.then_below (below_drewN (Below.refl _ b) n)
theorem GrownF.setCell {F:Nat→Prop} {a b:World} (h:GrownF F a b) {p:Addr} (hp:p.block < a.heap.size→F p.block) (v:Value):GrownF F a (b.setCell p v):=
  h.trans (G:=fun k=>k=p.block) (GrownF.of_grown (grownBy_setCell b p.block p.off v |> fun hg=>(show b.grownBy (b.setCell p v) (some p.block) from ⟨rfl,rfl,rfl,by simp [World.setCell],fun k _ hk=>Below.heap_setCell b p v k (fun e=>hk (by rw [e]))⟩)) (fun k e _=>by cases e;rfl)) (fun k hk e=>by subst e;exact hp hk)
def SetF (w:World) (ok:Nat→Prop) (rs:List (Int × Int)) (a:Option Addr) (n c:Nat):Prop:=
  n=rs.length∧(n≤c∧n≤140737488351232)∧(n=0∨∃ b o,a=some ⟨b,o,none⟩∧ok b∧RangesAt w rs b o)
mutual
def TreeF (w:World) (ok:Nat→Prop):T→List Value→Prop
  | .mk op kids rune set pl cap name mn mx lz,cs=>∃ (ka:Option Addr) (kn kc:Nat) (sa:Option Addr) (sn sc:Nat),
      cs=[.int .i64 op,.slice ka kn kc,.int .i32 rune,.slice sa sn sc,.int .i64 pl,.int .i64 cap,.string name,.int .i64 mn,.int .i64 mx,.bool lz]∧
      kn=kids.length∧(kn≤kc∧kn≤140737488351232)∧(kn=0∨∃ b o,ka=some ⟨b,o,none⟩∧ok b∧KidsF w ok kids b o)∧SetF w ok set sa sn sc
def KidsF (w:World) (ok:Nat→Prop):List T→Nat→Nat→Prop
  | [],_,_=>True
  | t :: ts,b,o=>(∃ cs,TreeF w ok t cs∧RowAt w b o cs)∧KidsF w ok ts b (o+10)
end
def KidsS (w:World) (ok:Nat→Prop) (kids:List T) (a:Option Addr) (n c:Nat):Prop:=
  n=kids.length∧(n≤c∧n≤140737488351232)∧(n=0∨∃ b o,a=some ⟨b,o,none⟩∧ok b∧KidsF w ok kids b o)
theorem TreeF.open {w:World} {ok:Nat→Prop} {op:Int} {kids:List T} {rune:Int} {set:List (Int × Int)} {pl cap:Int} {name:ByteArray} {mn mx:Int} {lz:Bool} {cs:List Value}
    (h:TreeF w ok (.mk op kids rune set pl cap name mn mx lz) cs):∃ (ka:Option Addr) (kn kc:Nat) (sa:Option Addr) (sn sc:Nat),
      cs=[.int .i64 op,.slice ka kn kc,.int .i32 rune,.slice sa sn sc,.int .i64 pl,.int .i64 cap,.string name,.int .i64 mn,.int .i64 mx,.bool lz]∧
      KidsS w ok kids ka kn kc∧SetF w ok set sa sn sc:=by
  unfold TreeF at h
  obtain ⟨ka,kn,kc,sa,sn,sc,h1,h2,h3,h4,h5⟩:=h
  exact ⟨ka,kn,kc,sa,sn,sc,h1,⟨h2,h3,h4⟩,h5⟩
theorem TreeF.mk {w:World} {ok:Nat→Prop} {op:Int} {kids:List T} {rune:Int} {set:List (Int × Int)} {pl cap:Int} {name:ByteArray} {mn mx:Int} {lz:Bool}
    {ka:Option Addr} {kn kc:Nat} {sa:Option Addr} {sn sc:Nat} (h1:KidsS w ok kids ka kn kc) (h2:SetF w ok set sa sn sc) :
    TreeF w ok (.mk op kids rune set pl cap name mn mx lz) [.int .i64 op,.slice ka kn kc,.int .i32 rune,.slice sa sn sc,.int .i64 pl,.int .i64 cap,.string name,.int .i64 mn,.int .i64 mx,.bool lz]:=by
  unfold TreeF
  exact ⟨ka,kn,kc,sa,sn,sc,rfl,h1.1,h1.2.1,h1.2.2,h2⟩
theorem TreeF.length {w:World} {ok:Nat→Prop} {t:T} {cs:List Value} (h:TreeF w ok t cs):cs.length=10:=by
  cases t
  obtain ⟨ka,kn,kc,sa,sn,sc,rfl,_⟩:=h.open
  rfl
theorem TreeF.one {w:World} {ok:Nat→Prop} {t:T} {cs:List Value} (h:TreeF w ok t cs):∀ u ∈ cs,u.oneCell'=true:=by
  cases t
  obtain ⟨ka,kn,kc,sa,sn,sc,rfl,_⟩:=h.open
  intro u hu
  simp only [List.mem_cons,List.not_mem_nil,or_false] at hu
  rcases hu with rfl | rfl | rfl | rfl | rfl | rfl | rfl | rfl | rfl | rfl <;> rfl
theorem TreeF.form {w:World} {ok:Nat→Prop} {t:T} {cs:List Value} (h:TreeF w ok t cs):∃ (op:Int) (ka:Option Addr) (kn kc:Nat) (rune:Int) (sa:Option Addr) (sn sc:Nat) (pl cap:Int) (name:ByteArray) (mn mx:Int) (lz:Bool),
    cs=[.int .i64 op,.slice ka kn kc,.int .i32 rune,.slice sa sn sc,.int .i64 pl,.int .i64 cap,.string name,.int .i64 mn,.int .i64 mx,.bool lz]:=by
  cases t
  obtain ⟨ka,kn,kc,sa,sn,sc,rfl,_⟩:=h.open
  exact ⟨_,_,_,_,_,_,_,_,_,_,_,_,_,_,rfl⟩
theorem KidsF.nil {w:World} {ok:Nat→Prop} {b o:Nat}:KidsF w ok [] b o:=by unfold KidsF;trivial
theorem KidsF.cons {w:World} {ok:Nat→Prop} {b o:Nat} {t:T} {ts:List T}:KidsF w ok (t :: ts) b o↔(∃ cs,TreeF w ok t cs∧RowAt w b o cs)∧KidsF w ok ts b (o+10):=by
  constructor
  · intro h;unfold KidsF at h;exact h
  · intro h;unfold KidsF;exact h
theorem RangesAt.turned {w w':World} {b:Nat} (hb:w'.heap[b]? = w.heap[b]?):∀ {rs:List (Int × Int)} {o:Nat},RangesAt w rs b o→RangesAt w' rs b o
  | [],_,_=>trivial
  | (_,_) :: _,_,h=>⟨(World.cell?_of_block (w:=w) hb).trans h.1,(World.cell?_of_block (w:=w) hb).trans h.2.1,RangesAt.turned hb h.2.2⟩
theorem RowAt.turned {w w':World} {b o:Nat} {cs:List Value} (h:RowAt w b o cs) (hb:w'.heap[b]? = w.heap[b]?):RowAt w' b o cs:=fun j hj=>(World.cell?_of_block (w:=w) hb).trans (h j hj)
theorem SetF.turned {w w':World} {ok ok':Nat→Prop} {rs:List (Int × Int)} {a:Option Addr} {n c:Nat} (h:SetF w ok rs a n c) (hb:∀ b,ok b→w'.heap[b]? = w.heap[b]?) (hk:∀ b,ok b→ok' b):SetF w' ok' rs a n c:=by
  obtain ⟨h1,h2,h3⟩:=h
  refine ⟨h1,h2,?_⟩
  rcases h3 with h3 | ⟨b,o,e,hok,hr⟩
  · exact .inl h3
  · exact .inr ⟨b,o,e,hk b hok,hr.turned (hb b hok)⟩
mutual
theorem TreeF.turned {w w':World} {ok ok':Nat→Prop} (hb:∀ b,ok b→w'.heap[b]? = w.heap[b]?) (hk:∀ b,ok b→ok' b):∀ {t:T} {cs:List Value},TreeF w ok t cs→TreeF w' ok' t cs
  | .mk op kids rune set pl cap name mn mx lz,cs,h=>by
    obtain ⟨ka,kn,kc,sa,sn,sc,rfl,⟨h1,h2,h3⟩,h4⟩:=h.open
    refine TreeF.mk ⟨h1,h2,?_⟩ (h4.turned hb hk)
    rcases h3 with h3 | ⟨b,o,e,hok,hr⟩
    · exact .inl h3
    · exact .inr ⟨b,o,e,hk b hok,KidsF.turned hb hk (hb b hok) hr⟩
theorem KidsF.turned {w w':World} {ok ok':Nat→Prop} (hb:∀ b,ok b→w'.heap[b]? = w.heap[b]?) (hk:∀ b,ok b→ok' b) {b:Nat} (hbb:w'.heap[b]? = w.heap[b]?):∀ {ts:List T} {o:Nat},KidsF w ok ts b o→KidsF w' ok' ts b o
  | [],_,_=>KidsF.nil
  | t :: ts,o,h=>by
    obtain ⟨⟨cs,h1,h2⟩,h3⟩:=KidsF.cons.1 h
    exact KidsF.cons.2 ⟨⟨cs,TreeF.turned hb hk h1,h2.turned hbb⟩,KidsF.turned hb hk hbb h3⟩
end
mutual
theorem TreeF.treeV {w:World} {ok:Nat→Prop} {B:Nat} (hk:∀ b,ok b→b < B):∀ {t:T} {cs:List Value},TreeF w ok t cs→TreeV w B t cs
  | .mk op kids rune set pl cap name mn mx lz,cs,h=>by
    obtain ⟨ka,kn,kc,sa,sn,sc,rfl,⟨h1,h2,h3⟩,h4,h5,h6⟩:=h.open
    refine TreeV.mk ⟨h1,h2,?_⟩ ⟨h4,h5,?_⟩
    · rcases h3 with h3 | ⟨b,o,e,hok,hr⟩
      · exact .inl h3
      · exact .inr ⟨b,o,e,hk b hok,KidsF.kidsAt hk hr⟩
    · rcases h6 with h6 | ⟨b,o,e,hok,hr⟩
      · exact .inl h6
      · exact .inr ⟨b,o,e,hk b hok,hr⟩
theorem KidsF.kidsAt {w:World} {ok:Nat→Prop} {B:Nat} (hk:∀ b,ok b→b < B) {b:Nat}:∀ {ts:List T} {o:Nat},KidsF w ok ts b o→KidsAt w B ts b o
  | [],_,_=>KidsAt.nil
  | t :: ts,o,h=>by
    obtain ⟨⟨cs,h1,h2⟩,h3⟩:=KidsF.cons.1 h
    exact KidsAt.cons.2 ⟨⟨cs,TreeF.treeV hk h1,h2⟩,KidsF.kidsAt hk h3⟩
end
def TreesF (w:World) (ok:Nat→Prop):List T→List Value→Prop
  | [],xs=>xs=[]
  | t :: ts,xs=>∃ cs rest,xs=cs ++ rest∧TreeF w ok t cs∧TreesF w ok ts rest
theorem TreesF.length {w:World} {ok:Nat→Prop}:∀ {ts:List T} {xs:List Value},TreesF w ok ts xs→xs.length=ts.length * 10
  | [],xs,h=>by rw [show xs=[] from h];rfl
  | t :: ts,xs,⟨cs,rest,e,h1,h2⟩=>by rw [e,List.length_append,h1.length,h2.length,List.length_cons];omega
theorem TreesF.one {w:World} {ok:Nat→Prop}:∀ {ts:List T} {xs:List Value},TreesF w ok ts xs→∀ u ∈ xs,u.oneCell'=true
  | [],xs,h,u,hu=>by rw [show xs=[] from h] at hu;simp at hu
  | t :: ts,xs,⟨cs,rest,e,h1,h2⟩,u,hu=>by
    rw [e] at hu
    rcases List.mem_append.1 hu with hu | hu
    · exact h1.one u hu
    · exact h2.one u hu
theorem TreesF.single {w:World} {ok:Nat→Prop} {t:T} {cs:List Value} (h:TreeF w ok t cs):TreesF w ok [t] cs:=⟨cs,[],by simp,h,rfl⟩
theorem TreesF.append {w:World} {ok:Nat→Prop}:∀ {ts us:List T} {xs ys:List Value},TreesF w ok ts xs→TreesF w ok us ys→TreesF w ok (ts ++ us) (xs ++ ys)
  | [],us,xs,ys,h,h'=>by rw [show xs=[] from h];exact h'
  | t :: ts,us,xs,ys,⟨cs,rest,e,h1,h2⟩,h'=>⟨cs,rest ++ ys,by rw [e,List.append_assoc],h1,h2.append h'⟩
theorem TreesF.turned {w w':World} {ok ok':Nat→Prop} (hb:∀ b,ok b→w'.heap[b]? = w.heap[b]?) (hk:∀ b,ok b→ok' b):∀ {ts:List T} {xs:List Value},TreesF w ok ts xs→TreesF w' ok' ts xs
  | [],_,h=>h
  | _ :: _,_,⟨cs,rest,e,h1,h2⟩=>⟨cs,rest,e,h1.turned hb hk,h2.turned hb hk⟩
theorem TreesF.snoc {w:World} {ok:Nat→Prop}:∀ {ts:List T} {t:T} {xs:List Value},TreesF w ok (ts ++ [t]) xs→∃ ys cs,xs=ys ++ cs∧TreesF w ok ts ys∧TreeF w ok t cs
  | [],t,xs,⟨cs,rest,e,h1,h2⟩=>⟨[],cs,by rw [e,show rest=[] from h2];simp,rfl,h1⟩
  | u :: ts,t,xs,⟨cs,rest,e,h1,h2⟩=>by
    obtain ⟨ys,ds,e2,h3,h4⟩:=TreesF.snoc h2
    exact ⟨cs ++ ys,ds,by rw [e,e2,List.append_assoc],⟨cs,ys,rfl,h1,h3⟩,h4⟩
theorem TreesF.kids {w:World} {ok:Nat→Prop} {b:Nat}:∀ {ts:List T} {xs:List Value} {o:Nat},TreesF w ok ts xs→RowAt w b o xs→KidsF w ok ts b o
  | [],_,_,_,_=>KidsF.nil
  | t :: ts,xs,o,⟨cs,rest,e,h1,h2⟩,hr=>by
    subst e
    have hl:=h1.length
    refine KidsF.cons.2 ⟨⟨cs,h1,fun j hj=>?_⟩,TreesF.kids h2 fun j hj=>?_⟩
    · have:=hr j (by rw [List.length_append];omega)
      rw [List.getElem?_append_left hj] at this
      exact this
    · have:=hr (10+j) (by rw [List.length_append];omega)
      rw [List.getElem?_append_right (by omega),hl,show 10+j - 10=j by omega,← Nat.add_assoc] at this
      exact this
theorem ownsRow_at {w:World} {base:Nat} {e:TypeId} {sz n cap g:Nat} {xs:List Value} (h:w.ownsRow base e sz (.slice (some ⟨g,0,none⟩) n cap) n xs):RowAt w g 0 xs:=fun j hj=>by
  have:=h.cellAt j (by rw [← h.1];exact hj)
  rw [Nat.zero_add]
  exact this
theorem TreesF.slice {w:World} {ok:Nat→Prop} {ts:List T} {xs:List Value} {base:Nat} {e:TypeId} {v:Value} (h:TreesF w ok ts xs) (ho:w.ownsRow base e 10 v ts.length xs) (hok:∀ g,v.ownBlock=some g→ok g) (hN:ts.length≤140737488351232) :
    ∃ a c,v = .slice a ts.length c∧KidsS w ok ts a ts.length c:=by
  have ho':=ho
  rcases ho.2 with ⟨rfl,h0⟩ | ⟨g,cap,cur,rfl,hb,hg,hc,hm,_⟩
  · exact ⟨none,0,by rw [h0],rfl,⟨by omega,hN⟩,.inl h0⟩
  · exact ⟨_,_,rfl,rfl,⟨hc,hN⟩,.inr ⟨g,0,rfl,hok g rfl,h.kids (ownsRow_at ho')⟩⟩
theorem Blk.grownF {F:Nat→Prop} {w w':World} {b:Nat} {cs:List Value} {t:TypeId} (h:Blk w b cs t) (hg:GrownF F w w') (hb:¬ F b):Blk w' b cs t:=by
  have h1:=h.lt
  have h2:=hg.block b h1 hb
  unfold Blk at h ⊢
  rw [h2];exact h
end Go.Proofs.YtnhnldmldnhaoaaGreatDoor
