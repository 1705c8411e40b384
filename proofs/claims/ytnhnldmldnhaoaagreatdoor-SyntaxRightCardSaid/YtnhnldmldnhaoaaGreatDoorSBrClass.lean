/- brackets.Class, without FlagFold: its contract; the law's head. tables.Fold: a set with all that is alike. -/
import Derived.Test.YtnhnldmldnhaoaaGreatDoorSBrCls2
import Derived.Test.YtnhnldmldnhaoaaGreatDoorSRefHas
import Derived.Test.YtnhnldmldnhaoaaGreatDoorSOrbWalk
import Derived.Test.YtnhnldmldnhaoaaGreatDoorSEscGo
set_option maxRecDepth 100000
set_option maxHeartbeats 16000000
open Go.Lib (hid)
namespace Go.Proofs.YtnhnldmldnhaoaaGreatDoor
open Go Go.RowKit Go.Proofs Go.Shelf
theorem brackets_plain (s:ByteArray) (p:Nat) (f:Int) (w:World) (hp:p≤s.size) (hs:s.size≤100000000) (hT:Tabs w) (perl:Bool) (hP:(bits BinOp.and IntKind.i64 f 32 != 0)=perl) (hf:(bits BinOp.and IntKind.i64 f 1 != 0)=false) :
    Calls Tryz.prog 79 #[.string s,.int .i64 p,.int .i64 f] w (ClsOut w (clsQ s p perl none)):=by
  by_cases hn:stands s p [91]=true
  · cases hi:itemP s (clsAt s p) perl p with
    | wrong x a b=>
      have e:clsQ s p perl none = .wrong x a b:=by unfold clsQ clsP;rw [hn,hi];rfl
      rw [e]
      exact cls_first s p f w hp hs hT perl hP hn x a b hi
    | ok f0 q0=>exact cls_items s p f w hp hs hT perl hP hf hn f0 q0 hi
  · have e:clsQ s p perl none = .wrong 1 p p:=by unfold clsQ clsP;rw [if_pos hn]
    rw [e]
    exact cls_closed s p f w hp perl hP (Bool.eq_false_iff.2 hn)
end Go.Proofs.YtnhnldmldnhaoaaGreatDoor
namespace Go.Proofs.YtnhnldmldnhaoaaGreatDoor
open Go Go.RowKit Go.Proofs
structure FoldAt (W0 W:World) (g:Int→Bool) (v:Value) (P M:List Int):Prop where
  b:Below W0.heap.size W0 W
  o:W.ownsRow W0.heap.size 61 2 v (dupR M).length (flatR (dupR M))
  p:Gath g P M
  l:M.length≤3 * P.length
structure FoldIn (W0 W:World) (g:Int→Bool) (bs:Nat) (s:Int × Int × Int) (v:Value) (P M:List Int):Prop where
  a:FoldAt W0 W g v P M
  k:Blk W bs [.int .i32 s.1,.int .i32 s.2.1,.int .i32 s.2.2] 119
  n:v.ownBlock≠some bs
structure FoldOrb (W0 W:World) (bs:Nat) (s:Int × Int × Int) (v:Value) (M:List Int) (ov:Value) (os:List Int):Prop where
  b:Below W0.heap.size W0 W
  o:W.ownsRow W0.heap.size 61 2 v (dupR M).length (flatR (dupR M))
  k:Blk W bs [.int .i32 s.1,.int .i32 s.2.1,.int .i32 s.2.2] 119
  n:v.ownBlock≠some bs
  r:OwnR W W0.heap.size ov os
  d:∀ k,ov.ownBlock=some k→v.ownBlock≠some k
theorem tables_Fold (rs:List (Int × Int)) (sa:Option Addr) (sc B:Nat) (w:World) (h:RangesV w B rs sa rs.length sc) (hB:B≤w.heap.size) (hN:rs.length≤100000000) :
    Calls Tryz.prog 104 #[.slice sa rs.length sc] w (SetOf w (foldF (memR rs)) 100000000000):=by
  obtain ⟨i0,hi,hz0,hz1,hz2⟩:=info_parts infoRange
  have HN:=hid (sets_Norm rs sa rs.length sc B w h hB (by omega))
  clear h hB
  go_enter Tryz.func104, Tryz.ntmps104
  go_wp2_with fail
  refine (HN.out).mono ?_
  rintro e w1 ⟨v1,out,rfl,hL,hs1,hm1,hn1,hB1⟩
  obtain ⟨oa,oc,rfl,hr1,_⟩:=Laid.ranges hL (by omega)
  have R1:=hid hr1;have B1:=hid hB1;have IS:=hid (show IsSet out (memR rs) from ⟨hs1,hm1⟩)
  clear hL hs1 hm1 hn1 hB1 hr1
  go_wp2_with fail
  refine (stretches_any _).mono ?_
  rintro e w2 ⟨rfl,rfl⟩
  go_wp2_with fail
  have S2:=hid (show Blk (w1.alloc (.cells (strC stretchL).toArray 119)) w1.heap.size (strC stretchL) 119 from Blk.new _ _ _)
  have R2:=hid (show RangesV (w1.alloc (.cells (strC stretchL).toArray 119)) w1.heap.size out oa out.length oc from R1.out.below ((Below.refl _ _).alloc (Nat.le_refl _) _))
  have B2:=hid (show Below w.heap.size w (w1.alloc (.cells (strC stretchL).toArray 119)) from B1.out.alloc B1.out.size _)
  have hz2:w1.heap.size < (w1.alloc (.cells (strC stretchL).toArray 119)).heap.size:=by simp
  generalize w1.alloc (.cells (strC stretchL).toArray 119)=W0 at S2 R2 B2 hz2 ⊢
  generalize w1.heap.size=sh at S2 R2 hz2 ⊢
  have HZ2:=hid hz2;clear hz2
  go_loopw [4,16] (fun mv jv W=>∃ (j:Nat) (M:List Int),j≤13∧jv = .int .i64 j∧FoldAt W0 W (hasB out) mv (lettersJ j) M) (fun _ jv _=>13 - (intOf jv).toNat)
  case atStart=>exact ⟨0,[],by omega,rfl,Below.refl _ _,World.ownsRow_nil _ _ _ _,Gath.nil _,by simp⟩
  case round=>
    obtain ⟨j,M,hj,rfl,hA⟩:=hrel
    have A3:=hid hA;clear hA
    have hsl:stretchL.length=13:=rfl
    by_cases hj13:j < 13
    case neg=>
      obtain rfl:j=13:=by omega
      have hml:(dupR M).length≤1000:=by have:=A3.out.l;have:=lettersJ_le 13 (by omega);unfold dupR;rw [List.length_map];omega
      obtain ⟨ua,uc,rfl,hrm,_⟩:=Laid.ranges (w:=W0) (w':=wr) (out:=dupR M) A3.out.o (by omega)
      have hro:=(R2.out.below (A3.out.b.mono (by have:=HZ2.out;omega)))
      have HU:=hid (sets_Union out (dupR M) oa ua out.length oc (dupR M).length uc wr.heap.size wr ⟨hro.1,hro.2.1,hro.2.2.imp id (fun ⟨b,o,e,hlt,hat⟩=>⟨b,o,e,by have:=HZ2.out;have:=A3.out.b.size;omega,hat⟩)⟩ hrm (Nat.le_refl _) (by have:=IS.out.len;omega))
      have HO:=hid (show (dupR M).length≤1000 from hml)
      clear hml hrm hro
      go_wp2_with fail
      refine (HU.out).mono ?_
      rintro e w5 ⟨v5,out5,rfl,hL5,hs5,hm5,hn5,hB5⟩
      obtain ⟨xa,xc,rfl,_,_⟩:=Laid.ranges hL5 (by have:=IS.out.len;have:=HO.out;omega)
      have L5:=hid hL5;have S5:=hid hs5;have M5:=hid hm5;have N5:=hid hn5;have B5:=hid hB5
      clear hL5 hs5 hm5 hn5 hB5
      go_wp2_with fail
      go_ret
      have hz:=A3.out.b.size
      have hzz:=B2.out.size
      refine ⟨_,out5,rfl,Joins.ownsRow_le L5.out (by omega),S5.out,?_,by have:=N5.out;have:=IS.out.len;have:=HO.out;omega,B2.out.trans ((A3.out.b.mono hzz).trans (B5.out.mono (by omega)))⟩
      intro c
      rw [M5.out c]
      by_cases hc:0≤c∧c≤1114111
      · have hg:=gath_fold (show Gath (hasB out) lettersL M from A3.out.p) c
        have h1:hasB out c=memR out c:=by unfold hasB;rw [decide_eq_true hc.1,decide_eq_true hc.2];rfl
        have h2:foldF (hasB out) c=foldF (memR rs) c:=by
          unfold foldF
          have hgood:=orb_good hc.1 hc.2
          have key:∀ l:List Int,(∀ y ∈ l,0≤y∧y≤1114111)→l.any (hasB out)=l.any (memR rs):=by
            intro l
            induction l with
            | nil=>intro _;rfl
            | cons y l ih=>
              intro hl
              have hy:=hl y List.mem_cons_self
              rw [List.any_cons,List.any_cons,ih fun z hz=>hl z (List.mem_cons_of_mem _ hz)]
              congr 1
              unfold hasB
              rw [IS.out.2,decide_eq_true hy.1,decide_eq_true hy.2];rfl
          exact key _ fun y hy=>hgood.2.2.1 y (hgood.2.2.2.mem_iff.2 hy)
        rw [← h1,memR_dup,hg,h2]
      · have:(decide (0≤c) && decide (c≤1114111))=false:=by
          rw [Bool.and_eq_false_iff,decide_eq_false_iff_not,decide_eq_false_iff_not];omega
        rw [this];rfl
    case pos=>
      have hjl:j < stretchL.length:=by rw [hsl];exact hj13
      obtain ⟨s,hs,hq⟩:∃ s,stretchL[j]? = some s∧(strC stretchL)[j * 3]? = some (.int .i32 s.1)∧(strC stretchL)[j * 3+1]? = some (.int .i32 s.2.1)∧(strC stretchL)[j * 3+2]? = some (.int .i32 s.2.2):=⟨_,List.getElem?_eq_getElem hjl,strC_get stretchL j hjl⟩
      have hbd:=stretch_bounds s (List.mem_of_getElem? hs)
      have hbm:=stretch_more s (List.mem_of_getElem? hs)
      have hJ:=lettersJ_succ j s hs
      have S3:=Blk.below S2.out A3.out.b HZ2.out
      obtain ⟨lo,hi2,up⟩:=s
      have q0:=Blk.cell S3 (j:=j * 3) hq.1
      have q1:=Blk.cell S3 (j:=j * 3+1) hq.2.1
      have q2:=Blk.cell S3 (j:=j * 3+2) hq.2.2
      have I3:=hid (show FoldIn W0 (wr.alloc (.cells #[.int .i32 lo,.int .i32 hi2,.int .i32 up] 119)) (hasB out) wr.heap.size (lo,hi2,up) u4 (lettersJ j) M from ⟨⟨A3.out.b.alloc A3.out.b.size _,World.ownsRow.alloc A3.out.o _,A3.out.p,A3.out.l⟩,Blk.new wr [.int .i32 lo,.int .i32 hi2,.int .i32 up] 119,fun e=>by have:=(A3.out.o.lt _ e).2;omega⟩)
      have HJ:=hid hJ;have HS:=hid hs
      clear hjl hs hq S3 hJ
      obtain ⟨n,hn⟩:∃ n:Nat,(n:Int)=hi2 - lo+1:=⟨(hi2 - lo+1).toNat,by simp only at hbm;omega⟩
      have hn40:n≤41:=by have:=hbm.2.1;simp only at this;omega
      have b1:=hbd.1;have b2:=hbd.2.1;have b3:=hbd.2.2.1;have b4:=hbd.2.2.2.1;have b5:=hbd.2.2.2.2.1;have b6:=hbd.2.2.2.2.2
      have m1:=hbm.1;have m3:=hbm.2.2.1;have m4:=hbm.2.2.2
      simp only at b1 b2 b3 b4 b5 b6 m1 m3 m4
      have HN2:=hid hn
      clear hbd hbm hn
      have hzb:=A3.out.b.size
      go_wp2_with fail
      rw [← HN2.out]
      generalize wr.alloc (.cells #[.int .i32 lo,.int .i32 hi2,.int .i32 up] 119)=W3 at I3 ⊢
      generalize wr.heap.size=bs at I3 hzb ⊢
      clear q0 q1 q2
      clear A3
      go_loopw [4,27] (fun mv kv W=>∃ (k:Nat) (M:List Int),k≤n∧kv = .int .i64 k∧FoldIn W0 W (hasB out) bs (lo,hi2,up) mv (lettersJ j ++ lettersS (lo,hi2,up) k) M) (fun _ kv _=>n - (intOf kv).toNat)
      case atStart=>exact ⟨0,M,Nat.zero_le _,rfl,by rw [show lettersS (lo,hi2,up) 0=[] from rfl,List.append_nil];exact I3.out⟩
      case round=>
        obtain ⟨k,M4,hk,rfl,hI4⟩:=hrel
        have I4:=hid hI4;clear hI4
        by_cases hkn:k < n
        case neg=>
          obtain rfl:k=n:=by omega
          go_wp2_with fail
          go_roundw
          case rel=>
            refine ⟨j+1,M4,by omega,by go_num,?_⟩
            have:=I4.out.a
            rw [HJ.out]
            have e:(((lo,hi2,up):Int × Int × Int).2.1 - ((lo,hi2,up):Int × Int × Int).1+1).toNat=k:=by have:=HN2.out;simp only;omega
            rw [e]
            exact this
          case measure=>simp [intOf];omega
        case pos=>
          have hk1:(k:Int) < (n:Int):=by omega
          have hkw:IntKind.i32.wrap (k:Int)=(k:Int):=IntWalk.i32_in _ (by omega)
          have hn5:=HN2.out
          have hin:lo+(k:Int)≤hi2:=by omega
          have b0:=Blk.cell I4.out.k (j:=0) rfl;have b22:=Blk.cell I4.out.k (j:=2) rfl
          clear hn5
          go_wp2_with fail
          generalize hc2:lo+(k:Int)+up=c2
          generalize hc1:lo+(k:Int)=c1
          have HC1:=hid hc1;have HC2:=hid hc2
          obtain ⟨P,hP⟩:∃ P,P=lettersJ j ++ lettersS (lo,hi2,up) k:=⟨_,rfl⟩
          have hPl:P.length≤400:=by
            rw [hP,List.length_append,lettersS_len]
            have:=lettersJ_le j (by omega)
            omega
          rw [← hP] at I4
          have HP:=hid hP;have HPL:=hid hPl;have I5:=I4
          clear hc1 hc2 hP hPl b0 b22 hkw hk1 hin I4
          go_loopw [4,44] (fun mv dv W=>∃ (d:Nat) (M:List Int),d≤2∧dv = .int .i64 d∧FoldIn W0 W (hasB out) bs (lo,hi2,up) mv (P ++ [c1,c2].take d) M) (fun _ dv _=>2 - (intOf dv).toNat)
          case atStart=>exact ⟨0,M4,by omega,rfl,by rw [show [c1,c2].take 0=[] from rfl,List.append_nil];exact I5.out⟩
          case round=>
            obtain ⟨d,M6,hd,rfl,hI6⟩:=hrel
            have I6:=hid hI6;clear hI6
            by_cases hd2:d < 2
            case neg=>
              obtain rfl:d=2:=by omega
              go_wp2_with fail
              go_roundw
              case rel=>
                refine ⟨k+1,M6,by omega,by go_num,?_⟩
                have:=I6.out
                rw [lettersS_succ,← List.append_assoc,← List.append_assoc,← HP.out]
                simp only
                rw [HC2.out,HC1.out,List.append_assoc]
                exact this
              case measure=>simp [intOf];omega
            case pos=>
              obtain ⟨c,hidx,htake⟩:∃ c:Int,(∀ w,(Instr.index 196 (.agg #[.int .i32 c1,.int .i32 c2]) (.int .i64 d)).run Tryz.prog w = .ok (.int .i32 c) w)∧[c1,c2].take (d+1)=[c1,c2].take d ++ [c]:=by
                rcases (show d=0∨d=1 by omega) with rfl | rfl
                · exact ⟨c1,fun _=>by kernel_rfl,rfl⟩
                · exact ⟨c2,fun _=>by kernel_rfl,rfl⟩
              have HTK:=hid htake;clear htake
              have hro:=hid (R2.out.below (I6.out.a.b.mono (by have:=HZ2.out;omega)))
              cases hh:hasB out c with
              | false=>
                have HH:=hid hh;clear hh
                go_wp2_with fail
                refine (sets_Has out oa oc sh c wr hro.out (by have:=HZ2.out;have:=I6.out.a.b.size;omega)).mono ?_
                rintro e w7 ⟨rfl,hB7⟩
                rw [HH.out]
                have I7:=hid (show FoldIn W0 w7 (hasB out) bs (lo,hi2,up) u4 (P ++ [c1,c2].take (d+1)) M6 from ⟨⟨I6.out.a.b.trans (hB7.mono I6.out.a.b.size),I6.out.a.o.kept (grownBy_below hB7 none) (by cases u4.ownBlock <;> simp),by rw [HTK.out,← List.append_assoc];exact I6.out.a.p.skip HH.out,by have:=I6.out.a.l;rw [HTK.out];simp only [List.length_append,List.length_cons,List.length_nil] at this ⊢;omega⟩,Blk.below I6.out.k hB7 I6.out.k.lt,I6.out.n⟩)
                clear hB7
                go_wp2_with fail
                go_roundw
                case rel=>exact ⟨d+1,M6,by omega,by go_num,I7.out⟩
                case measure=>simp [intOf];omega
              | true=>
                have HH:=hid hh;clear hh
                go_wp2_with fail
                refine (sets_Has out oa oc sh c wr hro.out (by have:=HZ2.out;have:=I6.out.a.b.size;omega)).mono ?_
                rintro e w7 ⟨rfl,hB7⟩
                rw [HH.out]
                have I7:=hid (show FoldIn W0 w7 (hasB out) bs (lo,hi2,up) u4 (P ++ [c1,c2].take d) M6 from ⟨⟨I6.out.a.b.trans (hB7.mono I6.out.a.b.size),I6.out.a.o.kept (grownBy_below hB7 none) (by cases u4.ownBlock <;> simp),I6.out.a.p,I6.out.a.l⟩,Blk.below I6.out.k hB7 I6.out.k.lt,I6.out.n⟩)
                have hcr:0≤c∧c≤1114111:=by
                  have:=HH.out
                  unfold hasB at this
                  simp only [Bool.and_eq_true,decide_eq_true_eq] at this
                  exact this.1
                have HCR:=hid hcr
                clear hB7 hcr
                go_wp2_with fail
                refine (tables_Orbit c w7 HCR.out.1 HCR.out.2).mono ?_
                rintro e w8 ⟨ov,os,rfl,hperm,hown,hB8⟩
                have hpos:0 < os.length:=by rw [hperm.length_eq];exact List.length_pos_of_mem (orb_self c)
                have hol:os.length≤3:=by rw [hperm.length_eq,← (orb_good HCR.out.1 HCR.out.2).2.2.2.length_eq];exact (orb_good HCR.out.1 HCR.out.2).2.1
                obtain ⟨og,ocap,rfl,hogB,_⟩:=World.ownsRow.form hown hpos
                have hz7:=I7.out.a.b.size
                have O8:=hid (show FoldOrb W0 w8 bs (lo,hi2,up) u4 (M6 ++ os.take 0) (.slice (some ⟨og,0,none⟩) os.length ocap) os from ⟨I7.out.a.b.trans (hB8.mono hz7),by rw [List.take_zero,List.append_nil];exact I7.out.a.o.kept (grownBy_below hB8 none) (by cases u4.ownBlock <;> simp),Blk.below I7.out.k hB8 I7.out.k.lt,I7.out.n,Joins.ownsRow_le hown hz7,fun k' hk' e=>by
                  have e2:og=k':=Option.some.inj hk'
                  have:=(I7.out.a.o.lt k' e).2
                  omega⟩)
                have HPM:=hid hperm;have HOL:=hid hol
                clear hperm hown hB8 hogB hz7
                go_wp2_with fail
                go_loopw [4,54] (fun mv qv W=>∃ q:Nat,q≤os.length∧qv = .int .i64 q∧FoldOrb W0 W bs (lo,hi2,up) mv (M6 ++ os.take q) (.slice (some ⟨og,0,none⟩) os.length ocap) os) (fun _ qv _=>os.length - (intOf qv).toNat)
                case atStart=>exact ⟨0,Nat.zero_le _,rfl,O8.out⟩
                case round=>
                  obtain ⟨q,hq,rfl,hO9⟩:=hrel
                  have O9:=hid hO9;clear hO9
                  by_cases hqo:q < os.length
                  case neg=>
                    obtain rfl:q=os.length:=by omega
                    have I9:=hid (show FoldIn W0 wr (hasB out) bs (lo,hi2,up) u4 (P ++ [c1,c2].take (d+1)) (M6 ++ os) from ⟨⟨O9.out.b,by have:=O9.out.o;rw [List.take_length] at this;exact this,by rw [HTK.out,← List.append_assoc];exact I7.out.a.p.take HH.out HPM.out,by have:=I7.out.a.l;have:=HOL.out;rw [HTK.out];simp only [List.length_append,List.length_cons,List.length_nil] at *;omega⟩,O9.out.k,O9.out.n⟩)
                    go_wp2_with fail
                    go_roundw
                    case rel=>exact ⟨d+1,_,by omega,by go_num,I9.out⟩
                    case measure=>simp [intOf];omega
                  case pos=>
                    have gq:=O9.out.r.cellAt q (by omega)
                    rw [vR_get os q hqo] at gq
                    obtain ⟨x,hx⟩:∃ x,os[q]=x:=⟨_,rfl⟩
                    rw [hx] at gq
                    have hqi:(q:Int) < (os.length:Int):=by omega
                    have HX:=hid hx;clear hx
                    have hml:(dupR (M6 ++ os.take q)).length≤2000:=by
                      have:=I7.out.a.l;have:=HPL.out;have:=HOL.out
                      have h2:([c1,c2].take d).length≤2:=by rw [List.length_take];simp;omega
                      unfold dupR
                      simp only [List.length_map,List.length_append,List.length_take] at *
                      omega
                    have hzr:=O9.out.b.size
                    go_wp2_with (at_builtin;refine wpList_append_own_at _ rfl _ _ 26 rfl W0.heap.size 61 i0 (.agg #[.int .i32 0,.int .i32 0]) 2 8 Tryz.underlying26 hi hz0 hz1 hz2 rfl (by decide) u4 (dupR (M6 ++ os.take q)).length (flatR (dupR (M6 ++ os.take q))) rfl (O9.out.o.alloc (.cells #[.int .i32 x,.int .i32 x] 61)) ⟨wr.heap.size,0,none⟩ 1 1 [.int .i32 x,.int .i32 x] rfl rfl (cell_two_new _ _ _ _) (by intro u hu;simp only [List.mem_cons,List.not_mem_nil,or_false,or_self] at hu;subst hu;rfl) (by unfold maxLen;omega) (by omega) (by simp;omega) ?_;intro v' w10 hown hgrow hiff)
                    intro hat
                    clear hiff
                    obtain ⟨g2,cap2,rfl,hgb,hgl⟩:=World.ownsRow.form hown (Nat.succ_pos _)
                    have htq:os.take (q+1)=os.take q ++ [x]:=by rw [List.take_succ_eq_append_getElem hqo,HX.out]
                    have hdup:dupR (M6 ++ os.take (q+1))=dupR (M6 ++ os.take q) ++ [(x,x)]:=by rw [htq,← List.append_assoc];simp [dupR]
                    have hgn:∀ k',u4.ownBlock≠some k'→k'≤wr.heap.size→g2≠k':=by
                      intro k' h1 h2 e
                      rcases hat with h3 | h3
                      · exact h1 (by rw [← h3,e];rfl)
                      · have h4:g2=wr.heap.size+1:=Option.some.inj h3
                        omega
                    have F10:=hid (show FoldOrb W0 w10 bs (lo,hi2,up) (.slice (some ⟨g2,0,none⟩) ((dupR (M6 ++ os.take q)).length+1) cap2) (M6 ++ os.take (q+1)) (.slice (some ⟨og,0,none⟩) os.length ocap) os from ⟨below_next (O9.out.b.alloc hzr _) (Nat.le_refl _) hgrow (fun k' e=>(O9.out.o.lt k' e).1),by
                      rw [hdup,List.length_append,show flatR (dupR (M6 ++ os.take q) ++ [(x,x)])=flatR (dupR (M6 ++ os.take q)) ++ [.int .i32 x,.int .i32 x] by simp [flatR]]
                      exact hown,(O9.out.k.alloc _).grown hgrow (fun e=>O9.out.n e.symm),(fun e=>hgn bs O9.out.n (by have:=O9.out.k.lt;omega) (Option.some.inj e)),World.ownsRow.kept (World.ownsRow.alloc O9.out.r _) hgrow (.inr fun e=>O9.out.d og rfl e.symm),fun k' hk' e=>by
                        have e2:og=k':=Option.some.inj hk'
                        subst e2
                        exact hgn og (O9.out.d og rfl) (by have:=(O9.out.r.lt og rfl).2;omega) (Option.some.inj e)⟩)
                    clear hown hgrow hat hgb hgl hgn hdup htq gq
                    go_wp2_with fail
                    go_roundw
                    case rel=>exact ⟨q+1,hqo,by go_num,F10.out⟩
                    case measure=>simp [intOf];omega
end Go.Proofs.YtnhnldmldnhaoaaGreatDoor
