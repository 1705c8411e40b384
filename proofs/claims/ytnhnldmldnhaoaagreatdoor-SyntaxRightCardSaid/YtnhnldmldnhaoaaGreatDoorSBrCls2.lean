/- brackets.Class: its items. -/
import Derived.Test.YtnhnldmldnhaoaaGreatDoorSBrNamed2
import Derived.Deep.RegionHeldLaw
import Derived.Deep.RegionHeld3
set_option maxRecDepth 100000
set_option maxHeartbeats 16000000
open Go.Lib (hid)
namespace Go.Proofs.YtnhnldmldnhaoaaGreatDoor
open Go Go.RowKit Go.Proofs Go.Shelf
structure ClsMid (w:World) (s:ByteArray) (p:Nat) (perl:Bool) (R:ItemR) (n:Nat) (v:Value) (W:World) (q:Nat) (g:Int→Bool) (out:List (Int × Int)):Prop where
  a:ClsAt w W s q p perl
  v:AllV W (w.heap.size+1+1+1+1) v out
  m:∀ c,0≤c→c≤1114111→memR out c=g c
  l:out.length≤1000 * q
  iq:q≤s.size
  i:s.size+1 - q≤n
  r:restP s perl p n q g=R
theorem cls_done {w W:World} (v:Value) (q:Nat) (out:List (Int × Int)) (g:Int→Bool) (tmps:Array Value) (h6:Blk W w.heap.size [v] 26) (h7:Blk W (w.heap.size+1) [.int .i64 q] 3) (h8:Blk W (w.heap.size+1+1) [.int .i64 0,.int .i64 0,.int .i64 0] 32)
    (hr:∀ W',W'.cell? ⟨w.heap.size,0,none⟩=some v→W'.cell? ⟨w.heap.size+1,0,none⟩=some (.int .i64 q)→W'.cell? ⟨w.heap.size+1+1,0,none⟩=some (.int .i64 0)→W'.cell? ⟨w.heap.size+1+1,1,none⟩=some (.int .i64 0)→W'.cell? ⟨w.heap.size+1+1,2,none⟩=some (.int .i64 0)→
      (results Tryz.f79 tmps).run Tryz.prog W' = .ok (.tuple #[v,.int .i64 q,.agg #[.int .i64 0,.int .i64 0,.int .i64 0]]) W')
    (hL:Laid w W out v) (hI:IsSet out g) (hB:Below w.heap.size w W) :
    Leaves Tryz.prog Tryz.f79 tmps (ClsOut w (.ok g q)) [{ target:=.fn (.func 107) #[.pointer (some ⟨w.heap.size,0,none⟩),.pointer (some ⟨w.heap.size+1,0,none⟩),.pointer (some ⟨w.heap.size+1+1,0,none⟩)],args:=#[] }] .returning W:=by
  refine leaves_cons (by simp) (f:=107) (args:=#[.pointer (some ⟨w.heap.size,0,none⟩),.pointer (some ⟨w.heap.size+1,0,none⟩),.pointer (some ⟨w.heap.size+1+1,0,none⟩)]) (by simp [go_sem]) ?_
  refine (class_idle _ _ _ W).mono ?_
  rintro e u w' ⟨rfl,rfl,rfl⟩
  exact ⟨_,hr _ (Blk.cell h6 rfl) (Blk.cell h7 rfl) (Blk.cell h8 rfl) (Blk.cell h8 rfl) (Blk.cell h8 rfl),hB,v,out,rfl,hL,hI⟩
structure ClsAtV (w W:World) (s:ByteArray) (q:Nat) (p:Nat) (perl:Bool) (v:Value):Prop where
  k6:Blk W w.heap.size [v] 26
  k7:Blk W (w.heap.size+1) [.int .i64 0] 3
  k8:Blk W (w.heap.size+1+1) [.int .i64 0,.int .i64 0,.int .i64 0] 32
  rd:BrR W (w.heap.size+1+1+1) s q p perl
  bl:Below w.heap.size w W
def PanQ (w:World) (x a b:Int):Exit→Act→World→Prop
  | .panic chain,f,W=>chain=[{ v:=.iface 32 (wrongV x a b),recovered:=false }]∧f.defers=[{ target:=.fn (.func 107) #[.pointer (some ⟨w.heap.size,0,none⟩),.pointer (some ⟨w.heap.size+1,0,none⟩),.pointer (some ⟨w.heap.size+1+1,0,none⟩)],args:=#[] }]∧
      f.tmps[6]? = some (.pointer (some ⟨w.heap.size,0,none⟩))∧f.tmps[7]? = some (.pointer (some ⟨w.heap.size+1,0,none⟩))∧f.tmps[8]? = some (.pointer (some ⟨w.heap.size+1+1,0,none⟩))∧ClsBlk w W
  | _,_,_=>False
theorem PanQ.put {w W:World} {x a b:Int} {c:List PanicEntry} {f:Act} {k:Nat} {v:Value} (hk:9≤k) (h:PanQ w x a b (.panic c) (f.put (some k) v) W):PanQ w x a b (.panic c) f W:=by
  obtain ⟨h1,h2,h3,h4,h5,h6⟩:=h
  simp only [Act.put] at h2 h3 h4 h5
  rw [Array.getElem?_setIfInBounds_ne (by omega)] at h3 h4 h5
  exact ⟨h1,h2,h3,h4,h5,h6⟩
theorem PanQ.door {w W:World} {x a b:Int} {c:List PanicEntry} {f:Act} (h:PanQ w x a b (.panic c) f W):bodyPostD Tryz.prog Tryz.f79 (ClsOut w (.wrong x a b)) (.panic c) f W:=by
  obtain ⟨rfl,h2,h3,h4,h5,h6⟩:=h
  show Leaves _ _ _ _ f.defers _ _
  rw [h2]
  exact cls_caught h6 x a b _ (fun W' c6 c7 c80 c81 c82=>by simp [results,Tryz.results79,go_sem,c6,c7,c80,c81,c82,h3,h4,h5,Array.getD_eq_getD_getElem?])
theorem cls_items (s:ByteArray) (p:Nat) (f:Int) (w:World) (hp:p≤s.size) (hs:s.size≤100000000) (hT:Tabs w) (perl:Bool) (hP:(bits BinOp.and IntKind.i64 f 32 != 0)=perl) (hf:(bits BinOp.and IntKind.i64 f 1 != 0)=false) (hn:stands s p [91]=true) (f0:Int→Bool) (q0:Nat) (hi:itemP s (clsAt s p) perl p = .ok f0 q0) :
    Calls Tryz.prog 79 #[.string s,.int .i64 p,.int .i64 f] w (ClsOut w (clsQ s p perl none)):=by
  have HA:=hid (ClsAt.start w s p perl)
  have HT:=hid hT
  have HI:=hid hi
  have l1:p+1≤s.size:=stands_le (p:=⟨#[91]⟩) hp hn
  have l2:=clsAt_le hp hn
  have hlt:=hT.lt
  have hq0:=itemP_q l2.1 hi
  clear hT hi
  go_enter_defers Tryz.func79, Tryz.ntmps79
  go_wp2_with fail
  refine (br_has_yes (w.heap.size+1+1+1) s ⟨#[91]⟩ p _ _ _ HA.out.rd hp (by omega) hn).mono ?_
  rintro e w1 ⟨rfl,hR,hG⟩
  have A1:=hid (HA.out.grown hG hR);clear hR hG
  go_wp2_with fail
  refine (br_not (w.heap.size+1+1+1) s p _ _ _ A1.out.rd l1 (by omega)).mono ?_
  rintro e w2 ⟨rfl,hR,hG⟩
  have A2:=hid (A1.out.grown hG hR);clear hR hG
  have T2:=hid (HT.out.below A2.out.bl)
  go_wp2_with fail
  refine (item_any (w.heap.size+1+1+1) s (clsAt s p) p perl _ A2.out.rd T2.out (by omega) (by omega) l2.1 (by omega)).mono ?_
  rw [HI.out]
  rintro e w3 ⟨hG,v,out,rfl,hL,hM,hN,hR⟩
  have A3:=hid (A2.out.grown hG hR);clear hR hG
  have V3:=hid ((AllV.of_own hL).mono (show w.heap.size+1+1+1+1≤w2.heap.size by have:=A2.out.rd.lt;omega))
  have M3:=hid hM
  have hN3:out.length≤1000 * q0:=by omega
  obtain ⟨sa,sc,rfl,_,_⟩:=Laid.ranges hL (by omega)
  clear hL hM hN
  obtain ⟨R,hR⟩:∃ R,R=restP s perl p (s.size+1) q0 f0:=⟨_,rfl⟩
  have HR:=hid hR;clear hR
  go_wp2_with fail
  go_loopg [11] (s.size+1) (fun n v W=>∃ (q:Nat) (g:Int→Bool) (out:List (Int × Int)),ClsMid w s p perl R n v W q g out)
  case atStart=>exact ⟨q0,f0,out,A3.out,V3.out,M3.out,hN3,hq0.2,by omega,HR.out.symm⟩
  case round=>
    obtain ⟨q,g,out4,H⟩:=hrel
    obtain ⟨m,rfl⟩:∃ m,gk=m+1:=⟨gk - 1,by have:=H.i;have:=H.iq;omega⟩
    obtain ⟨sa4,sc4,rfl,hc4,hv4⟩:=H.v
    have hq4:=H.iq
    have HH:=hid H;clear H
    by_cases h93:stands s q [93]=true
    · go_wp2_with fail
      refine (br_has_yes (w.heap.size+1+1+1) s ⟨#[93]⟩ q _ _ _ HH.out.a.rd hq4 (by omega) h93).mono ?_
      rintro e w5 ⟨rfl,hR,hG⟩
      have A5:=hid (HH.out.a.grown hG hR)
      have V5:=HH.out.v.grown hG (by omega)
      have hl5:=HH.out.l
      obtain ⟨sa5,sc5,e5,hr5⟩:=V5.ranges (by omega)
      cases e5
      have HN:=hid (sets_Norm out4 sa4 out4.length sc4 w5.heap.size w5 hr5 (Nat.le_refl _) (by omega))
      clear hR hG V5 hr5 hv4
      go_wp2_with fail
      refine (HN.out).mono ?_
      rintro e w6 ⟨v6,out6,rfl,hL,hs6,hm6,hn6,hB⟩
      obtain ⟨sa6,sc6,rfl,_,_⟩:=Laid.ranges hL (by omega)
      have A6:=hid (A5.out.grown (grownBy_below hB _) (Rd.below A5.out.rd hB A5.out.rd.lt))
      have I6:=hid (show IsSet out6 g from (show IsSet out6 (memR out4) from ⟨hs6,hm6⟩).congr HH.out.m)
      have L6:=hid (show w6.ownsRow (w.heap.size+1+1+1+1) 61 2 (.slice sa6 out6.length sc6) out6.length (flatR out6) from Joins.ownsRow_le hL (by have:=A5.out.rd.lt;omega))
      have N6:=hid hn6
      clear hL hs6 hm6 hn6 hB
      have HQ:=hid (show clsQ s p perl none = .ok (fun c=>g c != stands s (p+1) [94]) (q+1) by
        have h1:=HH.out.r
        unfold restP at h1
        rw [if_pos h93] at h1
        unfold clsQ clsP
        rw [hn,HI.out]
        simp only [not_true,if_false]
        rw [← HR.out,← h1])
      obtain ⟨c6,c7,c80,c81,c82,f6,f7,f80,f81,f82⟩:=A6.out.cells
      by_cases hnt:stands s (p+1) [94]=true
      · go_wp2_with fail
        have hr6:RangesV (w6.setCell ⟨w.heap.size,0,none⟩ (.slice sa6 out6.length sc6)) (w6.setCell ⟨w.heap.size,0,none⟩ (.slice sa6 out6.length sc6)).heap.size out6 sa6 out6.length sc6:=by
          have L:=ownsRow_setCell_below (a:=⟨w.heap.size,0,none⟩) L6.out (by simp;omega) (.slice sa6 out6.length sc6)
          obtain ⟨sa,sc,e,h⟩:=(AllV.of_own L).ranges (by have:=I6.out.len;omega)
          cases e
          exact h
        have HNot:=hid (sets_Not out6 sa6 out6.length sc6 _ _ hr6 (Nat.le_refl _) (by have:=I6.out.len;omega))
        have A6':=hid (show Blk (w6.setCell ⟨w.heap.size,0,none⟩ (.slice sa6 out6.length sc6)) w.heap.size [.slice sa6 out6.length sc6] 26 from A6.out.k6.set 0 _)
        clear hr6
        go_wp2_with fail
        refine (HNot.out).mono ?_
        rintro e w7 ⟨v7,out7,rfl,hL,hs7,hm7,hn7,hB⟩
        obtain ⟨sa7,sc7,rfl,_,_⟩:=Laid.ranges hL (by have:=I6.out.len;omega)
        have hz6:(w6.setCell ⟨w.heap.size,0,none⟩ (.slice sa6 out6.length sc6)).heap.size=w6.heap.size:=by simp [World.setCell]
        have hlt6:=A6.out.rd.lt
        have A7:=hid (show ClsAtV w w7 s (q+1) p perl (.slice sa6 out6.length sc6) from ⟨Blk.below A6'.out hB (by rw [hz6];omega),Blk.below (A6.out.k7.setCell_other (a:=⟨w.heap.size,0,none⟩) (by simp) _) hB (by rw [hz6];omega),Blk.below (A6.out.k8.setCell_other (a:=⟨w.heap.size,0,none⟩) (by simp;omega) _) hB (by rw [hz6];omega),Rd.below (A6.out.rd.setCell_other (a:=⟨w.heap.size,0,none⟩) (by simp;omega) _) hB (by rw [hz6];omega),(A6.out.bl.setCell (by simp) _).trans (hB.mono (by rw [hz6];omega))⟩)
        have I7:=hid (show IsSet out7 (fun c=>g c != true) from (show IsSet out7 (fun c=>!memR out6 c) from ⟨hs7,hm7⟩).congr fun c h0 h1=>by show (!memR out6 c)=(g c != true);rw [I6.out.2];simp [h0,h1])
        have L7:=hid (show w7.ownsRow (w.heap.size+1+1+1+1) 61 2 (.slice sa7 out7.length sc7) out7.length (flatR out7) from Joins.ownsRow_le hL (by rw [hz6];omega))
        clear hL hs7 hm7 hn7 hB hz6 hlt6 c6 c7 c80 c81 c82 f6 f7 f80 f81 f82
        have c6:=Blk.cell A7.out.k6 (j:=0) rfl;have f6:=A7.out.k6.frozen 0
        have c7:=True.intro;have c80:=True.intro;have c81:=True.intro;have c82:=True.intro;have f7:=True.intro;have f80:=True.intro;have f81:=True.intro;have f82:=True.intro
        go_wp2_with fail
        obtain ⟨W8,hW8⟩:∃ W8,W8=w7.setCell ⟨w.heap.size,0,none⟩ (.slice sa7 out7.length sc7):=⟨_,rfl⟩
        have K6:=hid (show Blk W8 w.heap.size [.slice sa7 out7.length sc7] 26 by rw [hW8];exact A7.out.k6.set 0 _)
        have K7:=hid (show Blk W8 (w.heap.size+1) [.int .i64 0] 3 by rw [hW8];exact A7.out.k7.setCell_other (a:=⟨w.heap.size,0,none⟩) (by simp) _)
        have K8:=hid (show Blk W8 (w.heap.size+1+1) [.int .i64 0,.int .i64 0,.int .i64 0] 32 by rw [hW8];exact A7.out.k8.setCell_other (a:=⟨w.heap.size,0,none⟩) (by simp;omega) _)
        have K9:=hid (show BrR W8 (w.heap.size+1+1+1) s (q+1) p perl by rw [hW8];exact A7.out.rd.setCell_other (a:=⟨w.heap.size,0,none⟩) (by simp;omega) _)
        have KB:=hid (show Below w.heap.size w W8 by rw [hW8];exact A7.out.bl.setCell (by simp) _)
        have KL:=hid (show W8.ownsRow (w.heap.size+1+1+1+1) 61 2 (.slice sa7 out7.length sc7) out7.length (flatR out7) by rw [hW8];exact ownsRow_setCell_below L7.out (by simp;omega) _)
        clear hf
        rw [← hW8]
        clear hW8
        clear c6 c7 c80 c81 c82 f6 f7 f80 f81 f82
        have c6:=Blk.cell K6.out (j:=0) rfl;have c7:=Blk.cell K7.out (j:=0) rfl;have c80:=Blk.cell K8.out (j:=0) rfl;have c81:=Blk.cell K8.out (j:=1) rfl;have c82:=Blk.cell K8.out (j:=2) rfl
        have f6:=K6.out.frozen 0;have f7:=K7.out.frozen 0;have f80:=K8.out.frozen 0;have f81:=K8.out.frozen 1;have f82:=K8.out.frozen 2
        have c9:=Rd.c1 K9.out
        have n67:w.heap.size≠w.heap.size+1:=by omega
        have n68:w.heap.size≠w.heap.size+1+1:=by omega
        have n78:w.heap.size+1≠w.heap.size+1+1:=by omega
        go_region
        all_goals
          have e1:((q:Int)+1)=((q+1:Nat):Int):=by omega
          have Z6:Blk (((((W8.setCell ⟨w.heap.size,0,none⟩ (.slice sa7 out7.length sc7)).setCell ⟨w.heap.size+1,0,none⟩ (.int .i64 ((q:Int)+1))).setCell ⟨w.heap.size+1+1,0,none⟩ (.int .i64 0)).setCell ⟨w.heap.size+1+1,1,none⟩ (.int .i64 0)).setCell ⟨w.heap.size+1+1,2,none⟩ (.int .i64 0)).drew w.heap.size [.slice sa7 out7.length sc7] 26:=Blk.drew <| ((((K6.out.set 0 _).setCell_other (a:=⟨w.heap.size+1,0,none⟩) n67 _).setCell_other (a:=⟨w.heap.size+1+1,0,none⟩) n68 _).setCell_other (a:=⟨w.heap.size+1+1,1,none⟩) n68 _).setCell_other (a:=⟨w.heap.size+1+1,2,none⟩) n68 _
          have Z7:Blk (((((W8.setCell ⟨w.heap.size,0,none⟩ (.slice sa7 out7.length sc7)).setCell ⟨w.heap.size+1,0,none⟩ (.int .i64 ((q:Int)+1))).setCell ⟨w.heap.size+1+1,0,none⟩ (.int .i64 0)).setCell ⟨w.heap.size+1+1,1,none⟩ (.int .i64 0)).setCell ⟨w.heap.size+1+1,2,none⟩ (.int .i64 0)).drew (w.heap.size+1) [.int .i64 ((q+1:Nat):Int)] 3:=by
            rw [← e1]
            exact Blk.drew <| (((((K7.out.setCell_other (a:=⟨w.heap.size,0,none⟩) n67.symm _).set 0 _)).setCell_other (a:=⟨w.heap.size+1+1,0,none⟩) n78 _).setCell_other (a:=⟨w.heap.size+1+1,1,none⟩) n78 _).setCell_other (a:=⟨w.heap.size+1+1,2,none⟩) n78 _
          have Z8:Blk (((((W8.setCell ⟨w.heap.size,0,none⟩ (.slice sa7 out7.length sc7)).setCell ⟨w.heap.size+1,0,none⟩ (.int .i64 ((q:Int)+1))).setCell ⟨w.heap.size+1+1,0,none⟩ (.int .i64 0)).setCell ⟨w.heap.size+1+1,1,none⟩ (.int .i64 0)).setCell ⟨w.heap.size+1+1,2,none⟩ (.int .i64 0)).drew (w.heap.size+1+1) [.int .i64 0,.int .i64 0,.int .i64 0] 32:=Blk.drew <| ((((K8.out.setCell_other (a:=⟨w.heap.size,0,none⟩) n68.symm _).setCell_other (a:=⟨w.heap.size+1,0,none⟩) n78.symm _).set 0 _).set 1 _).set 2 _
          have ZB:Below w.heap.size w (((((W8.setCell ⟨w.heap.size,0,none⟩ (.slice sa7 out7.length sc7)).setCell ⟨w.heap.size+1,0,none⟩ (.int .i64 ((q:Int)+1))).setCell ⟨w.heap.size+1+1,0,none⟩ (.int .i64 0)).setCell ⟨w.heap.size+1+1,1,none⟩ (.int .i64 0)).setCell ⟨w.heap.size+1+1,2,none⟩ (.int .i64 0)).drew:=(((((KB.out.setCell (by simp) _).setCell (by simp) _).setCell (by simp;omega) _).setCell (by simp;omega) _).setCell (by simp;omega) _).drew
          have ZL:(((((W8.setCell ⟨w.heap.size,0,none⟩ (.slice sa7 out7.length sc7)).setCell ⟨w.heap.size+1,0,none⟩ (.int .i64 ((q:Int)+1))).setCell ⟨w.heap.size+1+1,0,none⟩ (.int .i64 0)).setCell ⟨w.heap.size+1+1,1,none⟩ (.int .i64 0)).setCell ⟨w.heap.size+1+1,2,none⟩ (.int .i64 0)).drew.ownsRow (w.heap.size+1+1+1+1) 61 2 (.slice sa7 out7.length sc7) out7.length (flatR out7):=ownsRow_drewR <| ownsRow_setCell_below (ownsRow_setCell_below (ownsRow_setCell_below (ownsRow_setCell_below (ownsRow_setCell_below KL.out (by dsimp only;omega) _) (by dsimp only;omega) _) (by dsimp only;omega) _) (by dsimp only;omega) _) (by dsimp only;omega) _
          have HZ6:=hid Z6;have HZ7:=hid Z7;have HZ8:=hid Z8;have HZB:=hid ZB;have HZL:=hid ZL
          clear Z6 Z7 Z8 ZB ZL e1
          go_wp2_with fail
          rw [HQ.out]
          exact cls_done _ (q+1) out7 _ _ HZ6.out HZ7.out HZ8.out (fun W' c6 c7 c80 c81 c82=>by simp [results,Tryz.results79,go_sem,c6,c7,c80,c81,c82]) (Joins.ownsRow_le HZL.out (by omega)) (I7.out.congr fun c _ _=>by rw [hnt]) HZB.out
      · have hnt':stands s (p+1) [94]=false:=Bool.eq_false_iff.2 hnt
        clear hnt
        go_wp2_with fail
        obtain ⟨W8,hW8⟩:∃ W8,W8=w6.setCell ⟨w.heap.size,0,none⟩ (.slice sa6 out6.length sc6):=⟨_,rfl⟩
        have K6:=hid (show Blk W8 w.heap.size [.slice sa6 out6.length sc6] 26 by rw [hW8];exact A6.out.k6.set 0 _)
        have K7:=hid (show Blk W8 (w.heap.size+1) [.int .i64 0] 3 by rw [hW8];exact A6.out.k7.setCell_other (a:=⟨w.heap.size,0,none⟩) (by simp) _)
        have K8:=hid (show Blk W8 (w.heap.size+1+1) [.int .i64 0,.int .i64 0,.int .i64 0] 32 by rw [hW8];exact A6.out.k8.setCell_other (a:=⟨w.heap.size,0,none⟩) (by simp;omega) _)
        have K9:=hid (show BrR W8 (w.heap.size+1+1+1) s (q+1) p perl by rw [hW8];exact A6.out.rd.setCell_other (a:=⟨w.heap.size,0,none⟩) (by simp;omega) _)
        have KB:=hid (show Below w.heap.size w W8 by rw [hW8];exact A6.out.bl.setCell (by simp) _)
        have KL:=hid (show W8.ownsRow (w.heap.size+1+1+1+1) 61 2 (.slice sa6 out6.length sc6) out6.length (flatR out6) by rw [hW8];exact ownsRow_setCell_below L6.out (by simp;omega) _)
        clear hf
        rw [← hW8]
        clear hW8
        clear c6 c7 c80 c81 c82 f6 f7 f80 f81 f82
        have c6:=Blk.cell K6.out (j:=0) rfl;have c7:=Blk.cell K7.out (j:=0) rfl;have c80:=Blk.cell K8.out (j:=0) rfl;have c81:=Blk.cell K8.out (j:=1) rfl;have c82:=Blk.cell K8.out (j:=2) rfl
        have f6:=K6.out.frozen 0;have f7:=K7.out.frozen 0;have f80:=K8.out.frozen 0;have f81:=K8.out.frozen 1;have f82:=K8.out.frozen 2
        have c9:=Rd.c1 K9.out
        have n67:w.heap.size≠w.heap.size+1:=by omega
        have n68:w.heap.size≠w.heap.size+1+1:=by omega
        have n78:w.heap.size+1≠w.heap.size+1+1:=by omega
        go_region
        all_goals
          have e1:((q:Int)+1)=((q+1:Nat):Int):=by omega
          have Z6:Blk (((((W8.setCell ⟨w.heap.size,0,none⟩ (.slice sa6 out6.length sc6)).setCell ⟨w.heap.size+1,0,none⟩ (.int .i64 ((q:Int)+1))).setCell ⟨w.heap.size+1+1,0,none⟩ (.int .i64 0)).setCell ⟨w.heap.size+1+1,1,none⟩ (.int .i64 0)).setCell ⟨w.heap.size+1+1,2,none⟩ (.int .i64 0)).drew w.heap.size [.slice sa6 out6.length sc6] 26:=Blk.drew <| ((((K6.out.set 0 _).setCell_other (a:=⟨w.heap.size+1,0,none⟩) n67 _).setCell_other (a:=⟨w.heap.size+1+1,0,none⟩) n68 _).setCell_other (a:=⟨w.heap.size+1+1,1,none⟩) n68 _).setCell_other (a:=⟨w.heap.size+1+1,2,none⟩) n68 _
          have Z7:Blk (((((W8.setCell ⟨w.heap.size,0,none⟩ (.slice sa6 out6.length sc6)).setCell ⟨w.heap.size+1,0,none⟩ (.int .i64 ((q:Int)+1))).setCell ⟨w.heap.size+1+1,0,none⟩ (.int .i64 0)).setCell ⟨w.heap.size+1+1,1,none⟩ (.int .i64 0)).setCell ⟨w.heap.size+1+1,2,none⟩ (.int .i64 0)).drew (w.heap.size+1) [.int .i64 ((q+1:Nat):Int)] 3:=by
            rw [← e1]
            exact Blk.drew <| (((((K7.out.setCell_other (a:=⟨w.heap.size,0,none⟩) n67.symm _).set 0 _)).setCell_other (a:=⟨w.heap.size+1+1,0,none⟩) n78 _).setCell_other (a:=⟨w.heap.size+1+1,1,none⟩) n78 _).setCell_other (a:=⟨w.heap.size+1+1,2,none⟩) n78 _
          have Z8:Blk (((((W8.setCell ⟨w.heap.size,0,none⟩ (.slice sa6 out6.length sc6)).setCell ⟨w.heap.size+1,0,none⟩ (.int .i64 ((q:Int)+1))).setCell ⟨w.heap.size+1+1,0,none⟩ (.int .i64 0)).setCell ⟨w.heap.size+1+1,1,none⟩ (.int .i64 0)).setCell ⟨w.heap.size+1+1,2,none⟩ (.int .i64 0)).drew (w.heap.size+1+1) [.int .i64 0,.int .i64 0,.int .i64 0] 32:=Blk.drew <| ((((K8.out.setCell_other (a:=⟨w.heap.size,0,none⟩) n68.symm _).setCell_other (a:=⟨w.heap.size+1,0,none⟩) n78.symm _).set 0 _).set 1 _).set 2 _
          have ZB:Below w.heap.size w (((((W8.setCell ⟨w.heap.size,0,none⟩ (.slice sa6 out6.length sc6)).setCell ⟨w.heap.size+1,0,none⟩ (.int .i64 ((q:Int)+1))).setCell ⟨w.heap.size+1+1,0,none⟩ (.int .i64 0)).setCell ⟨w.heap.size+1+1,1,none⟩ (.int .i64 0)).setCell ⟨w.heap.size+1+1,2,none⟩ (.int .i64 0)).drew:=(((((KB.out.setCell (by simp) _).setCell (by simp) _).setCell (by simp;omega) _).setCell (by simp;omega) _).setCell (by simp;omega) _).drew
          have ZL:(((((W8.setCell ⟨w.heap.size,0,none⟩ (.slice sa6 out6.length sc6)).setCell ⟨w.heap.size+1,0,none⟩ (.int .i64 ((q:Int)+1))).setCell ⟨w.heap.size+1+1,0,none⟩ (.int .i64 0)).setCell ⟨w.heap.size+1+1,1,none⟩ (.int .i64 0)).setCell ⟨w.heap.size+1+1,2,none⟩ (.int .i64 0)).drew.ownsRow (w.heap.size+1+1+1+1) 61 2 (.slice sa6 out6.length sc6) out6.length (flatR out6):=ownsRow_drewR <| ownsRow_setCell_below (ownsRow_setCell_below (ownsRow_setCell_below (ownsRow_setCell_below (ownsRow_setCell_below KL.out (by dsimp only;omega) _) (by dsimp only;omega) _) (by dsimp only;omega) _) (by dsimp only;omega) _) (by dsimp only;omega) _
          have HZ6:=hid Z6;have HZ7:=hid Z7;have HZ8:=hid Z8;have HZB:=hid ZB;have HZL:=hid ZL
          clear Z6 Z7 Z8 ZB ZL e1
          go_wp2_with fail
          rw [HQ.out]
          exact cls_done _ (q+1) out6 _ _ HZ6.out HZ7.out HZ8.out (fun W' c6 c7 c80 c81 c82=>by simp [results,Tryz.results79,go_sem,c6,c7,c80,c81,c82]) (Joins.ownsRow_le HZL.out (by omega)) (I6.out.congr fun c _ _=>by rw [hnt'];simp) HZB.out
    · go_wp2_with fail
      refine (br_has_no (w.heap.size+1+1+1) s ⟨#[93]⟩ q _ _ _ HH.out.a.rd hq4 (Bool.eq_false_iff.2 h93)).mono ?_
      rintro e w5 ⟨rfl,hR,hG⟩
      have A5:=hid (HH.out.a.grown hG hR)
      have V5:=hid (HH.out.v.grown hG (by omega))
      have T5:=hid (HT.out.below A5.out.bl)
      clear hR hG
      cases hiq:itemP s q perl p with
      | wrong x a b=>
        have HIQ:=hid hiq;clear hiq
        go_wp2_with fail
        have C5:=hid (show AllV w5 (w.heap.size+1+1+1+1) (.slice sa4 out4.length out4.length) out4 from AllV.cut V5.out)
        have hcc:(out4.length:Int)≤(sc4:Int):=by omega
        have HQ:=hid (show clsQ s p perl none = .wrong x a b by
          have h1:=HH.out.r
          unfold restP at h1
          rw [if_neg h93,HIQ.out] at h1
          unfold clsQ clsP
          rw [hn,HI.out]
          simp only [not_true,if_false]
          rw [← HR.out,← h1])
        rcases hv4 with ⟨rfl,rfl,rfl⟩ | ⟨g4,cur4,rfl,hg4,hx4,hy4⟩
        all_goals
          refine Code.wp_mono (Q:=PanQ w x a b) ?_ ?_
          rotate_left
          refine wp_region_any (by kernel_rfl) ?_
          refine wpAny_take (i:=0) (v:=?_) rfl (by kernel_rfl) (by kernel_rfl) (by kernel_rfl) (by exact fun _ _ _ h=>PanQ.put (k:=41) (by decide) h) (Or.inl ⟨by rfl,?_⟩) ?_
          rotate_left
          · (intro W';go_simp;try with_reducible rfl)
          refine wpAny_take (i:=1) (v:=?_) rfl (by kernel_rfl) (by kernel_rfl) (by kernel_rfl) (by exact fun _ _ _ h=>PanQ.put (k:=42) (by decide) h) (Or.inl ⟨by rfl,?_⟩) ?_
          rotate_left
          · (intro W';go_simp;try with_reducible rfl)
          refine wpAny_take (i:=2) (v:=?_) rfl (by kernel_rfl) (by kernel_rfl) (by kernel_rfl) (by exact fun _ _ _ h=>PanQ.put (k:=43) (by decide) h) (Or.inl ⟨by rfl,?_⟩) ?_
          rotate_left
          · (intro W';go_simp;try with_reducible rfl)
          refine wpAny_take (i:=3) (v:=?_) rfl (by kernel_rfl) (by kernel_rfl) (by kernel_rfl) (by exact fun _ _ _ h=>PanQ.put (k:=44) (by decide) h) (Or.inl ⟨by rfl,?_⟩) ?_
          rotate_left
          · (intro W';go_simp;try with_reducible rfl)
          refine wpAny_take (i:=4) (v:=?_) rfl (by kernel_rfl) (by kernel_rfl) (by kernel_rfl) (by exact fun _ _ _ h=>PanQ.put (k:=45) (by decide) h) (Or.inl ⟨by rfl,?_⟩) ?_
          rotate_left
          · (intro W';go_simp;try with_reducible rfl)
          refine wpAny_take (i:=5) (v:=?_) rfl (by kernel_rfl) (by kernel_rfl) (by kernel_rfl) (by exact fun _ _ _ h=>PanQ.put (k:=46) (by decide) h) (Or.inl ⟨by rfl,?_⟩) ?_
          rotate_left
          · (intro W';go_simp;try with_reducible rfl)
          refine wpAny_take (i:=6) (v:=?_) rfl (by kernel_rfl) (by kernel_rfl) (by kernel_rfl) (by exact fun _ _ _ h=>PanQ.put (k:=47) (by decide) h) (Or.inl ⟨by rfl,?_⟩) ?_
          rotate_left
          · (intro W';go_simp;try with_reducible rfl)
          refine wpAny_ready (rs:=[7]) (by kernel_rfl) (by simp) ?_
          refine AllReady.cons rfl (fun K hK=>?_) AllReady.nil
          go_simp
          go_at_call 108
          refine (item_any (w.heap.size+1+1+1) s q p perl _ (Blk.drew A5.out.rd) T5.out (by omega) (by omega) hq4 (by omega)).mono ?_
          rw [HIQ.out]
          rintro e w6 ⟨hG,rfl⟩
          exact ⟨rfl,rfl,rfl,rfl,rfl,A5.out.blk (grownBy_trans (grownBy_drew _ _) hG)⟩
          rintro e f W hq
          cases e with
          | panic c=>
            show bodyPostD Tryz.prog Tryz.f79 (ClsOut w (clsQ s p perl none)) (.panic c) f W
            rw [HQ.out]
            exact PanQ.door hq
          | _=>exact hq.elim
      | ok f5 q5=>
        have HIQ:=hid hiq;clear hiq
        have hq5:=itemP_q hq4 HIQ.out
        have hl5:=HH.out.l
        have hlt5:=A5.out.rd.lt
        have C5:=hid (show AllV w5 (w.heap.size+1+1+1+1) (.slice sa4 out4.length out4.length) out4 from AllV.cut V5.out)
        have hcc:(out4.length:Int)≤(sc4:Int):=by omega
        rcases hv4 with ⟨rfl,rfl,rfl⟩ | ⟨g4,cur4,rfl,hg4,hx4,hy4⟩
        · go_wp2_with fail
          go_region_held3 (fun _=>True) (trivial) (first
            | (go_at_call 108;refine (item_any (w.heap.size+1+1+1) s q p perl _ (Blk.drew A5.out.rd) T5.out (by omega) (by omega) hq4 (by omega)).mono ?_;rw [HIQ.out];rintro e w6 ⟨hG,v5,out5,rfl,hL5,hM5,hN5,hR5⟩;have C6:=hid (AllV.grown C5.out (grownBy_trans (grownBy_drew _ _) hG) (by omega));have A6:=hid (A5.out.grown (grownBy_trans (grownBy_drew _ _) hG) hR5);have HL6:=hid hL5;have HM6:=hid hM5;have HN6:=hid hN5;clear hG hL5 hM5 hR5)
            | (refine step_append_full (by rfl) (.tmp 46) (.tmp 48) (by rfl) (w.heap.size+1+1+1+1) _ none [] out5 v5 (by rfl) (by rfl) C6.out HL6.out (by simp;omega) (by have:=A6.out.rd.lt;omega) ?_;intro v7 w7 hv7 hg7))
          have hg7':w6.grownBy w7 (some (w.heap.size+1+1+1)):=grownBy_below (below_grownBy hg7) _
          have A7:=hid (A6.out.grown hg7' (Rd.below A6.out.rd (below_grownBy hg7) A6.out.rd.lt))
          have HV7:=hid hv7
          clear hg7 hg7' hv7
          go_wp2_with fail
          go_roundg m
          case rel=>exact ⟨q5,fun c=>g c || f5 c,[] ++ out5,A7.out,HV7.out,fun c h0 h1=>by rw [memR_append,HH.out.m c h0 h1,HM6.out c h0 h1],by have:=HN6.out;simp only [List.length_append];omega,hq5.2,by have:=HH.out.i;omega,by
            have h1:=HH.out.r
            unfold restP at h1
            rw [if_neg h93,HIQ.out] at h1
            exact h1⟩
          case measure=>omega
        · go_wp2_with fail
          go_region_held3 (fun _=>True) (trivial) (first
            | (go_at_call 108;refine (item_any (w.heap.size+1+1+1) s q p perl _ (Blk.drew A5.out.rd) T5.out (by omega) (by omega) hq4 (by omega)).mono ?_;rw [HIQ.out];rintro e w6 ⟨hG,v5,out5,rfl,hL5,hM5,hN5,hR5⟩;have C6:=hid (AllV.grown C5.out (grownBy_trans (grownBy_drew _ _) hG) (by omega));have A6:=hid (A5.out.grown (grownBy_trans (grownBy_drew _ _) hG) hR5);have HL6:=hid hL5;have HM6:=hid hM5;have HN6:=hid hN5;clear hG hL5 hM5 hR5)
            | (refine step_append_full (by rfl) (.tmp 46) (.tmp 48) (by rfl) (w.heap.size+1+1+1+1) _ (some ⟨g4,0,none⟩) out4 out5 v5 (by rfl) (by rfl) C6.out HL6.out (by omega) (by have:=A6.out.rd.lt;omega) ?_;intro v7 w7 hv7 hg7))
          have hg7':w6.grownBy w7 (some (w.heap.size+1+1+1)):=grownBy_below (below_grownBy hg7) _
          have A7:=hid (A6.out.grown hg7' (Rd.below A6.out.rd (below_grownBy hg7) A6.out.rd.lt))
          have HV7:=hid hv7
          clear hg7 hg7' hv7
          go_wp2_with fail
          go_roundg m
          case rel=>exact ⟨q5,fun c=>g c || f5 c,out4 ++ out5,A7.out,HV7.out,fun c h0 h1=>by rw [memR_append,HH.out.m c h0 h1,HM6.out c h0 h1],by have:=HN6.out;simp only [List.length_append];omega,hq5.2,by have:=HH.out.i;omega,by
            have h1:=HH.out.r
            unfold restP at h1
            rw [if_neg h93,HIQ.out] at h1
            exact h1⟩
          case measure=>omega
end Go.Proofs.YtnhnldmldnhaoaaGreatDoor
