/- A named group's beginning: scan.Name, whole. -/
import Derived.Test.YtnhnldmldnhaoaaGreatDoorSCaps
set_option maxRecDepth 100000
set_option maxHeartbeats 16000000
open Go.Lib (hid)
namespace Go.Proofs.YtnhnldmldnhaoaaGreatDoor
open Go Go.RowKit Go.Proofs
def fromP (s:ByteArray) (p:Nat):Option Nat:=if stands s p [40,63,80,60]=true then some (p+4) else if stands s p [40,63,60]=true then some (p+3) else none
def endP (s:ByteArray) (p:Nat):Nat:=if 0≤Lib.indexByte (s.data.toList.drop p) 62 then p+(Lib.indexByte (s.data.toList.drop p) 62).toNat+1 else s.size
def nameP (s:ByteArray) (p:Nat):Except Nat (ByteArray × Nat):=
  match fromP s p with
  | none=>.error (endP s p)
  | some q=>if 0≤Lib.indexByte (s.data.toList.drop q) 62∧nameB (s.extract q (q+(Lib.indexByte (s.data.toList.drop q) 62).toNat))=true then
      .ok (s.extract q (q+(Lib.indexByte (s.data.toList.drop q) 62).toNat),q+(Lib.indexByte (s.data.toList.drop q) 62).toNat+1) else .error (endP s p)
def nameV (p:Nat):Except Nat (ByteArray × Nat)→Value
  | .error n=>.tuple #[.string ⟨#[]⟩,.int .i64 0,.agg #[.int .i64 64,.int .i64 (p:Int),.int .i64 (n:Int)]]
  | .ok (nm,q)=>.tuple #[.string nm,.int .i64 (q:Int),.agg #[.int .i64 0,.int .i64 0,.int .i64 0]]
theorem scan_name_none (s:ByteArray) (p:Nat) (w:World) (hp:p≤s.size) (hs:s.size≤1000000000000000) (h4:stands s p [40,63,80,60]=false) (h3:stands s p [40,63,60]=false) :
    Calls Tryz.prog 98 #[.string s,.int .i64 (p:Int)] w fun e w'=>e = .returned (nameV p (.error (endP s p)))∧Below w.heap.size w w':=by
  have H4:=hid h4;have H3:=hid h3
  clear h4 h3
  go_enter Tryz.func98, Tryz.ntmps98
  go_wp2_with fail
  have hO:=(Blk.new w [.int .i64 0,.int .i64 0,.int .i64 0] 32).alloc (.cells #[.string s,.int .i64 (p:Int)] 140)
  have hR:=Blk.new (w.alloc (.cells #[.int .i64 0,.int .i64 0,.int .i64 0] 32)) [.string s,.int .i64 (p:Int)] 140
  rw [World.size_alloc] at hR
  have hB:=((Below.refl _ w).alloc (Nat.le_refl _) (.cells #[.int .i64 0,.int .i64 0,.int .i64 0] 32)).alloc (by simp) (.cells #[.string s,.int .i64 (p:Int)] 140)
  obtain ⟨w0,hw0⟩:∃ w0,(w.alloc (.cells #[.int .i64 0,.int .i64 0,.int .i64 0] 32)).alloc (.cells #[.string s,.int .i64 (p:Int)] 140)=w0:=⟨_,rfl⟩
  have hz:w0.heap.size=w.heap.size+1+1:=by rw [← hw0];simp
  have HZ:=hid hz;clear hz
  rw [hw0] at hO hR hB ⊢
  clear hw0
  have HR0:=hid (show Rd w0 (w.heap.size+1) s p [] 140 from hR);have HO0:=hid hO;have B0:=hid hB
  clear hO hR hB
  refine (scan_has_no _ s ⟨#[40,63,80,60]⟩ p [] _ _ HR0.out hp H4.out).mono ?_
  rintro e w1 ⟨rfl,hR1,hG1⟩
  have HR1:=hid hR1;have HO1:=hid (HO0.out.grown hG1 (ne_some (by omega)));have B1:=hid (below_next B0.out (Nat.le_refl _) hG1 (fun k e=>by cases e;omega));clear hR1 hG1
  go_wp2_with fail
  refine (scan_has_no _ s ⟨#[40,63,60]⟩ p [] _ _ HR1.out hp H3.out).mono ?_
  rintro e W ⟨rfl,hR1,hG1⟩
  have HR2:=hid hR1;have HO2:=hid (HO1.out.grown hG1 (ne_some (by omega)));have B2:=hid (below_next B1.out (Nat.le_refl _) hG1 (fun k e=>by cases e;omega));clear hR1 hG1
  have HR:=HR2;have HO:=HO2;have B:=B2
  clear HR0 HR1 HR2 HO0 HO1 HO2 B0 B1 B2
  have r1:=HR.out.c1
  have rf:=HR.out.f1
  go_wp2_with fail
  have HRm:=hid (HR.out.move p)
  have HOm:=hid (HO.out.grown (grownBy_setCell W (w.heap.size+1) 1 (.int .i64 (p:Int))) (ne_some (by omega)))
  have Bm:=hid (B.out.setCell (p:=⟨w.heap.size+1,1,none⟩) (by simp) (.int .i64 (p:Int)))
  clear r1 rf
  by_cases hj:0≤Lib.indexByte (s.data.toList.drop p) 62
  · obtain ⟨j,hj2⟩:∃ j:Nat,Lib.indexByte (s.data.toList.drop p) 62=j:=⟨(Lib.indexByte (s.data.toList.drop p) 62).toNat,by omega⟩
    have HEnd:=hid (show endP s p=p+j+1 by unfold endP;rw [if_pos hj,hj2];simp)
    have hjl:=indexByte_lt hj2
    have hjl2:j < s.size - p:=by simpa using hjl
    clear hj hjl
    refine (scan_until_yes _ s 62 p j [] _ _ HRm.out hp (by omega) conv62 hj2).mono ?_
    clear hj2
    rintro e w5 ⟨rfl,hR,hG⟩
    have a0:=Blk.cell (HOm.out.grown hG (ne_some (by omega))) (j:=0) rfl;have a1:=Blk.cell (HOm.out.grown hG (ne_some (by omega))) (j:=1) rfl;have a2:=Blk.cell (HOm.out.grown hG (ne_some (by omega))) (j:=2) rfl
    have b0:=Blk.frozen (HOm.out.grown hG (ne_some (by omega))) 0;have b1:=Blk.frozen (HOm.out.grown hG (ne_some (by omega))) 1;have b2:=Blk.frozen (HOm.out.grown hG (ne_some (by omega))) 2
    have r1:=hR.c1
    have B5:=hid (below_next Bm.out (Nat.le_refl _) hG (fun k e=>by cases e;omega))
    clear hR hG
    go_wp2_with fail
    go_region
    go_wp2_with fail
    refine bodyPost_ret (v:=.tuple #[.string ⟨#[]⟩,.int .i64 0,.agg #[.int .i64 64,.int .i64 (p:Int),.int .i64 ((p+j+1:Nat):Int)]]) ?_ rfl ⟨by rw [HEnd.out];rfl,?_⟩
    · simp [results,Tryz.results98,go_sem,a0,a1,a2]
    · exact (((B5.out.setCell (by simp) _).setCell (by simp) _).setCell (by simp) _).drew
  · have hj2:Lib.indexByte (s.data.toList.drop p) 62 = -1:=by have:=Lib.indexByte_ge (s.data.toList.drop p) 62;omega
    have HEnd:=hid (show endP s p=s.size by unfold endP;rw [if_neg hj])
    clear hj
    refine (scan_until_no _ s 62 p [] _ _ HRm.out hp conv62 hj2).mono ?_
    clear hj2
    rintro e w5 ⟨rfl,hR,hG⟩
    have HO5:=hid (HOm.out.grown hG (ne_some (by omega)))
    have r1:=hR.c1
    have rf:=hR.f1
    have B5:=hid (below_next Bm.out (Nat.le_refl _) hG (fun k e=>by cases e;omega))
    have HR5:=hid hR
    clear hR hG
    have HO6:=HO5.out.grown (grownBy_setCell w5 (w.heap.size+1) 1 (.int .i64 (s.size:Int))) (ne_some (by omega))
    have a0:=Blk.cell HO6 (j:=0) rfl;have a1:=Blk.cell HO6 (j:=1) rfl;have a2:=Blk.cell HO6 (j:=2) rfl
    have b0:=Blk.frozen HO6 0;have b1:=Blk.frozen HO6 1;have b2:=Blk.frozen HO6 2
    have r2:=(HR5.out.move s.size).c1
    clear HO6
    go_wp2_with fail
    go_region
    go_wp2_with fail
    refine bodyPost_ret (v:=.tuple #[.string ⟨#[]⟩,.int .i64 0,.agg #[.int .i64 64,.int .i64 (p:Int),.int .i64 (s.size:Int)]]) ?_ rfl ⟨by rw [HEnd.out];rfl,?_⟩
    · simp [results,Tryz.results98,go_sem,a0,a1,a2]
    · exact ((((B5.out.setCell (by simp) _).setCell (by simp) _).setCell (by simp) _).setCell (by simp) _).drew
theorem scan_name_four_none (s:ByteArray) (p:Nat) (w:World) (hp:p≤s.size) (hs:s.size≤1000000000000000) (h4:stands s p [40,63,80,60]=true) (hk:Lib.indexByte (s.data.toList.drop (p+4)) 62 = -1) :
    Calls Tryz.prog 98 #[.string s,.int .i64 (p:Int)] w fun e w'=>e = .returned (nameV p (.error (endP s p)))∧Below w.heap.size w w':=by
  have HK:=hid hk;clear hk
  have HQ:=stands_le (p:=⟨#[40,63,80,60]⟩) hp h4
  have HQ2:p+4≤s.size:=HQ
  clear HQ
  have H4:=hid h4;clear h4
  go_enter Tryz.func98, Tryz.ntmps98
  go_wp2_with fail
  have hO:=(Blk.new w [.int .i64 0,.int .i64 0,.int .i64 0] 32).alloc (.cells #[.string s,.int .i64 (p:Int)] 140)
  have hR:=Blk.new (w.alloc (.cells #[.int .i64 0,.int .i64 0,.int .i64 0] 32)) [.string s,.int .i64 (p:Int)] 140
  rw [World.size_alloc] at hR
  have hB:=((Below.refl _ w).alloc (Nat.le_refl _) (.cells #[.int .i64 0,.int .i64 0,.int .i64 0] 32)).alloc (by simp) (.cells #[.string s,.int .i64 (p:Int)] 140)
  obtain ⟨w0,hw0⟩:∃ w0,(w.alloc (.cells #[.int .i64 0,.int .i64 0,.int .i64 0] 32)).alloc (.cells #[.string s,.int .i64 (p:Int)] 140)=w0:=⟨_,rfl⟩
  have hz:w0.heap.size=w.heap.size+1+1:=by rw [← hw0];simp
  have HZ:=hid hz;clear hz
  rw [hw0] at hO hR hB ⊢
  clear hw0
  have HR0:=hid (show Rd w0 (w.heap.size+1) s p [] 140 from hR);have HO0:=hid hO;have B0:=hid hB
  clear hO hR hB
  refine (scan_has_yes _ s ⟨#[40,63,80,60]⟩ p [] _ _ HR0.out hp (by omega) H4.out).mono ?_
  rintro e w1 ⟨rfl,hR1,hG1⟩
  have HR1:=hid hR1;have HO1:=hid (HO0.out.grown hG1 (ne_some (by omega)));have B1:=hid (below_next B0.out (Nat.le_refl _) hG1 (fun k e=>by cases e;omega));clear hR1 hG1
  go_wp2_with fail
  refine (scan_until_no _ s 62 (p+4) [] _ _ HR1.out HQ2 conv62 HK.out).mono ?_
  rintro e W ⟨rfl,hR1,hG1⟩
  have HR:=hid hR1;have HO:=hid (HO1.out.grown hG1 (ne_some (by omega)));have B:=hid (below_next B1.out (Nat.le_refl _) hG1 (fun k e=>by cases e;omega));clear hR1 hG1
  clear HR0 HR1 HO0 HO1 B0 B1
  have r1:=HR.out.c1
  have rf:=HR.out.f1
  go_wp2_with fail
  have HRm:=hid (HR.out.move p)
  have HOm:=hid (HO.out.grown (grownBy_setCell W (w.heap.size+1) 1 (.int .i64 (p:Int))) (ne_some (by omega)))
  have Bm:=hid (B.out.setCell (p:=⟨w.heap.size+1,1,none⟩) (by simp) (.int .i64 (p:Int)))
  clear r1 rf
  by_cases hj:0≤Lib.indexByte (s.data.toList.drop p) 62
  · obtain ⟨j,hj2⟩:∃ j:Nat,Lib.indexByte (s.data.toList.drop p) 62=j:=⟨(Lib.indexByte (s.data.toList.drop p) 62).toNat,by omega⟩
    have HEnd:=hid (show endP s p=p+j+1 by unfold endP;rw [if_pos hj,hj2];simp)
    have hjl:=indexByte_lt hj2
    have hjl2:j < s.size - p:=by simpa using hjl
    clear hj hjl
    refine (scan_until_yes _ s 62 p j [] _ _ HRm.out hp (by omega) conv62 hj2).mono ?_
    clear hj2
    rintro e w5 ⟨rfl,hR,hG⟩
    have a0:=Blk.cell (HOm.out.grown hG (ne_some (by omega))) (j:=0) rfl;have a1:=Blk.cell (HOm.out.grown hG (ne_some (by omega))) (j:=1) rfl;have a2:=Blk.cell (HOm.out.grown hG (ne_some (by omega))) (j:=2) rfl
    have b0:=Blk.frozen (HOm.out.grown hG (ne_some (by omega))) 0;have b1:=Blk.frozen (HOm.out.grown hG (ne_some (by omega))) 1;have b2:=Blk.frozen (HOm.out.grown hG (ne_some (by omega))) 2
    have r1:=hR.c1
    have B5:=hid (below_next Bm.out (Nat.le_refl _) hG (fun k e=>by cases e;omega))
    clear hR hG
    go_wp2_with fail
    go_region
    go_wp2_with fail
    refine bodyPost_ret (v:=.tuple #[.string ⟨#[]⟩,.int .i64 0,.agg #[.int .i64 64,.int .i64 (p:Int),.int .i64 ((p+j+1:Nat):Int)]]) ?_ rfl ⟨by rw [HEnd.out];rfl,?_⟩
    · simp [results,Tryz.results98,go_sem,a0,a1,a2]
    · exact (((B5.out.setCell (by simp) _).setCell (by simp) _).setCell (by simp) _).drew
  · have hj2:Lib.indexByte (s.data.toList.drop p) 62 = -1:=by have:=Lib.indexByte_ge (s.data.toList.drop p) 62;omega
    have HEnd:=hid (show endP s p=s.size by unfold endP;rw [if_neg hj])
    clear hj
    refine (scan_until_no _ s 62 p [] _ _ HRm.out hp conv62 hj2).mono ?_
    clear hj2
    rintro e w5 ⟨rfl,hR,hG⟩
    have HO5:=hid (HOm.out.grown hG (ne_some (by omega)))
    have r1:=hR.c1
    have rf:=hR.f1
    have B5:=hid (below_next Bm.out (Nat.le_refl _) hG (fun k e=>by cases e;omega))
    have HR5:=hid hR
    clear hR hG
    have HO6:=HO5.out.grown (grownBy_setCell w5 (w.heap.size+1) 1 (.int .i64 (s.size:Int))) (ne_some (by omega))
    have a0:=Blk.cell HO6 (j:=0) rfl;have a1:=Blk.cell HO6 (j:=1) rfl;have a2:=Blk.cell HO6 (j:=2) rfl
    have b0:=Blk.frozen HO6 0;have b1:=Blk.frozen HO6 1;have b2:=Blk.frozen HO6 2
    have r2:=(HR5.out.move s.size).c1
    clear HO6
    go_wp2_with fail
    go_region
    go_wp2_with fail
    refine bodyPost_ret (v:=.tuple #[.string ⟨#[]⟩,.int .i64 0,.agg #[.int .i64 64,.int .i64 (p:Int),.int .i64 (s.size:Int)]]) ?_ rfl ⟨by rw [HEnd.out];rfl,?_⟩
    · simp [results,Tryz.results98,go_sem,a0,a1,a2]
    · exact ((((B5.out.setCell (by simp) _).setCell (by simp) _).setCell (by simp) _).setCell (by simp) _).drew
theorem scan_name_four_bad (s:ByteArray) (p k:Nat) (w:World) (hp:p≤s.size) (hs:s.size≤1000000000000000) (h4:stands s p [40,63,80,60]=true) (hk:Lib.indexByte (s.data.toList.drop (p+4)) 62=k) (hb:nameB (s.extract (p+4) (p+4+k))=false) :
    Calls Tryz.prog 98 #[.string s,.int .i64 (p:Int)] w fun e w'=>e = .returned (nameV p (.error (endP s p)))∧Below w.heap.size w w':=by
  have HK:=hid hk;clear hk
  have HQ:=stands_le (p:=⟨#[40,63,80,60]⟩) hp h4
  have HQ2:p+4≤s.size:=HQ
  clear HQ
  have H4:=hid h4;clear h4
  go_enter Tryz.func98, Tryz.ntmps98
  go_wp2_with fail
  have hO:=(Blk.new w [.int .i64 0,.int .i64 0,.int .i64 0] 32).alloc (.cells #[.string s,.int .i64 (p:Int)] 140)
  have hR:=Blk.new (w.alloc (.cells #[.int .i64 0,.int .i64 0,.int .i64 0] 32)) [.string s,.int .i64 (p:Int)] 140
  rw [World.size_alloc] at hR
  have hB:=((Below.refl _ w).alloc (Nat.le_refl _) (.cells #[.int .i64 0,.int .i64 0,.int .i64 0] 32)).alloc (by simp) (.cells #[.string s,.int .i64 (p:Int)] 140)
  obtain ⟨w0,hw0⟩:∃ w0,(w.alloc (.cells #[.int .i64 0,.int .i64 0,.int .i64 0] 32)).alloc (.cells #[.string s,.int .i64 (p:Int)] 140)=w0:=⟨_,rfl⟩
  have hz:w0.heap.size=w.heap.size+1+1:=by rw [← hw0];simp
  have HZ:=hid hz;clear hz
  rw [hw0] at hO hR hB ⊢
  clear hw0
  have HR0:=hid (show Rd w0 (w.heap.size+1) s p [] 140 from hR);have HO0:=hid hO;have B0:=hid hB
  clear hO hR hB
  refine (scan_has_yes _ s ⟨#[40,63,80,60]⟩ p [] _ _ HR0.out hp (by omega) H4.out).mono ?_
  rintro e w1 ⟨rfl,hR1,hG1⟩
  have HR1:=hid hR1;have HO1:=hid (HO0.out.grown hG1 (ne_some (by omega)));have B1:=hid (below_next B0.out (Nat.le_refl _) hG1 (fun k e=>by cases e;omega));clear hR1 hG1
  go_wp2_with fail
  refine (scan_until_yes _ s 62 (p+4) k [] _ _ HR1.out HQ2 (by omega) conv62 HK.out).mono ?_
  rintro e w6 ⟨rfl,hR1,hG1⟩
  have HR6:=hid hR1;have HO6:=hid (HO1.out.grown hG1 (ne_some (by omega)));have B6:=hid (below_next B1.out (Nat.le_refl _) hG1 (fun k e=>by cases e;omega));clear hR1 hG1
  obtain ⟨nm,hnm⟩:∃ nm,nm=s.extract (p+4) (p+4+k):=⟨_,rfl⟩
  rw [← hnm] at hb ⊢
  have HNM:=hid hnm;clear hnm
  go_wp2_with fail
  have hk0:=Blk.new w6 [.int .i64 2,.slice none 0 0,.int .i32 0,.slice none 0 0,.int .i64 0,.int .i64 0,.string ⟨#[]⟩,.int .i64 0,.int .i64 0,.bool false] 29
  refine (caps_name _ w6.heap.size nm (by simp) hk0).mono ?_
  rintro e W ⟨A,c,rfl,hB⟩
  have hB7:Below w6.heap.size w6 W:=((Below.refl _ w6).alloc (Nat.le_refl _) _).trans (hB.mono (by simp))
  have HR:=hid (show Rd W (w.heap.size+1) s (p+4+k+1) [] 140 from Blk.below HR6.out hB7 HR6.out.lt);have HO:=hid (HO6.out.below hB7 HO6.out.lt);have B:=hid (below_then B6.out (hB7.mono (Nat.le_refl _)):Below w.heap.size w W)
  clear hB hB7 hk0 HR0 HR1 HO0 HO1 B0 B1 HR6 HO6 B6
  by_cases hn:nm.size=0
  · obtain rfl:=size_zero hn
    have hl:capsLen ⟨#[]⟩=2:=by decide
    rw [hl]
    clear hl hb hn
    have r1:=HR.out.c1
    have rf:=HR.out.f1
    go_wp2_with fail
    have HRm:=hid (HR.out.move p)
    have HOm:=hid (HO.out.grown (grownBy_setCell W (w.heap.size+1) 1 (.int .i64 (p:Int))) (ne_some (by omega)))
    have Bm:=hid (B.out.setCell (p:=⟨w.heap.size+1,1,none⟩) (by simp) (.int .i64 (p:Int)))
    clear r1 rf
    by_cases hj:0≤Lib.indexByte (s.data.toList.drop p) 62
    · obtain ⟨j,hj2⟩:∃ j:Nat,Lib.indexByte (s.data.toList.drop p) 62=j:=⟨(Lib.indexByte (s.data.toList.drop p) 62).toNat,by omega⟩
      have HEnd:=hid (show endP s p=p+j+1 by unfold endP;rw [if_pos hj,hj2];simp)
      have hjl:=indexByte_lt hj2
      have hjl2:j < s.size - p:=by simpa using hjl
      clear hj hjl
      refine (scan_until_yes _ s 62 p j [] _ _ HRm.out hp (by omega) conv62 hj2).mono ?_
      clear hj2
      rintro e w5 ⟨rfl,hR,hG⟩
      have a0:=Blk.cell (HOm.out.grown hG (ne_some (by omega))) (j:=0) rfl;have a1:=Blk.cell (HOm.out.grown hG (ne_some (by omega))) (j:=1) rfl;have a2:=Blk.cell (HOm.out.grown hG (ne_some (by omega))) (j:=2) rfl
      have b0:=Blk.frozen (HOm.out.grown hG (ne_some (by omega))) 0;have b1:=Blk.frozen (HOm.out.grown hG (ne_some (by omega))) 1;have b2:=Blk.frozen (HOm.out.grown hG (ne_some (by omega))) 2
      have r1:=hR.c1
      have B5:=hid (below_next Bm.out (Nat.le_refl _) hG (fun k e=>by cases e;omega))
      clear hR hG
      go_wp2_with fail
      go_region
      go_wp2_with fail
      refine bodyPost_ret (v:=.tuple #[.string ⟨#[]⟩,.int .i64 0,.agg #[.int .i64 64,.int .i64 (p:Int),.int .i64 ((p+j+1:Nat):Int)]]) ?_ rfl ⟨by rw [HEnd.out];rfl,?_⟩
      · simp [results,Tryz.results98,go_sem,a0,a1,a2]
      · exact (((B5.out.setCell (by simp) _).setCell (by simp) _).setCell (by simp) _).drew
    · have hj2:Lib.indexByte (s.data.toList.drop p) 62 = -1:=by have:=Lib.indexByte_ge (s.data.toList.drop p) 62;omega
      have HEnd:=hid (show endP s p=s.size by unfold endP;rw [if_neg hj])
      clear hj
      refine (scan_until_no _ s 62 p [] _ _ HRm.out hp conv62 hj2).mono ?_
      clear hj2
      rintro e w5 ⟨rfl,hR,hG⟩
      have HO5:=hid (HOm.out.grown hG (ne_some (by omega)))
      have r1:=hR.c1
      have rf:=hR.f1
      have B5:=hid (below_next Bm.out (Nat.le_refl _) hG (fun k e=>by cases e;omega))
      have HR5:=hid hR
      clear hR hG
      have HO6:=HO5.out.grown (grownBy_setCell w5 (w.heap.size+1) 1 (.int .i64 (s.size:Int))) (ne_some (by omega))
      have a0:=Blk.cell HO6 (j:=0) rfl;have a1:=Blk.cell HO6 (j:=1) rfl;have a2:=Blk.cell HO6 (j:=2) rfl
      have b0:=Blk.frozen HO6 0;have b1:=Blk.frozen HO6 1;have b2:=Blk.frozen HO6 2
      have r2:=(HR5.out.move s.size).c1
      clear HO6
      go_wp2_with fail
      go_region
      go_wp2_with fail
      refine bodyPost_ret (v:=.tuple #[.string ⟨#[]⟩,.int .i64 0,.agg #[.int .i64 64,.int .i64 (p:Int),.int .i64 (s.size:Int)]]) ?_ rfl ⟨by rw [HEnd.out];rfl,?_⟩
      · simp [results,Tryz.results98,go_sem,a0,a1,a2]
      · exact ((((B5.out.setCell (by simp) _).setCell (by simp) _).setCell (by simp) _).setCell (by simp) _).drew
  · have hn2:=list_nil hn
    have hn3:=list_ne hn
    have hl:capsLen nm=0:=by unfold capsLen;rw [hb,decide_eq_false hn];rfl
    rw [hl]
    clear hl hb hn
    have r1:=HR.out.c1
    have rf:=HR.out.f1
    go_wp2_with fail
    have HRm:=hid (HR.out.move p)
    have HOm:=hid (HO.out.grown (grownBy_setCell W (w.heap.size+1) 1 (.int .i64 (p:Int))) (ne_some (by omega)))
    have Bm:=hid (B.out.setCell (p:=⟨w.heap.size+1,1,none⟩) (by simp) (.int .i64 (p:Int)))
    clear r1 rf
    by_cases hj:0≤Lib.indexByte (s.data.toList.drop p) 62
    · obtain ⟨j,hj2⟩:∃ j:Nat,Lib.indexByte (s.data.toList.drop p) 62=j:=⟨(Lib.indexByte (s.data.toList.drop p) 62).toNat,by omega⟩
      have HEnd:=hid (show endP s p=p+j+1 by unfold endP;rw [if_pos hj,hj2];simp)
      have hjl:=indexByte_lt hj2
      have hjl2:j < s.size - p:=by simpa using hjl
      clear hj hjl
      refine (scan_until_yes _ s 62 p j [] _ _ HRm.out hp (by omega) conv62 hj2).mono ?_
      clear hj2
      rintro e w5 ⟨rfl,hR,hG⟩
      have a0:=Blk.cell (HOm.out.grown hG (ne_some (by omega))) (j:=0) rfl;have a1:=Blk.cell (HOm.out.grown hG (ne_some (by omega))) (j:=1) rfl;have a2:=Blk.cell (HOm.out.grown hG (ne_some (by omega))) (j:=2) rfl
      have b0:=Blk.frozen (HOm.out.grown hG (ne_some (by omega))) 0;have b1:=Blk.frozen (HOm.out.grown hG (ne_some (by omega))) 1;have b2:=Blk.frozen (HOm.out.grown hG (ne_some (by omega))) 2
      have r1:=hR.c1
      have B5:=hid (below_next Bm.out (Nat.le_refl _) hG (fun k e=>by cases e;omega))
      clear hR hG
      go_wp2_with fail
      go_region
      go_wp2_with fail
      refine bodyPost_ret (v:=.tuple #[.string ⟨#[]⟩,.int .i64 0,.agg #[.int .i64 64,.int .i64 (p:Int),.int .i64 ((p+j+1:Nat):Int)]]) ?_ rfl ⟨by rw [HEnd.out];rfl,?_⟩
      · simp [results,Tryz.results98,go_sem,a0,a1,a2]
      · exact (((B5.out.setCell (by simp) _).setCell (by simp) _).setCell (by simp) _).drew
    · have hj2:Lib.indexByte (s.data.toList.drop p) 62 = -1:=by have:=Lib.indexByte_ge (s.data.toList.drop p) 62;omega
      have HEnd:=hid (show endP s p=s.size by unfold endP;rw [if_neg hj])
      clear hj
      refine (scan_until_no _ s 62 p [] _ _ HRm.out hp conv62 hj2).mono ?_
      clear hj2
      rintro e w5 ⟨rfl,hR,hG⟩
      have HO5:=hid (HOm.out.grown hG (ne_some (by omega)))
      have r1:=hR.c1
      have rf:=hR.f1
      have B5:=hid (below_next Bm.out (Nat.le_refl _) hG (fun k e=>by cases e;omega))
      have HR5:=hid hR
      clear hR hG
      have HO6:=HO5.out.grown (grownBy_setCell w5 (w.heap.size+1) 1 (.int .i64 (s.size:Int))) (ne_some (by omega))
      have a0:=Blk.cell HO6 (j:=0) rfl;have a1:=Blk.cell HO6 (j:=1) rfl;have a2:=Blk.cell HO6 (j:=2) rfl
      have b0:=Blk.frozen HO6 0;have b1:=Blk.frozen HO6 1;have b2:=Blk.frozen HO6 2
      have r2:=(HR5.out.move s.size).c1
      clear HO6
      go_wp2_with fail
      go_region
      go_wp2_with fail
      refine bodyPost_ret (v:=.tuple #[.string ⟨#[]⟩,.int .i64 0,.agg #[.int .i64 64,.int .i64 (p:Int),.int .i64 (s.size:Int)]]) ?_ rfl ⟨by rw [HEnd.out];rfl,?_⟩
      · simp [results,Tryz.results98,go_sem,a0,a1,a2]
      · exact ((((B5.out.setCell (by simp) _).setCell (by simp) _).setCell (by simp) _).setCell (by simp) _).drew
theorem scan_name_four_good (s:ByteArray) (p k:Nat) (w:World) (hp:p≤s.size) (hs:s.size≤1000000000000000) (h4:stands s p [40,63,80,60]=true) (hk:Lib.indexByte (s.data.toList.drop (p+4)) 62=k) (hb:nameB (s.extract (p+4) (p+4+k))=true) :
    Calls Tryz.prog 98 #[.string s,.int .i64 (p:Int)] w fun e w'=>e = .returned (nameV p (.ok (s.extract (p+4) (p+4+k),p+4+k+1)))∧Below w.heap.size w w':=by
  have HK:=hid hk;clear hk
  have HQ:=stands_le (p:=⟨#[40,63,80,60]⟩) hp h4
  have HQ2:p+4≤s.size:=HQ
  clear HQ
  have H4:=hid h4;clear h4
  go_enter Tryz.func98, Tryz.ntmps98
  go_wp2_with fail
  have hO:=(Blk.new w [.int .i64 0,.int .i64 0,.int .i64 0] 32).alloc (.cells #[.string s,.int .i64 (p:Int)] 140)
  have hR:=Blk.new (w.alloc (.cells #[.int .i64 0,.int .i64 0,.int .i64 0] 32)) [.string s,.int .i64 (p:Int)] 140
  rw [World.size_alloc] at hR
  have hB:=((Below.refl _ w).alloc (Nat.le_refl _) (.cells #[.int .i64 0,.int .i64 0,.int .i64 0] 32)).alloc (by simp) (.cells #[.string s,.int .i64 (p:Int)] 140)
  obtain ⟨w0,hw0⟩:∃ w0,(w.alloc (.cells #[.int .i64 0,.int .i64 0,.int .i64 0] 32)).alloc (.cells #[.string s,.int .i64 (p:Int)] 140)=w0:=⟨_,rfl⟩
  have hz:w0.heap.size=w.heap.size+1+1:=by rw [← hw0];simp
  have HZ:=hid hz;clear hz
  rw [hw0] at hO hR hB ⊢
  clear hw0
  have HR0:=hid (show Rd w0 (w.heap.size+1) s p [] 140 from hR);have HO0:=hid hO;have B0:=hid hB
  clear hO hR hB
  refine (scan_has_yes _ s ⟨#[40,63,80,60]⟩ p [] _ _ HR0.out hp (by omega) H4.out).mono ?_
  rintro e w1 ⟨rfl,hR1,hG1⟩
  have HR1:=hid hR1;have HO1:=hid (HO0.out.grown hG1 (ne_some (by omega)));have B1:=hid (below_next B0.out (Nat.le_refl _) hG1 (fun k e=>by cases e;omega));clear hR1 hG1
  go_wp2_with fail
  refine (scan_until_yes _ s 62 (p+4) k [] _ _ HR1.out HQ2 (by omega) conv62 HK.out).mono ?_
  rintro e w6 ⟨rfl,hR1,hG1⟩
  have HR6:=hid hR1;have HO6:=hid (HO1.out.grown hG1 (ne_some (by omega)));have B6:=hid (below_next B1.out (Nat.le_refl _) hG1 (fun k e=>by cases e;omega));clear hR1 hG1
  obtain ⟨nm,hnm⟩:∃ nm,nm=s.extract (p+4) (p+4+k):=⟨_,rfl⟩
  rw [← hnm] at hb ⊢
  have HNM:=hid hnm;clear hnm
  go_wp2_with fail
  have hk0:=Blk.new w6 [.int .i64 2,.slice none 0 0,.int .i32 0,.slice none 0 0,.int .i64 0,.int .i64 0,.string ⟨#[]⟩,.int .i64 0,.int .i64 0,.bool false] 29
  refine (caps_name _ w6.heap.size nm (by simp) hk0).mono ?_
  rintro e W ⟨A,c,rfl,hB⟩
  have hB7:Below w6.heap.size w6 W:=((Below.refl _ w6).alloc (Nat.le_refl _) _).trans (hB.mono (by simp))
  have HR:=hid (show Rd W (w.heap.size+1) s (p+4+k+1) [] 140 from Blk.below HR6.out hB7 HR6.out.lt);have HO:=hid (HO6.out.below hB7 HO6.out.lt);have B:=hid (below_then B6.out (hB7.mono (Nat.le_refl _)):Below w.heap.size w W)
  clear hB hB7 hk0 HR0 HR1 HO0 HO1 B0 B1 HR6 HO6 B6
  have hn:¬ nm.size=0:=fun h=>by rw [size_zero h] at hb;revert hb;decide
  have hn2:=list_nil hn
  have hn3:=list_ne hn
  have hl:capsLen nm=2:=by unfold capsLen;rw [hb];simp
  rw [hl]
  clear hl hb hn
  have r1:=HR.out.c1
  have a0:=Blk.cell HO.out (j:=0) rfl;have a1:=Blk.cell HO.out (j:=1) rfl;have a2:=Blk.cell HO.out (j:=2) rfl
  have b0:=Blk.frozen HO.out 0;have b1:=Blk.frozen HO.out 1;have b2:=Blk.frozen HO.out 2
  go_wp2_with fail
  go_region
  go_wp2_with fail
  refine bodyPost_ret (v:=.tuple #[.string nm,.int .i64 ((p+4+k+1:Nat):Int),.agg #[.int .i64 0,.int .i64 0,.int .i64 0]]) ?_ rfl ⟨by rw [HNM.out];rfl,?_⟩
  · simp [results,Tryz.results98,go_sem,a0,a1,a2]
  · exact (((B.out.setCell (by simp) _).setCell (by simp) _).setCell (by simp) _).drew
theorem scan_name_three_none (s:ByteArray) (p:Nat) (w:World) (hp:p≤s.size) (hs:s.size≤1000000000000000) (h4:stands s p [40,63,80,60]=false) (h3:stands s p [40,63,60]=true) (hk:Lib.indexByte (s.data.toList.drop (p+3)) 62 = -1) :
    Calls Tryz.prog 98 #[.string s,.int .i64 (p:Int)] w fun e w'=>e = .returned (nameV p (.error (endP s p)))∧Below w.heap.size w w':=by
  have HK:=hid hk;clear hk
  have HQ:=stands_le (p:=⟨#[40,63,60]⟩) hp h3
  have HQ2:p+3≤s.size:=HQ
  clear HQ
  have H4:=hid h4;clear h4
  have H3:=hid h3;clear h3
  go_enter Tryz.func98, Tryz.ntmps98
  go_wp2_with fail
  have hO:=(Blk.new w [.int .i64 0,.int .i64 0,.int .i64 0] 32).alloc (.cells #[.string s,.int .i64 (p:Int)] 140)
  have hR:=Blk.new (w.alloc (.cells #[.int .i64 0,.int .i64 0,.int .i64 0] 32)) [.string s,.int .i64 (p:Int)] 140
  rw [World.size_alloc] at hR
  have hB:=((Below.refl _ w).alloc (Nat.le_refl _) (.cells #[.int .i64 0,.int .i64 0,.int .i64 0] 32)).alloc (by simp) (.cells #[.string s,.int .i64 (p:Int)] 140)
  obtain ⟨w0,hw0⟩:∃ w0,(w.alloc (.cells #[.int .i64 0,.int .i64 0,.int .i64 0] 32)).alloc (.cells #[.string s,.int .i64 (p:Int)] 140)=w0:=⟨_,rfl⟩
  have hz:w0.heap.size=w.heap.size+1+1:=by rw [← hw0];simp
  have HZ:=hid hz;clear hz
  rw [hw0] at hO hR hB ⊢
  clear hw0
  have HR0:=hid (show Rd w0 (w.heap.size+1) s p [] 140 from hR);have HO0:=hid hO;have B0:=hid hB
  clear hO hR hB
  refine (scan_has_no _ s ⟨#[40,63,80,60]⟩ p [] _ _ HR0.out hp H4.out).mono ?_
  rintro e w1 ⟨rfl,hR1,hG1⟩
  have HR1:=hid hR1;have HO1:=hid (HO0.out.grown hG1 (ne_some (by omega)));have B1:=hid (below_next B0.out (Nat.le_refl _) hG1 (fun k e=>by cases e;omega));clear hR1 hG1
  go_wp2_with fail
  refine (scan_has_yes _ s ⟨#[40,63,60]⟩ p [] _ _ HR1.out hp (by omega) H3.out).mono ?_
  rintro e w2 ⟨rfl,hR1,hG1⟩
  have HR2:=hid hR1;have HO2:=hid (HO1.out.grown hG1 (ne_some (by omega)));have B2:=hid (below_next B1.out (Nat.le_refl _) hG1 (fun k e=>by cases e;omega));clear hR1 hG1
  go_wp2_with fail
  refine (scan_until_no _ s 62 (p+3) [] _ _ HR2.out HQ2 conv62 HK.out).mono ?_
  rintro e W ⟨rfl,hR1,hG1⟩
  have HR:=hid hR1;have HO:=hid (HO2.out.grown hG1 (ne_some (by omega)));have B:=hid (below_next B2.out (Nat.le_refl _) hG1 (fun k e=>by cases e;omega));clear hR1 hG1
  clear HR0 HR1 HO0 HO1 B0 B1 HR2 HO2 B2
  have r1:=HR.out.c1
  have rf:=HR.out.f1
  go_wp2_with fail
  have HRm:=hid (HR.out.move p)
  have HOm:=hid (HO.out.grown (grownBy_setCell W (w.heap.size+1) 1 (.int .i64 (p:Int))) (ne_some (by omega)))
  have Bm:=hid (B.out.setCell (p:=⟨w.heap.size+1,1,none⟩) (by simp) (.int .i64 (p:Int)))
  clear r1 rf
  by_cases hj:0≤Lib.indexByte (s.data.toList.drop p) 62
  · obtain ⟨j,hj2⟩:∃ j:Nat,Lib.indexByte (s.data.toList.drop p) 62=j:=⟨(Lib.indexByte (s.data.toList.drop p) 62).toNat,by omega⟩
    have HEnd:=hid (show endP s p=p+j+1 by unfold endP;rw [if_pos hj,hj2];simp)
    have hjl:=indexByte_lt hj2
    have hjl2:j < s.size - p:=by simpa using hjl
    clear hj hjl
    refine (scan_until_yes _ s 62 p j [] _ _ HRm.out hp (by omega) conv62 hj2).mono ?_
    clear hj2
    rintro e w5 ⟨rfl,hR,hG⟩
    have a0:=Blk.cell (HOm.out.grown hG (ne_some (by omega))) (j:=0) rfl;have a1:=Blk.cell (HOm.out.grown hG (ne_some (by omega))) (j:=1) rfl;have a2:=Blk.cell (HOm.out.grown hG (ne_some (by omega))) (j:=2) rfl
    have b0:=Blk.frozen (HOm.out.grown hG (ne_some (by omega))) 0;have b1:=Blk.frozen (HOm.out.grown hG (ne_some (by omega))) 1;have b2:=Blk.frozen (HOm.out.grown hG (ne_some (by omega))) 2
    have r1:=hR.c1
    have B5:=hid (below_next Bm.out (Nat.le_refl _) hG (fun k e=>by cases e;omega))
    clear hR hG
    go_wp2_with fail
    go_region
    go_wp2_with fail
    refine bodyPost_ret (v:=.tuple #[.string ⟨#[]⟩,.int .i64 0,.agg #[.int .i64 64,.int .i64 (p:Int),.int .i64 ((p+j+1:Nat):Int)]]) ?_ rfl ⟨by rw [HEnd.out];rfl,?_⟩
    · simp [results,Tryz.results98,go_sem,a0,a1,a2]
    · exact (((B5.out.setCell (by simp) _).setCell (by simp) _).setCell (by simp) _).drew
  · have hj2:Lib.indexByte (s.data.toList.drop p) 62 = -1:=by have:=Lib.indexByte_ge (s.data.toList.drop p) 62;omega
    have HEnd:=hid (show endP s p=s.size by unfold endP;rw [if_neg hj])
    clear hj
    refine (scan_until_no _ s 62 p [] _ _ HRm.out hp conv62 hj2).mono ?_
    clear hj2
    rintro e w5 ⟨rfl,hR,hG⟩
    have HO5:=hid (HOm.out.grown hG (ne_some (by omega)))
    have r1:=hR.c1
    have rf:=hR.f1
    have B5:=hid (below_next Bm.out (Nat.le_refl _) hG (fun k e=>by cases e;omega))
    have HR5:=hid hR
    clear hR hG
    have HO6:=HO5.out.grown (grownBy_setCell w5 (w.heap.size+1) 1 (.int .i64 (s.size:Int))) (ne_some (by omega))
    have a0:=Blk.cell HO6 (j:=0) rfl;have a1:=Blk.cell HO6 (j:=1) rfl;have a2:=Blk.cell HO6 (j:=2) rfl
    have b0:=Blk.frozen HO6 0;have b1:=Blk.frozen HO6 1;have b2:=Blk.frozen HO6 2
    have r2:=(HR5.out.move s.size).c1
    clear HO6
    go_wp2_with fail
    go_region
    go_wp2_with fail
    refine bodyPost_ret (v:=.tuple #[.string ⟨#[]⟩,.int .i64 0,.agg #[.int .i64 64,.int .i64 (p:Int),.int .i64 (s.size:Int)]]) ?_ rfl ⟨by rw [HEnd.out];rfl,?_⟩
    · simp [results,Tryz.results98,go_sem,a0,a1,a2]
    · exact ((((B5.out.setCell (by simp) _).setCell (by simp) _).setCell (by simp) _).setCell (by simp) _).drew
theorem scan_name_three_bad (s:ByteArray) (p k:Nat) (w:World) (hp:p≤s.size) (hs:s.size≤1000000000000000) (h4:stands s p [40,63,80,60]=false) (h3:stands s p [40,63,60]=true) (hk:Lib.indexByte (s.data.toList.drop (p+3)) 62=k) (hb:nameB (s.extract (p+3) (p+3+k))=false) :
    Calls Tryz.prog 98 #[.string s,.int .i64 (p:Int)] w fun e w'=>e = .returned (nameV p (.error (endP s p)))∧Below w.heap.size w w':=by
  have HK:=hid hk;clear hk
  have HQ:=stands_le (p:=⟨#[40,63,60]⟩) hp h3
  have HQ2:p+3≤s.size:=HQ
  clear HQ
  have H4:=hid h4;clear h4
  have H3:=hid h3;clear h3
  go_enter Tryz.func98, Tryz.ntmps98
  go_wp2_with fail
  have hO:=(Blk.new w [.int .i64 0,.int .i64 0,.int .i64 0] 32).alloc (.cells #[.string s,.int .i64 (p:Int)] 140)
  have hR:=Blk.new (w.alloc (.cells #[.int .i64 0,.int .i64 0,.int .i64 0] 32)) [.string s,.int .i64 (p:Int)] 140
  rw [World.size_alloc] at hR
  have hB:=((Below.refl _ w).alloc (Nat.le_refl _) (.cells #[.int .i64 0,.int .i64 0,.int .i64 0] 32)).alloc (by simp) (.cells #[.string s,.int .i64 (p:Int)] 140)
  obtain ⟨w0,hw0⟩:∃ w0,(w.alloc (.cells #[.int .i64 0,.int .i64 0,.int .i64 0] 32)).alloc (.cells #[.string s,.int .i64 (p:Int)] 140)=w0:=⟨_,rfl⟩
  have hz:w0.heap.size=w.heap.size+1+1:=by rw [← hw0];simp
  have HZ:=hid hz;clear hz
  rw [hw0] at hO hR hB ⊢
  clear hw0
  have HR0:=hid (show Rd w0 (w.heap.size+1) s p [] 140 from hR);have HO0:=hid hO;have B0:=hid hB
  clear hO hR hB
  refine (scan_has_no _ s ⟨#[40,63,80,60]⟩ p [] _ _ HR0.out hp H4.out).mono ?_
  rintro e w1 ⟨rfl,hR1,hG1⟩
  have HR1:=hid hR1;have HO1:=hid (HO0.out.grown hG1 (ne_some (by omega)));have B1:=hid (below_next B0.out (Nat.le_refl _) hG1 (fun k e=>by cases e;omega));clear hR1 hG1
  go_wp2_with fail
  refine (scan_has_yes _ s ⟨#[40,63,60]⟩ p [] _ _ HR1.out hp (by omega) H3.out).mono ?_
  rintro e w2 ⟨rfl,hR1,hG1⟩
  have HR2:=hid hR1;have HO2:=hid (HO1.out.grown hG1 (ne_some (by omega)));have B2:=hid (below_next B1.out (Nat.le_refl _) hG1 (fun k e=>by cases e;omega));clear hR1 hG1
  go_wp2_with fail
  refine (scan_until_yes _ s 62 (p+3) k [] _ _ HR2.out HQ2 (by omega) conv62 HK.out).mono ?_
  rintro e w6 ⟨rfl,hR1,hG1⟩
  have HR6:=hid hR1;have HO6:=hid (HO2.out.grown hG1 (ne_some (by omega)));have B6:=hid (below_next B2.out (Nat.le_refl _) hG1 (fun k e=>by cases e;omega));clear hR1 hG1
  obtain ⟨nm,hnm⟩:∃ nm,nm=s.extract (p+3) (p+3+k):=⟨_,rfl⟩
  rw [← hnm] at hb ⊢
  have HNM:=hid hnm;clear hnm
  go_wp2_with fail
  have hk0:=Blk.new w6 [.int .i64 2,.slice none 0 0,.int .i32 0,.slice none 0 0,.int .i64 0,.int .i64 0,.string ⟨#[]⟩,.int .i64 0,.int .i64 0,.bool false] 29
  refine (caps_name _ w6.heap.size nm (by simp) hk0).mono ?_
  rintro e W ⟨A,c,rfl,hB⟩
  have hB7:Below w6.heap.size w6 W:=((Below.refl _ w6).alloc (Nat.le_refl _) _).trans (hB.mono (by simp))
  have HR:=hid (show Rd W (w.heap.size+1) s (p+3+k+1) [] 140 from Blk.below HR6.out hB7 HR6.out.lt);have HO:=hid (HO6.out.below hB7 HO6.out.lt);have B:=hid (below_then B6.out (hB7.mono (Nat.le_refl _)):Below w.heap.size w W)
  clear hB hB7 hk0 HR0 HR1 HO0 HO1 B0 B1 HR6 HO6 B6 HR2 HO2 B2
  by_cases hn:nm.size=0
  · obtain rfl:=size_zero hn
    have hl:capsLen ⟨#[]⟩=2:=by decide
    rw [hl]
    clear hl hb hn
    have r1:=HR.out.c1
    have rf:=HR.out.f1
    go_wp2_with fail
    have HRm:=hid (HR.out.move p)
    have HOm:=hid (HO.out.grown (grownBy_setCell W (w.heap.size+1) 1 (.int .i64 (p:Int))) (ne_some (by omega)))
    have Bm:=hid (B.out.setCell (p:=⟨w.heap.size+1,1,none⟩) (by simp) (.int .i64 (p:Int)))
    clear r1 rf
    by_cases hj:0≤Lib.indexByte (s.data.toList.drop p) 62
    · obtain ⟨j,hj2⟩:∃ j:Nat,Lib.indexByte (s.data.toList.drop p) 62=j:=⟨(Lib.indexByte (s.data.toList.drop p) 62).toNat,by omega⟩
      have HEnd:=hid (show endP s p=p+j+1 by unfold endP;rw [if_pos hj,hj2];simp)
      have hjl:=indexByte_lt hj2
      have hjl2:j < s.size - p:=by simpa using hjl
      clear hj hjl
      refine (scan_until_yes _ s 62 p j [] _ _ HRm.out hp (by omega) conv62 hj2).mono ?_
      clear hj2
      rintro e w5 ⟨rfl,hR,hG⟩
      have a0:=Blk.cell (HOm.out.grown hG (ne_some (by omega))) (j:=0) rfl;have a1:=Blk.cell (HOm.out.grown hG (ne_some (by omega))) (j:=1) rfl;have a2:=Blk.cell (HOm.out.grown hG (ne_some (by omega))) (j:=2) rfl
      have b0:=Blk.frozen (HOm.out.grown hG (ne_some (by omega))) 0;have b1:=Blk.frozen (HOm.out.grown hG (ne_some (by omega))) 1;have b2:=Blk.frozen (HOm.out.grown hG (ne_some (by omega))) 2
      have r1:=hR.c1
      have B5:=hid (below_next Bm.out (Nat.le_refl _) hG (fun k e=>by cases e;omega))
      clear hR hG
      go_wp2_with fail
      go_region
      go_wp2_with fail
      refine bodyPost_ret (v:=.tuple #[.string ⟨#[]⟩,.int .i64 0,.agg #[.int .i64 64,.int .i64 (p:Int),.int .i64 ((p+j+1:Nat):Int)]]) ?_ rfl ⟨by rw [HEnd.out];rfl,?_⟩
      · simp [results,Tryz.results98,go_sem,a0,a1,a2]
      · exact (((B5.out.setCell (by simp) _).setCell (by simp) _).setCell (by simp) _).drew
    · have hj2:Lib.indexByte (s.data.toList.drop p) 62 = -1:=by have:=Lib.indexByte_ge (s.data.toList.drop p) 62;omega
      have HEnd:=hid (show endP s p=s.size by unfold endP;rw [if_neg hj])
      clear hj
      refine (scan_until_no _ s 62 p [] _ _ HRm.out hp conv62 hj2).mono ?_
      clear hj2
      rintro e w5 ⟨rfl,hR,hG⟩
      have HO5:=hid (HOm.out.grown hG (ne_some (by omega)))
      have r1:=hR.c1
      have rf:=hR.f1
      have B5:=hid (below_next Bm.out (Nat.le_refl _) hG (fun k e=>by cases e;omega))
      have HR5:=hid hR
      clear hR hG
      have HO6:=HO5.out.grown (grownBy_setCell w5 (w.heap.size+1) 1 (.int .i64 (s.size:Int))) (ne_some (by omega))
      have a0:=Blk.cell HO6 (j:=0) rfl;have a1:=Blk.cell HO6 (j:=1) rfl;have a2:=Blk.cell HO6 (j:=2) rfl
      have b0:=Blk.frozen HO6 0;have b1:=Blk.frozen HO6 1;have b2:=Blk.frozen HO6 2
      have r2:=(HR5.out.move s.size).c1
      clear HO6
      go_wp2_with fail
      go_region
      go_wp2_with fail
      refine bodyPost_ret (v:=.tuple #[.string ⟨#[]⟩,.int .i64 0,.agg #[.int .i64 64,.int .i64 (p:Int),.int .i64 (s.size:Int)]]) ?_ rfl ⟨by rw [HEnd.out];rfl,?_⟩
      · simp [results,Tryz.results98,go_sem,a0,a1,a2]
      · exact ((((B5.out.setCell (by simp) _).setCell (by simp) _).setCell (by simp) _).setCell (by simp) _).drew
  · have hn2:=list_nil hn
    have hn3:=list_ne hn
    have hl:capsLen nm=0:=by unfold capsLen;rw [hb,decide_eq_false hn];rfl
    rw [hl]
    clear hl hb hn
    have r1:=HR.out.c1
    have rf:=HR.out.f1
    go_wp2_with fail
    have HRm:=hid (HR.out.move p)
    have HOm:=hid (HO.out.grown (grownBy_setCell W (w.heap.size+1) 1 (.int .i64 (p:Int))) (ne_some (by omega)))
    have Bm:=hid (B.out.setCell (p:=⟨w.heap.size+1,1,none⟩) (by simp) (.int .i64 (p:Int)))
    clear r1 rf
    by_cases hj:0≤Lib.indexByte (s.data.toList.drop p) 62
    · obtain ⟨j,hj2⟩:∃ j:Nat,Lib.indexByte (s.data.toList.drop p) 62=j:=⟨(Lib.indexByte (s.data.toList.drop p) 62).toNat,by omega⟩
      have HEnd:=hid (show endP s p=p+j+1 by unfold endP;rw [if_pos hj,hj2];simp)
      have hjl:=indexByte_lt hj2
      have hjl2:j < s.size - p:=by simpa using hjl
      clear hj hjl
      refine (scan_until_yes _ s 62 p j [] _ _ HRm.out hp (by omega) conv62 hj2).mono ?_
      clear hj2
      rintro e w5 ⟨rfl,hR,hG⟩
      have a0:=Blk.cell (HOm.out.grown hG (ne_some (by omega))) (j:=0) rfl;have a1:=Blk.cell (HOm.out.grown hG (ne_some (by omega))) (j:=1) rfl;have a2:=Blk.cell (HOm.out.grown hG (ne_some (by omega))) (j:=2) rfl
      have b0:=Blk.frozen (HOm.out.grown hG (ne_some (by omega))) 0;have b1:=Blk.frozen (HOm.out.grown hG (ne_some (by omega))) 1;have b2:=Blk.frozen (HOm.out.grown hG (ne_some (by omega))) 2
      have r1:=hR.c1
      have B5:=hid (below_next Bm.out (Nat.le_refl _) hG (fun k e=>by cases e;omega))
      clear hR hG
      go_wp2_with fail
      go_region
      go_wp2_with fail
      refine bodyPost_ret (v:=.tuple #[.string ⟨#[]⟩,.int .i64 0,.agg #[.int .i64 64,.int .i64 (p:Int),.int .i64 ((p+j+1:Nat):Int)]]) ?_ rfl ⟨by rw [HEnd.out];rfl,?_⟩
      · simp [results,Tryz.results98,go_sem,a0,a1,a2]
      · exact (((B5.out.setCell (by simp) _).setCell (by simp) _).setCell (by simp) _).drew
    · have hj2:Lib.indexByte (s.data.toList.drop p) 62 = -1:=by have:=Lib.indexByte_ge (s.data.toList.drop p) 62;omega
      have HEnd:=hid (show endP s p=s.size by unfold endP;rw [if_neg hj])
      clear hj
      refine (scan_until_no _ s 62 p [] _ _ HRm.out hp conv62 hj2).mono ?_
      clear hj2
      rintro e w5 ⟨rfl,hR,hG⟩
      have HO5:=hid (HOm.out.grown hG (ne_some (by omega)))
      have r1:=hR.c1
      have rf:=hR.f1
      have B5:=hid (below_next Bm.out (Nat.le_refl _) hG (fun k e=>by cases e;omega))
      have HR5:=hid hR
      clear hR hG
      have HO6:=HO5.out.grown (grownBy_setCell w5 (w.heap.size+1) 1 (.int .i64 (s.size:Int))) (ne_some (by omega))
      have a0:=Blk.cell HO6 (j:=0) rfl;have a1:=Blk.cell HO6 (j:=1) rfl;have a2:=Blk.cell HO6 (j:=2) rfl
      have b0:=Blk.frozen HO6 0;have b1:=Blk.frozen HO6 1;have b2:=Blk.frozen HO6 2
      have r2:=(HR5.out.move s.size).c1
      clear HO6
      go_wp2_with fail
      go_region
      go_wp2_with fail
      refine bodyPost_ret (v:=.tuple #[.string ⟨#[]⟩,.int .i64 0,.agg #[.int .i64 64,.int .i64 (p:Int),.int .i64 (s.size:Int)]]) ?_ rfl ⟨by rw [HEnd.out];rfl,?_⟩
      · simp [results,Tryz.results98,go_sem,a0,a1,a2]
      · exact ((((B5.out.setCell (by simp) _).setCell (by simp) _).setCell (by simp) _).setCell (by simp) _).drew
theorem scan_name_three_good (s:ByteArray) (p k:Nat) (w:World) (hp:p≤s.size) (hs:s.size≤1000000000000000) (h4:stands s p [40,63,80,60]=false) (h3:stands s p [40,63,60]=true) (hk:Lib.indexByte (s.data.toList.drop (p+3)) 62=k) (hb:nameB (s.extract (p+3) (p+3+k))=true) :
    Calls Tryz.prog 98 #[.string s,.int .i64 (p:Int)] w fun e w'=>e = .returned (nameV p (.ok (s.extract (p+3) (p+3+k),p+3+k+1)))∧Below w.heap.size w w':=by
  have HK:=hid hk;clear hk
  have HQ:=stands_le (p:=⟨#[40,63,60]⟩) hp h3
  have HQ2:p+3≤s.size:=HQ
  clear HQ
  have H4:=hid h4;clear h4
  have H3:=hid h3;clear h3
  go_enter Tryz.func98, Tryz.ntmps98
  go_wp2_with fail
  have hO:=(Blk.new w [.int .i64 0,.int .i64 0,.int .i64 0] 32).alloc (.cells #[.string s,.int .i64 (p:Int)] 140)
  have hR:=Blk.new (w.alloc (.cells #[.int .i64 0,.int .i64 0,.int .i64 0] 32)) [.string s,.int .i64 (p:Int)] 140
  rw [World.size_alloc] at hR
  have hB:=((Below.refl _ w).alloc (Nat.le_refl _) (.cells #[.int .i64 0,.int .i64 0,.int .i64 0] 32)).alloc (by simp) (.cells #[.string s,.int .i64 (p:Int)] 140)
  obtain ⟨w0,hw0⟩:∃ w0,(w.alloc (.cells #[.int .i64 0,.int .i64 0,.int .i64 0] 32)).alloc (.cells #[.string s,.int .i64 (p:Int)] 140)=w0:=⟨_,rfl⟩
  have hz:w0.heap.size=w.heap.size+1+1:=by rw [← hw0];simp
  have HZ:=hid hz;clear hz
  rw [hw0] at hO hR hB ⊢
  clear hw0
  have HR0:=hid (show Rd w0 (w.heap.size+1) s p [] 140 from hR);have HO0:=hid hO;have B0:=hid hB
  clear hO hR hB
  refine (scan_has_no _ s ⟨#[40,63,80,60]⟩ p [] _ _ HR0.out hp H4.out).mono ?_
  rintro e w1 ⟨rfl,hR1,hG1⟩
  have HR1:=hid hR1;have HO1:=hid (HO0.out.grown hG1 (ne_some (by omega)));have B1:=hid (below_next B0.out (Nat.le_refl _) hG1 (fun k e=>by cases e;omega));clear hR1 hG1
  go_wp2_with fail
  refine (scan_has_yes _ s ⟨#[40,63,60]⟩ p [] _ _ HR1.out hp (by omega) H3.out).mono ?_
  rintro e w2 ⟨rfl,hR1,hG1⟩
  have HR2:=hid hR1;have HO2:=hid (HO1.out.grown hG1 (ne_some (by omega)));have B2:=hid (below_next B1.out (Nat.le_refl _) hG1 (fun k e=>by cases e;omega));clear hR1 hG1
  go_wp2_with fail
  refine (scan_until_yes _ s 62 (p+3) k [] _ _ HR2.out HQ2 (by omega) conv62 HK.out).mono ?_
  rintro e w6 ⟨rfl,hR1,hG1⟩
  have HR6:=hid hR1;have HO6:=hid (HO2.out.grown hG1 (ne_some (by omega)));have B6:=hid (below_next B2.out (Nat.le_refl _) hG1 (fun k e=>by cases e;omega));clear hR1 hG1
  obtain ⟨nm,hnm⟩:∃ nm,nm=s.extract (p+3) (p+3+k):=⟨_,rfl⟩
  rw [← hnm] at hb ⊢
  have HNM:=hid hnm;clear hnm
  go_wp2_with fail
  have hk0:=Blk.new w6 [.int .i64 2,.slice none 0 0,.int .i32 0,.slice none 0 0,.int .i64 0,.int .i64 0,.string ⟨#[]⟩,.int .i64 0,.int .i64 0,.bool false] 29
  refine (caps_name _ w6.heap.size nm (by simp) hk0).mono ?_
  rintro e W ⟨A,c,rfl,hB⟩
  have hB7:Below w6.heap.size w6 W:=((Below.refl _ w6).alloc (Nat.le_refl _) _).trans (hB.mono (by simp))
  have HR:=hid (show Rd W (w.heap.size+1) s (p+3+k+1) [] 140 from Blk.below HR6.out hB7 HR6.out.lt);have HO:=hid (HO6.out.below hB7 HO6.out.lt);have B:=hid (below_then B6.out (hB7.mono (Nat.le_refl _)):Below w.heap.size w W)
  clear hB hB7 hk0 HR0 HR1 HO0 HO1 B0 B1 HR6 HO6 B6 HR2 HO2 B2
  have hn:¬ nm.size=0:=fun h=>by rw [size_zero h] at hb;revert hb;decide
  have hn2:=list_nil hn
  have hn3:=list_ne hn
  have hl:capsLen nm=2:=by unfold capsLen;rw [hb];simp
  rw [hl]
  clear hl hb hn
  have r1:=HR.out.c1
  have a0:=Blk.cell HO.out (j:=0) rfl;have a1:=Blk.cell HO.out (j:=1) rfl;have a2:=Blk.cell HO.out (j:=2) rfl
  have b0:=Blk.frozen HO.out 0;have b1:=Blk.frozen HO.out 1;have b2:=Blk.frozen HO.out 2
  go_wp2_with fail
  go_region
  go_wp2_with fail
  refine bodyPost_ret (v:=.tuple #[.string nm,.int .i64 ((p+3+k+1:Nat):Int),.agg #[.int .i64 0,.int .i64 0,.int .i64 0]]) ?_ rfl ⟨by rw [HNM.out];rfl,?_⟩
  · simp [results,Tryz.results98,go_sem,a0,a1,a2]
  · exact (((B.out.setCell (by simp) _).setCell (by simp) _).setCell (by simp) _).drew
end Go.Proofs.YtnhnldmldnhaoaaGreatDoor
