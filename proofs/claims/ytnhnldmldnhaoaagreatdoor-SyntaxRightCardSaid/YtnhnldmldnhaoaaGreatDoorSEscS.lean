/- An escape of a sign. -/
import Derived.Test.YtnhnldmldnhaoaaGreatDoorSHead06
set_option maxRecDepth 100000
set_option maxHeartbeats 16000000
open Go.Lib (hid)
namespace Go.Proofs.YtnhnldmldnhaoaaGreatDoor
open Go Go.RowKit Go.Proofs
def isSign (c:Int):Prop:=33≤c∧c≤47∨58≤c∧c≤64∨91≤c∧c≤96∨123≤c∧c≤126
theorem escape_sign0 (s:ByteArray) (p:Nat) (b:Bool) (c:UInt8) (w:World) (hs:s.size≤140737488355328) (hp:p+2≤s.size) (c0:stands s p [92]=true) (c1:s.data.toList[p+1]? = some c) (hc:33≤c.toNat∧c.toNat≤47) :
    Calls Tryz.prog 103 #[.string s,.int .i64 p,.bool b] w fun e w'=>
      e = .returned (.tuple #[.agg #[.int .i64 1,.int .i32 c.toNat,.slice none 0 0,.int .i64 0],.int .i64 (p+1+1:Nat),.agg #[.int .i64 0,.int .i64 0,.int .i64 0]])∧Below w.heap.size w w':=by
  have hs':s.size≤1000000000000000:=by omega
  obtain ⟨bA,bC,bR,bO⟩:=esc_blocks w s p 150 32 189
  have A0:=hid bA;have C0:=hid bC;have O0:=hid bO
  have R0:=hid (show Rd _ (w.heap.size+1+1) s p [.int .i64 p] 189 from bR)
  clear bA bC bR bO
  go_enter Tryz.func103, Tryz.ntmps103
  go_wp2_with fail
  go_step3
  go_wp2_with fail
  refine (scan_has_yes _ _ ⟨#[92]⟩ p _ _ _ R0.out (by omega) hs' c0).mono ?_
  rintro e w1 ⟨rfl,hR,hG⟩
  have A1:=hid (A0.out.grown hG (ne_some (by omega)));have C1:=hid (C0.out.grown hG (ne_some (by omega)));have O1:=hid (O0.out.grown hG (ne_some (by omega)))
  have R1:=hid hR;have G1:=hid hG;clear hR hG
  go_wp2_with fail
  refine (scan_next_ascii _ _ (p+1) c _ _ _ R1.out (by omega) c1 (by omega) hs').mono ?_
  rintro e w2 ⟨rfl,hR,hG⟩
  have A2:=hid (A1.out.grown hG (ne_some (by omega)));have C2:=hid (C1.out.grown hG (ne_some (by omega)));have O2:=hid (O1.out.grown hG (ne_some (by omega)))
  have R2:=hid hR;have G2:=hid (grownBy_trans G1.out hG);clear hR hG
  have g1:=Rd.c1 R2.out
  have A4:=A2;have C4:=C2;have O4:=O2;have R4:=R2;have G4:=G2
  obtain ⟨C,hC⟩:∃ C:Int,C=(c.toNat:Int):=⟨_,rfl⟩
  have hc:(33:Int)≤C∧C≤47:=by omega
  rw [← hC]
  have HC:=hid hC
  clear hC
  obtain ⟨hc1,hc2⟩:=hc
  have e0:(C == -1)=false:=by simp;omega
  have f1:32 < C:=by omega
  have f1b:decide (32 < C)=true:=by simp;omega
  have f2:C < 127:=by omega
  have f2b:decide (C < 127)=true:=by simp;omega
  have f3:¬ 48≤C:=by omega
  have f3b:decide (48≤C)=false:=by simp;omega
  have f4:C≤57:=by omega
  have f4b:decide (C≤57)=true:=by simp;omega
  have f5:¬ 97≤C:=by omega
  have f5b:decide (97≤C)=false:=by simp;omega
  have f6:C≤122:=by omega
  have f6b:decide (C≤122)=true:=by simp;omega
  have f7:¬ 65≤C:=by omega
  have f7b:decide (65≤C)=false:=by simp;omega
  have f8:C≤90:=by omega
  have f8b:decide (C≤90)=true:=by simp;omega
  clear hc1 hc2
  have o0:=Blk.cell O4.out (j:=0) rfl;have o1:=Blk.cell O4.out (j:=1) rfl;have o2:=Blk.cell O4.out (j:=2) rfl;have o3:=Blk.cell O4.out (j:=3) rfl
  have p0:=O4.out.frozen 0;have p1:=O4.out.frozen 1;have p2:=O4.out.frozen 2;have p3:=O4.out.frozen 3
  go_wp2_with fail
  clear g1
  obtain ⟨W5,hW5⟩:∃ W5,W5=World.set4 w2 (w.heap.size+1+1+1) (.int .i64 1) (.int .i32 C) (.slice none 0 0) (.int .i64 0):=⟨_,rfl⟩
  have O5:=O4.out.set4 (.int .i64 1) (.int .i32 C) (.slice none 0 0) (.int .i64 0)
  have A5:=A4.out.set4_other (b:=w.heap.size+1+1+1) (by omega) (.int .i64 1) (.int .i32 C) (.slice none 0 0) (.int .i64 0)
  have C5:=C4.out.set4_other (b:=w.heap.size+1+1+1) (by omega) (.int .i64 1) (.int .i32 C) (.slice none 0 0) (.int .i64 0)
  have R5:=Blk.set4_other (b:=w.heap.size+1+1+1) R4.out (by omega) (.int .i64 1) (.int .i32 C) (.slice none 0 0) (.int .i64 0)
  have G5:=grownBy_set4 w2 (w.heap.size+1+1+1) (.int .i64 1) (.int .i32 C) (.slice none 0 0) (.int .i64 0)
  change Code.wp _ _ _ _ (World.set4 w2 (w.heap.size+1+1+1) (.int .i64 1) (.int .i32 C) (.slice none 0 0) (.int .i64 0))
  rw [← hW5] at O5 A5 C5 R5 G5 ⊢
  clear hW5 o0 o1 o2 o3 p0 p1 p2 p3
  have o0:=Blk.cell O5 (j:=0) rfl;have o1:=Blk.cell O5 (j:=1) rfl;have o2:=Blk.cell O5 (j:=2) rfl;have o3:=Blk.cell O5 (j:=3) rfl
  have r1:=Blk.cell R5 (j:=1) rfl
  have a0:=Blk.cell A5 (j:=0) rfl;have a1:=Blk.cell A5 (j:=1) rfl;have a2:=Blk.cell A5 (j:=2) rfl;have a3:=Blk.cell A5 (j:=3) rfl
  have b0:=A5.frozen 0;have b1:=A5.frozen 1;have b2:=A5.frozen 2;have b3:=A5.frozen 3
  have c0:=Blk.cell C5 (j:=0) rfl;have c1:=Blk.cell C5 (j:=1) rfl;have c2:=Blk.cell C5 (j:=2) rfl
  have d0:=C5.frozen 0;have d1:=C5.frozen 1;have d2:=C5.frozen 2
  have HO5:=hid O5;have HA5:=hid A5;have HC5:=hid C5;have HR5:=hid R5;have HG5:=hid G5
  clear O5 A5 C5 R5 G5
  go_region
  go_wp2_with fail
  rw [Exit.noGoto_ret]
  refine bodyPost_ret (v:=.tuple #[.agg #[.int .i64 1,.int .i32 C,.slice none 0 0,.int .i64 0],.int .i64 (p+1+1:Nat),.agg #[.int .i64 0,.int .i64 0,.int .i64 0]]) ?_ rfl ⟨by rw [HC.out],?_⟩
  · simp [results,Tryz.results103,go_sem,a0,a1,a2,a3,c0,c1,c2]
  · have B0:Below w.heap.size w ((((w.alloc (.cells #[.int .i64 0,.int .i32 0,.slice none 0 0,.int .i64 0] 150)).alloc (.cells #[.int .i64 0,.int .i64 0,.int .i64 0] 32)).alloc (.cells #[.string s,.int .i64 p,.int .i64 p] 189)).alloc (.cells #[.int .i64 0,.int .i32 0,.slice none 0 0,.int .i64 0] 150)):=
      ((((Below.refl _ w).alloc (Nat.le_refl _) _).alloc (by simp) _).alloc (by simp;omega) _).alloc (by simp;omega) _
    have B5:=below_next (below_next B0 (Nat.le_refl _) G4.out (fun k e=>by cases e;omega)) (Nat.le_refl _) HG5.out (fun k e=>by cases e;omega)
    exact (((((((B5.setCell (by simp) _).setCell (by simp) _).setCell (by simp) _).setCell (by simp) _).setCell (by simp) _).setCell (by simp) _).setCell (by simp) _).drew
theorem escape_sign1 (s:ByteArray) (p:Nat) (b:Bool) (c:UInt8) (w:World) (hs:s.size≤140737488355328) (hp:p+2≤s.size) (c0:stands s p [92]=true) (c1:s.data.toList[p+1]? = some c) (hc:58≤c.toNat∧c.toNat≤64) :
    Calls Tryz.prog 103 #[.string s,.int .i64 p,.bool b] w fun e w'=>
      e = .returned (.tuple #[.agg #[.int .i64 1,.int .i32 c.toNat,.slice none 0 0,.int .i64 0],.int .i64 (p+1+1:Nat),.agg #[.int .i64 0,.int .i64 0,.int .i64 0]])∧Below w.heap.size w w':=by
  have hs':s.size≤1000000000000000:=by omega
  obtain ⟨bA,bC,bR,bO⟩:=esc_blocks w s p 150 32 189
  have A0:=hid bA;have C0:=hid bC;have O0:=hid bO
  have R0:=hid (show Rd _ (w.heap.size+1+1) s p [.int .i64 p] 189 from bR)
  clear bA bC bR bO
  go_enter Tryz.func103, Tryz.ntmps103
  go_wp2_with fail
  go_step3
  go_wp2_with fail
  refine (scan_has_yes _ _ ⟨#[92]⟩ p _ _ _ R0.out (by omega) hs' c0).mono ?_
  rintro e w1 ⟨rfl,hR,hG⟩
  have A1:=hid (A0.out.grown hG (ne_some (by omega)));have C1:=hid (C0.out.grown hG (ne_some (by omega)));have O1:=hid (O0.out.grown hG (ne_some (by omega)))
  have R1:=hid hR;have G1:=hid hG;clear hR hG
  go_wp2_with fail
  refine (scan_next_ascii _ _ (p+1) c _ _ _ R1.out (by omega) c1 (by omega) hs').mono ?_
  rintro e w2 ⟨rfl,hR,hG⟩
  have A2:=hid (A1.out.grown hG (ne_some (by omega)));have C2:=hid (C1.out.grown hG (ne_some (by omega)));have O2:=hid (O1.out.grown hG (ne_some (by omega)))
  have R2:=hid hR;have G2:=hid (grownBy_trans G1.out hG);clear hR hG
  have g1:=Rd.c1 R2.out
  have A4:=A2;have C4:=C2;have O4:=O2;have R4:=R2;have G4:=G2
  obtain ⟨C,hC⟩:∃ C:Int,C=(c.toNat:Int):=⟨_,rfl⟩
  have hc:(58:Int)≤C∧C≤64:=by omega
  rw [← hC]
  have HC:=hid hC
  clear hC
  obtain ⟨hc1,hc2⟩:=hc
  have e0:(C == -1)=false:=by simp;omega
  have f1:32 < C:=by omega
  have f1b:decide (32 < C)=true:=by simp;omega
  have f2:C < 127:=by omega
  have f2b:decide (C < 127)=true:=by simp;omega
  have f3:48≤C:=by omega
  have f3b:decide (48≤C)=true:=by simp;omega
  have f4:¬ C≤57:=by omega
  have f4b:decide (C≤57)=false:=by simp;omega
  have f5:¬ 97≤C:=by omega
  have f5b:decide (97≤C)=false:=by simp;omega
  have f6:C≤122:=by omega
  have f6b:decide (C≤122)=true:=by simp;omega
  have f7:¬ 65≤C:=by omega
  have f7b:decide (65≤C)=false:=by simp;omega
  have f8:C≤90:=by omega
  have f8b:decide (C≤90)=true:=by simp;omega
  clear hc1 hc2
  have o0:=Blk.cell O4.out (j:=0) rfl;have o1:=Blk.cell O4.out (j:=1) rfl;have o2:=Blk.cell O4.out (j:=2) rfl;have o3:=Blk.cell O4.out (j:=3) rfl
  have p0:=O4.out.frozen 0;have p1:=O4.out.frozen 1;have p2:=O4.out.frozen 2;have p3:=O4.out.frozen 3
  go_wp2_with fail
  clear g1
  obtain ⟨W5,hW5⟩:∃ W5,W5=World.set4 w2 (w.heap.size+1+1+1) (.int .i64 1) (.int .i32 C) (.slice none 0 0) (.int .i64 0):=⟨_,rfl⟩
  have O5:=O4.out.set4 (.int .i64 1) (.int .i32 C) (.slice none 0 0) (.int .i64 0)
  have A5:=A4.out.set4_other (b:=w.heap.size+1+1+1) (by omega) (.int .i64 1) (.int .i32 C) (.slice none 0 0) (.int .i64 0)
  have C5:=C4.out.set4_other (b:=w.heap.size+1+1+1) (by omega) (.int .i64 1) (.int .i32 C) (.slice none 0 0) (.int .i64 0)
  have R5:=Blk.set4_other (b:=w.heap.size+1+1+1) R4.out (by omega) (.int .i64 1) (.int .i32 C) (.slice none 0 0) (.int .i64 0)
  have G5:=grownBy_set4 w2 (w.heap.size+1+1+1) (.int .i64 1) (.int .i32 C) (.slice none 0 0) (.int .i64 0)
  change Code.wp _ _ _ _ (World.set4 w2 (w.heap.size+1+1+1) (.int .i64 1) (.int .i32 C) (.slice none 0 0) (.int .i64 0))
  rw [← hW5] at O5 A5 C5 R5 G5 ⊢
  clear hW5 o0 o1 o2 o3 p0 p1 p2 p3
  have o0:=Blk.cell O5 (j:=0) rfl;have o1:=Blk.cell O5 (j:=1) rfl;have o2:=Blk.cell O5 (j:=2) rfl;have o3:=Blk.cell O5 (j:=3) rfl
  have r1:=Blk.cell R5 (j:=1) rfl
  have a0:=Blk.cell A5 (j:=0) rfl;have a1:=Blk.cell A5 (j:=1) rfl;have a2:=Blk.cell A5 (j:=2) rfl;have a3:=Blk.cell A5 (j:=3) rfl
  have b0:=A5.frozen 0;have b1:=A5.frozen 1;have b2:=A5.frozen 2;have b3:=A5.frozen 3
  have c0:=Blk.cell C5 (j:=0) rfl;have c1:=Blk.cell C5 (j:=1) rfl;have c2:=Blk.cell C5 (j:=2) rfl
  have d0:=C5.frozen 0;have d1:=C5.frozen 1;have d2:=C5.frozen 2
  have HO5:=hid O5;have HA5:=hid A5;have HC5:=hid C5;have HR5:=hid R5;have HG5:=hid G5
  clear O5 A5 C5 R5 G5
  go_region
  go_wp2_with fail
  rw [Exit.noGoto_ret]
  refine bodyPost_ret (v:=.tuple #[.agg #[.int .i64 1,.int .i32 C,.slice none 0 0,.int .i64 0],.int .i64 (p+1+1:Nat),.agg #[.int .i64 0,.int .i64 0,.int .i64 0]]) ?_ rfl ⟨by rw [HC.out],?_⟩
  · simp [results,Tryz.results103,go_sem,a0,a1,a2,a3,c0,c1,c2]
  · have B0:Below w.heap.size w ((((w.alloc (.cells #[.int .i64 0,.int .i32 0,.slice none 0 0,.int .i64 0] 150)).alloc (.cells #[.int .i64 0,.int .i64 0,.int .i64 0] 32)).alloc (.cells #[.string s,.int .i64 p,.int .i64 p] 189)).alloc (.cells #[.int .i64 0,.int .i32 0,.slice none 0 0,.int .i64 0] 150)):=
      ((((Below.refl _ w).alloc (Nat.le_refl _) _).alloc (by simp) _).alloc (by simp;omega) _).alloc (by simp;omega) _
    have B5:=below_next (below_next B0 (Nat.le_refl _) G4.out (fun k e=>by cases e;omega)) (Nat.le_refl _) HG5.out (fun k e=>by cases e;omega)
    exact (((((((B5.setCell (by simp) _).setCell (by simp) _).setCell (by simp) _).setCell (by simp) _).setCell (by simp) _).setCell (by simp) _).setCell (by simp) _).drew
theorem escape_sign2 (s:ByteArray) (p:Nat) (b:Bool) (c:UInt8) (w:World) (hs:s.size≤140737488355328) (hp:p+2≤s.size) (c0:stands s p [92]=true) (c1:s.data.toList[p+1]? = some c) (hc:91≤c.toNat∧c.toNat≤96) :
    Calls Tryz.prog 103 #[.string s,.int .i64 p,.bool b] w fun e w'=>
      e = .returned (.tuple #[.agg #[.int .i64 1,.int .i32 c.toNat,.slice none 0 0,.int .i64 0],.int .i64 (p+1+1:Nat),.agg #[.int .i64 0,.int .i64 0,.int .i64 0]])∧Below w.heap.size w w':=by
  have hs':s.size≤1000000000000000:=by omega
  obtain ⟨bA,bC,bR,bO⟩:=esc_blocks w s p 150 32 189
  have A0:=hid bA;have C0:=hid bC;have O0:=hid bO
  have R0:=hid (show Rd _ (w.heap.size+1+1) s p [.int .i64 p] 189 from bR)
  clear bA bC bR bO
  go_enter Tryz.func103, Tryz.ntmps103
  go_wp2_with fail
  go_step3
  go_wp2_with fail
  refine (scan_has_yes _ _ ⟨#[92]⟩ p _ _ _ R0.out (by omega) hs' c0).mono ?_
  rintro e w1 ⟨rfl,hR,hG⟩
  have A1:=hid (A0.out.grown hG (ne_some (by omega)));have C1:=hid (C0.out.grown hG (ne_some (by omega)));have O1:=hid (O0.out.grown hG (ne_some (by omega)))
  have R1:=hid hR;have G1:=hid hG;clear hR hG
  go_wp2_with fail
  refine (scan_next_ascii _ _ (p+1) c _ _ _ R1.out (by omega) c1 (by omega) hs').mono ?_
  rintro e w2 ⟨rfl,hR,hG⟩
  have A2:=hid (A1.out.grown hG (ne_some (by omega)));have C2:=hid (C1.out.grown hG (ne_some (by omega)));have O2:=hid (O1.out.grown hG (ne_some (by omega)))
  have R2:=hid hR;have G2:=hid (grownBy_trans G1.out hG);clear hR hG
  have g1:=Rd.c1 R2.out
  have A4:=A2;have C4:=C2;have O4:=O2;have R4:=R2;have G4:=G2
  obtain ⟨C,hC⟩:∃ C:Int,C=(c.toNat:Int):=⟨_,rfl⟩
  have hc:(91:Int)≤C∧C≤96:=by omega
  rw [← hC]
  have HC:=hid hC
  clear hC
  obtain ⟨hc1,hc2⟩:=hc
  have e0:(C == -1)=false:=by simp;omega
  have f1:32 < C:=by omega
  have f1b:decide (32 < C)=true:=by simp;omega
  have f2:C < 127:=by omega
  have f2b:decide (C < 127)=true:=by simp;omega
  have f3:48≤C:=by omega
  have f3b:decide (48≤C)=true:=by simp;omega
  have f4:¬ C≤57:=by omega
  have f4b:decide (C≤57)=false:=by simp;omega
  have f5:¬ 97≤C:=by omega
  have f5b:decide (97≤C)=false:=by simp;omega
  have f6:C≤122:=by omega
  have f6b:decide (C≤122)=true:=by simp;omega
  have f7:65≤C:=by omega
  have f7b:decide (65≤C)=true:=by simp;omega
  have f8:¬ C≤90:=by omega
  have f8b:decide (C≤90)=false:=by simp;omega
  clear hc1 hc2
  have o0:=Blk.cell O4.out (j:=0) rfl;have o1:=Blk.cell O4.out (j:=1) rfl;have o2:=Blk.cell O4.out (j:=2) rfl;have o3:=Blk.cell O4.out (j:=3) rfl
  have p0:=O4.out.frozen 0;have p1:=O4.out.frozen 1;have p2:=O4.out.frozen 2;have p3:=O4.out.frozen 3
  go_wp2_with fail
  clear g1
  obtain ⟨W5,hW5⟩:∃ W5,W5=World.set4 w2 (w.heap.size+1+1+1) (.int .i64 1) (.int .i32 C) (.slice none 0 0) (.int .i64 0):=⟨_,rfl⟩
  have O5:=O4.out.set4 (.int .i64 1) (.int .i32 C) (.slice none 0 0) (.int .i64 0)
  have A5:=A4.out.set4_other (b:=w.heap.size+1+1+1) (by omega) (.int .i64 1) (.int .i32 C) (.slice none 0 0) (.int .i64 0)
  have C5:=C4.out.set4_other (b:=w.heap.size+1+1+1) (by omega) (.int .i64 1) (.int .i32 C) (.slice none 0 0) (.int .i64 0)
  have R5:=Blk.set4_other (b:=w.heap.size+1+1+1) R4.out (by omega) (.int .i64 1) (.int .i32 C) (.slice none 0 0) (.int .i64 0)
  have G5:=grownBy_set4 w2 (w.heap.size+1+1+1) (.int .i64 1) (.int .i32 C) (.slice none 0 0) (.int .i64 0)
  change Code.wp _ _ _ _ (World.set4 w2 (w.heap.size+1+1+1) (.int .i64 1) (.int .i32 C) (.slice none 0 0) (.int .i64 0))
  rw [← hW5] at O5 A5 C5 R5 G5 ⊢
  clear hW5 o0 o1 o2 o3 p0 p1 p2 p3
  have o0:=Blk.cell O5 (j:=0) rfl;have o1:=Blk.cell O5 (j:=1) rfl;have o2:=Blk.cell O5 (j:=2) rfl;have o3:=Blk.cell O5 (j:=3) rfl
  have r1:=Blk.cell R5 (j:=1) rfl
  have a0:=Blk.cell A5 (j:=0) rfl;have a1:=Blk.cell A5 (j:=1) rfl;have a2:=Blk.cell A5 (j:=2) rfl;have a3:=Blk.cell A5 (j:=3) rfl
  have b0:=A5.frozen 0;have b1:=A5.frozen 1;have b2:=A5.frozen 2;have b3:=A5.frozen 3
  have c0:=Blk.cell C5 (j:=0) rfl;have c1:=Blk.cell C5 (j:=1) rfl;have c2:=Blk.cell C5 (j:=2) rfl
  have d0:=C5.frozen 0;have d1:=C5.frozen 1;have d2:=C5.frozen 2
  have HO5:=hid O5;have HA5:=hid A5;have HC5:=hid C5;have HR5:=hid R5;have HG5:=hid G5
  clear O5 A5 C5 R5 G5
  go_region
  go_wp2_with fail
  rw [Exit.noGoto_ret]
  refine bodyPost_ret (v:=.tuple #[.agg #[.int .i64 1,.int .i32 C,.slice none 0 0,.int .i64 0],.int .i64 (p+1+1:Nat),.agg #[.int .i64 0,.int .i64 0,.int .i64 0]]) ?_ rfl ⟨by rw [HC.out],?_⟩
  · simp [results,Tryz.results103,go_sem,a0,a1,a2,a3,c0,c1,c2]
  · have B0:Below w.heap.size w ((((w.alloc (.cells #[.int .i64 0,.int .i32 0,.slice none 0 0,.int .i64 0] 150)).alloc (.cells #[.int .i64 0,.int .i64 0,.int .i64 0] 32)).alloc (.cells #[.string s,.int .i64 p,.int .i64 p] 189)).alloc (.cells #[.int .i64 0,.int .i32 0,.slice none 0 0,.int .i64 0] 150)):=
      ((((Below.refl _ w).alloc (Nat.le_refl _) _).alloc (by simp) _).alloc (by simp;omega) _).alloc (by simp;omega) _
    have B5:=below_next (below_next B0 (Nat.le_refl _) G4.out (fun k e=>by cases e;omega)) (Nat.le_refl _) HG5.out (fun k e=>by cases e;omega)
    exact (((((((B5.setCell (by simp) _).setCell (by simp) _).setCell (by simp) _).setCell (by simp) _).setCell (by simp) _).setCell (by simp) _).setCell (by simp) _).drew
theorem escape_sign3 (s:ByteArray) (p:Nat) (b:Bool) (c:UInt8) (w:World) (hs:s.size≤140737488355328) (hp:p+2≤s.size) (c0:stands s p [92]=true) (c1:s.data.toList[p+1]? = some c) (hc:123≤c.toNat∧c.toNat≤126) :
    Calls Tryz.prog 103 #[.string s,.int .i64 p,.bool b] w fun e w'=>
      e = .returned (.tuple #[.agg #[.int .i64 1,.int .i32 c.toNat,.slice none 0 0,.int .i64 0],.int .i64 (p+1+1:Nat),.agg #[.int .i64 0,.int .i64 0,.int .i64 0]])∧Below w.heap.size w w':=by
  have hs':s.size≤1000000000000000:=by omega
  obtain ⟨bA,bC,bR,bO⟩:=esc_blocks w s p 150 32 189
  have A0:=hid bA;have C0:=hid bC;have O0:=hid bO
  have R0:=hid (show Rd _ (w.heap.size+1+1) s p [.int .i64 p] 189 from bR)
  clear bA bC bR bO
  go_enter Tryz.func103, Tryz.ntmps103
  go_wp2_with fail
  go_step3
  go_wp2_with fail
  refine (scan_has_yes _ _ ⟨#[92]⟩ p _ _ _ R0.out (by omega) hs' c0).mono ?_
  rintro e w1 ⟨rfl,hR,hG⟩
  have A1:=hid (A0.out.grown hG (ne_some (by omega)));have C1:=hid (C0.out.grown hG (ne_some (by omega)));have O1:=hid (O0.out.grown hG (ne_some (by omega)))
  have R1:=hid hR;have G1:=hid hG;clear hR hG
  go_wp2_with fail
  refine (scan_next_ascii _ _ (p+1) c _ _ _ R1.out (by omega) c1 (by omega) hs').mono ?_
  rintro e w2 ⟨rfl,hR,hG⟩
  have A2:=hid (A1.out.grown hG (ne_some (by omega)));have C2:=hid (C1.out.grown hG (ne_some (by omega)));have O2:=hid (O1.out.grown hG (ne_some (by omega)))
  have R2:=hid hR;have G2:=hid (grownBy_trans G1.out hG);clear hR hG
  have g1:=Rd.c1 R2.out
  have A4:=A2;have C4:=C2;have O4:=O2;have R4:=R2;have G4:=G2
  obtain ⟨C,hC⟩:∃ C:Int,C=(c.toNat:Int):=⟨_,rfl⟩
  have hc:(123:Int)≤C∧C≤126:=by omega
  rw [← hC]
  have HC:=hid hC
  clear hC
  obtain ⟨hc1,hc2⟩:=hc
  have e0:(C == -1)=false:=by simp;omega
  have f1:32 < C:=by omega
  have f1b:decide (32 < C)=true:=by simp;omega
  have f2:C < 127:=by omega
  have f2b:decide (C < 127)=true:=by simp;omega
  have f3:48≤C:=by omega
  have f3b:decide (48≤C)=true:=by simp;omega
  have f4:¬ C≤57:=by omega
  have f4b:decide (C≤57)=false:=by simp;omega
  have f5:97≤C:=by omega
  have f5b:decide (97≤C)=true:=by simp;omega
  have f6:¬ C≤122:=by omega
  have f6b:decide (C≤122)=false:=by simp;omega
  have f7:65≤C:=by omega
  have f7b:decide (65≤C)=true:=by simp;omega
  have f8:¬ C≤90:=by omega
  have f8b:decide (C≤90)=false:=by simp;omega
  clear hc1 hc2
  have o0:=Blk.cell O4.out (j:=0) rfl;have o1:=Blk.cell O4.out (j:=1) rfl;have o2:=Blk.cell O4.out (j:=2) rfl;have o3:=Blk.cell O4.out (j:=3) rfl
  have p0:=O4.out.frozen 0;have p1:=O4.out.frozen 1;have p2:=O4.out.frozen 2;have p3:=O4.out.frozen 3
  go_wp2_with fail
  clear g1
  obtain ⟨W5,hW5⟩:∃ W5,W5=World.set4 w2 (w.heap.size+1+1+1) (.int .i64 1) (.int .i32 C) (.slice none 0 0) (.int .i64 0):=⟨_,rfl⟩
  have O5:=O4.out.set4 (.int .i64 1) (.int .i32 C) (.slice none 0 0) (.int .i64 0)
  have A5:=A4.out.set4_other (b:=w.heap.size+1+1+1) (by omega) (.int .i64 1) (.int .i32 C) (.slice none 0 0) (.int .i64 0)
  have C5:=C4.out.set4_other (b:=w.heap.size+1+1+1) (by omega) (.int .i64 1) (.int .i32 C) (.slice none 0 0) (.int .i64 0)
  have R5:=Blk.set4_other (b:=w.heap.size+1+1+1) R4.out (by omega) (.int .i64 1) (.int .i32 C) (.slice none 0 0) (.int .i64 0)
  have G5:=grownBy_set4 w2 (w.heap.size+1+1+1) (.int .i64 1) (.int .i32 C) (.slice none 0 0) (.int .i64 0)
  change Code.wp _ _ _ _ (World.set4 w2 (w.heap.size+1+1+1) (.int .i64 1) (.int .i32 C) (.slice none 0 0) (.int .i64 0))
  rw [← hW5] at O5 A5 C5 R5 G5 ⊢
  clear hW5 o0 o1 o2 o3 p0 p1 p2 p3
  have o0:=Blk.cell O5 (j:=0) rfl;have o1:=Blk.cell O5 (j:=1) rfl;have o2:=Blk.cell O5 (j:=2) rfl;have o3:=Blk.cell O5 (j:=3) rfl
  have r1:=Blk.cell R5 (j:=1) rfl
  have a0:=Blk.cell A5 (j:=0) rfl;have a1:=Blk.cell A5 (j:=1) rfl;have a2:=Blk.cell A5 (j:=2) rfl;have a3:=Blk.cell A5 (j:=3) rfl
  have b0:=A5.frozen 0;have b1:=A5.frozen 1;have b2:=A5.frozen 2;have b3:=A5.frozen 3
  have c0:=Blk.cell C5 (j:=0) rfl;have c1:=Blk.cell C5 (j:=1) rfl;have c2:=Blk.cell C5 (j:=2) rfl
  have d0:=C5.frozen 0;have d1:=C5.frozen 1;have d2:=C5.frozen 2
  have HO5:=hid O5;have HA5:=hid A5;have HC5:=hid C5;have HR5:=hid R5;have HG5:=hid G5
  clear O5 A5 C5 R5 G5
  go_region
  go_wp2_with fail
  rw [Exit.noGoto_ret]
  refine bodyPost_ret (v:=.tuple #[.agg #[.int .i64 1,.int .i32 C,.slice none 0 0,.int .i64 0],.int .i64 (p+1+1:Nat),.agg #[.int .i64 0,.int .i64 0,.int .i64 0]]) ?_ rfl ⟨by rw [HC.out],?_⟩
  · simp [results,Tryz.results103,go_sem,a0,a1,a2,a3,c0,c1,c2]
  · have B0:Below w.heap.size w ((((w.alloc (.cells #[.int .i64 0,.int .i32 0,.slice none 0 0,.int .i64 0] 150)).alloc (.cells #[.int .i64 0,.int .i64 0,.int .i64 0] 32)).alloc (.cells #[.string s,.int .i64 p,.int .i64 p] 189)).alloc (.cells #[.int .i64 0,.int .i32 0,.slice none 0 0,.int .i64 0] 150)):=
      ((((Below.refl _ w).alloc (Nat.le_refl _) _).alloc (by simp) _).alloc (by simp;omega) _).alloc (by simp;omega) _
    have B5:=below_next (below_next B0 (Nat.le_refl _) G4.out (fun k e=>by cases e;omega)) (Nat.le_refl _) HG5.out (fun k e=>by cases e;omega)
    exact (((((((B5.setCell (by simp) _).setCell (by simp) _).setCell (by simp) _).setCell (by simp) _).setCell (by simp) _).setCell (by simp) _).setCell (by simp) _).drew
theorem escape_sign (s:ByteArray) (p:Nat) (b:Bool) (c:UInt8) (w:World) (hs:s.size≤140737488355328) (hp:p+2≤s.size) (c0:stands s p [92]=true) (c1:s.data.toList[p+1]? = some c) (hc:isSign c.toNat) :
    Calls Tryz.prog 103 #[.string s,.int .i64 p,.bool b] w fun e w'=>
      e = .returned (.tuple #[.agg #[.int .i64 1,.int .i32 c.toNat,.slice none 0 0,.int .i64 0],.int .i64 (p+1+1:Nat),.agg #[.int .i64 0,.int .i64 0,.int .i64 0]])∧Below w.heap.size w w':=by
  rcases hc with h | h | h | h
  · exact escape_sign0 s p b c w hs hp c0 c1 (by omega)
  · exact escape_sign1 s p b c w hs hp c0 c1 (by omega)
  · exact escape_sign2 s p b c w hs hp c0 c1 (by omega)
  · exact escape_sign3 s p b c w hs hp c0 c1 (by omega)
end Go.Proofs.YtnhnldmldnhaoaaGreatDoor
