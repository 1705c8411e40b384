/- Escapes of a letter that are told at once. (Printed by gen_escape.py.) -/
import Derived.Test.YtnhnldmldnhaoaaGreatDoorSHead06
set_option maxRecDepth 100000
set_option maxHeartbeats 16000000
open Go.Lib (hid)
namespace Go.Proofs.YtnhnldmldnhaoaaGreatDoor
open Go Go.RowKit Go.Proofs
theorem escape_let97 (s:ByteArray) (p:Nat) (b:Bool) (w:World) (hs:s.size≤140737488355328) (hp:p+2≤s.size) (c0:stands s p [92]=true) (c1:s.data.toList[p+1]? = some 97) :
    Calls Tryz.prog 103 #[.string s,.int .i64 p,.bool b] w fun e w'=>
      e = .returned (.tuple #[.agg #[.int .i64 1,.int .i32 7,.slice none 0 0,.int .i64 0],.int .i64 (p+1+1:Nat),.agg #[.int .i64 0,.int .i64 0,.int .i64 0]])∧Below w.heap.size w w':=by
  have hs':s.size≤1000000000000000:=by omega
  obtain ⟨bA,bC,bR,bO⟩:=esc_blocks w s p 150 32 189
  have A0:=hid bA;have C0:=hid bC;have O0:=hid bO
  have R0:=hid (show Rd _ (w.heap.size+1+1) s p [.int .i64 p] 189 from bR)
  clear bA bC bR bO
  go_enter Tryz.func103, Tryz.ntmps103
  go_wp2_with fail
  go_step3
  go_wp2_with fail
  refine (scan_has_yes _ _ ⟨#[92]⟩ p _ _ _ R0.out (by omega) hs' c0).mono ?_
  rintro e w1 ⟨rfl,hR,hG⟩
  have A1:=hid (A0.out.grown hG (ne_some (by omega)));have C1:=hid (C0.out.grown hG (ne_some (by omega)));have O1:=hid (O0.out.grown hG (ne_some (by omega)))
  have R1:=hid hR;have G1:=hid hG;clear hR hG
  go_wp2_with fail
  refine (scan_next_ascii _ _ (p+1) 97 _ _ _ R1.out (by omega) c1 (by decide) hs').mono ?_
  rintro e w2 ⟨rfl,hR,hG⟩
  have A2:=hid (A1.out.grown hG (ne_some (by omega)));have C2:=hid (C1.out.grown hG (ne_some (by omega)));have O2:=hid (O1.out.grown hG (ne_some (by omega)))
  have R2:=hid hR;have G2:=hid (grownBy_trans G1.out hG);clear hR hG
  have g1:=Rd.c1 R2.out
  go_wp2_with fail
  refine (Tryz.strings_IndexByte _ _ _).mono ?_
  rintro e w3 ⟨rfl,rfl⟩
  rw [show Lib.indexByte (⟨#[97,102,110,114,116,118]⟩:ByteArray).data.toList (min (97:Int) 127).toNat.toUInt8=0 from by decide]
  have A4:=A2;have C4:=C2;have O4:=O2;have R4:=R2;have G4:=G2
  have o0:=Blk.cell O4.out (j:=0) rfl;have o1:=Blk.cell O4.out (j:=1) rfl;have o2:=Blk.cell O4.out (j:=2) rfl;have o3:=Blk.cell O4.out (j:=3) rfl
  have p0:=O4.out.frozen 0;have p1:=O4.out.frozen 1;have p2:=O4.out.frozen 2;have p3:=O4.out.frozen 3
  go_wp2_with fail
  refine (Tryz.strings_IndexByte _ _ _).mono ?_
  rintro e w3 ⟨rfl,rfl⟩
  rw [show Lib.indexByte (⟨#[97,102,110,114,116,118]⟩:ByteArray).data.toList (97:Int).toNat.toUInt8=0 from by decide]
  go_wp2_with fail
  rw [show wrap32 (((⟨#[7,12,10,13,9,11]⟩:ByteArray)[0]'(by decide)).toNat:Int)=7 from by kernel_rfl]
  obtain ⟨W5,hW5⟩:∃ W5,W5=World.set4 w3 (w.heap.size+1+1+1) (.int .i64 1) (.int .i32 7) (.slice none 0 0) (.int .i64 0):=⟨_,rfl⟩
  have O5:=O4.out.set4 (.int .i64 1) (.int .i32 7) (.slice none 0 0) (.int .i64 0)
  have A5:=A4.out.set4_other (b:=w.heap.size+1+1+1) (by omega) (.int .i64 1) (.int .i32 7) (.slice none 0 0) (.int .i64 0)
  have C5:=C4.out.set4_other (b:=w.heap.size+1+1+1) (by omega) (.int .i64 1) (.int .i32 7) (.slice none 0 0) (.int .i64 0)
  have R5:=Blk.set4_other (b:=w.heap.size+1+1+1) R4.out (by omega) (.int .i64 1) (.int .i32 7) (.slice none 0 0) (.int .i64 0)
  have G5:=grownBy_set4 w3 (w.heap.size+1+1+1) (.int .i64 1) (.int .i32 7) (.slice none 0 0) (.int .i64 0)
  change Code.wp _ _ _ _ (World.set4 w3 (w.heap.size+1+1+1) (.int .i64 1) (.int .i32 7) (.slice none 0 0) (.int .i64 0))
  rw [← hW5] at O5 A5 C5 R5 G5 ⊢
  clear hW5 o0 o1 o2 o3 p0 p1 p2 p3
  clear g1
  have o0:=Blk.cell O5 (j:=0) rfl;have o1:=Blk.cell O5 (j:=1) rfl;have o2:=Blk.cell O5 (j:=2) rfl;have o3:=Blk.cell O5 (j:=3) rfl
  have r1:=Blk.cell R5 (j:=1) rfl
  have a0:=Blk.cell A5 (j:=0) rfl;have a1:=Blk.cell A5 (j:=1) rfl;have a2:=Blk.cell A5 (j:=2) rfl;have a3:=Blk.cell A5 (j:=3) rfl
  have b0:=A5.frozen 0;have b1:=A5.frozen 1;have b2:=A5.frozen 2;have b3:=A5.frozen 3
  have c0:=Blk.cell C5 (j:=0) rfl;have c1:=Blk.cell C5 (j:=1) rfl;have c2:=Blk.cell C5 (j:=2) rfl
  have d0:=C5.frozen 0;have d1:=C5.frozen 1;have d2:=C5.frozen 2
  have HO5:=hid O5;have HA5:=hid A5;have HC5:=hid C5;have HR5:=hid R5;have HG5:=hid G5
  clear O5 A5 C5 R5 G5
  go_region
  go_wp2_with fail
  rw [Exit.noGoto_ret]
  refine bodyPost_ret (v:=.tuple #[.agg #[.int .i64 1,.int .i32 7,.slice none 0 0,.int .i64 0],.int .i64 (p+1+1:Nat),.agg #[.int .i64 0,.int .i64 0,.int .i64 0]]) ?_ rfl ⟨rfl,?_⟩
  · simp [results,Tryz.results103,go_sem,a0,a1,a2,a3,c0,c1,c2]
  · have B0:Below w.heap.size w ((((w.alloc (.cells #[.int .i64 0,.int .i32 0,.slice none 0 0,.int .i64 0] 150)).alloc (.cells #[.int .i64 0,.int .i64 0,.int .i64 0] 32)).alloc (.cells #[.string s,.int .i64 p,.int .i64 p] 189)).alloc (.cells #[.int .i64 0,.int .i32 0,.slice none 0 0,.int .i64 0] 150)):=
      ((((Below.refl _ w).alloc (Nat.le_refl _) _).alloc (by simp) _).alloc (by simp;omega) _).alloc (by simp;omega) _
    have B5:=below_next (below_next B0 (Nat.le_refl _) G4.out (fun k e=>by cases e;omega)) (Nat.le_refl _) HG5.out (fun k e=>by cases e;omega)
    exact (((((((B5.setCell (by simp) _).setCell (by simp) _).setCell (by simp) _).setCell (by simp) _).setCell (by simp) _).setCell (by simp) _).setCell (by simp) _).drew
theorem escape_let102 (s:ByteArray) (p:Nat) (b:Bool) (w:World) (hs:s.size≤140737488355328) (hp:p+2≤s.size) (c0:stands s p [92]=true) (c1:s.data.toList[p+1]? = some 102) :
    Calls Tryz.prog 103 #[.string s,.int .i64 p,.bool b] w fun e w'=>
      e = .returned (.tuple #[.agg #[.int .i64 1,.int .i32 12,.slice none 0 0,.int .i64 0],.int .i64 (p+1+1:Nat),.agg #[.int .i64 0,.int .i64 0,.int .i64 0]])∧Below w.heap.size w w':=by
  have hs':s.size≤1000000000000000:=by omega
  obtain ⟨bA,bC,bR,bO⟩:=esc_blocks w s p 150 32 189
  have A0:=hid bA;have C0:=hid bC;have O0:=hid bO
  have R0:=hid (show Rd _ (w.heap.size+1+1) s p [.int .i64 p] 189 from bR)
  clear bA bC bR bO
  go_enter Tryz.func103, Tryz.ntmps103
  go_wp2_with fail
  go_step3
  go_wp2_with fail
  refine (scan_has_yes _ _ ⟨#[92]⟩ p _ _ _ R0.out (by omega) hs' c0).mono ?_
  rintro e w1 ⟨rfl,hR,hG⟩
  have A1:=hid (A0.out.grown hG (ne_some (by omega)));have C1:=hid (C0.out.grown hG (ne_some (by omega)));have O1:=hid (O0.out.grown hG (ne_some (by omega)))
  have R1:=hid hR;have G1:=hid hG;clear hR hG
  go_wp2_with fail
  refine (scan_next_ascii _ _ (p+1) 102 _ _ _ R1.out (by omega) c1 (by decide) hs').mono ?_
  rintro e w2 ⟨rfl,hR,hG⟩
  have A2:=hid (A1.out.grown hG (ne_some (by omega)));have C2:=hid (C1.out.grown hG (ne_some (by omega)));have O2:=hid (O1.out.grown hG (ne_some (by omega)))
  have R2:=hid hR;have G2:=hid (grownBy_trans G1.out hG);clear hR hG
  have g1:=Rd.c1 R2.out
  go_wp2_with fail
  refine (Tryz.strings_IndexByte _ _ _).mono ?_
  rintro e w3 ⟨rfl,rfl⟩
  rw [show Lib.indexByte (⟨#[97,102,110,114,116,118]⟩:ByteArray).data.toList (min (102:Int) 127).toNat.toUInt8=1 from by decide]
  have A4:=A2;have C4:=C2;have O4:=O2;have R4:=R2;have G4:=G2
  have o0:=Blk.cell O4.out (j:=0) rfl;have o1:=Blk.cell O4.out (j:=1) rfl;have o2:=Blk.cell O4.out (j:=2) rfl;have o3:=Blk.cell O4.out (j:=3) rfl
  have p0:=O4.out.frozen 0;have p1:=O4.out.frozen 1;have p2:=O4.out.frozen 2;have p3:=O4.out.frozen 3
  go_wp2_with fail
  refine (Tryz.strings_IndexByte _ _ _).mono ?_
  rintro e w3 ⟨rfl,rfl⟩
  rw [show Lib.indexByte (⟨#[97,102,110,114,116,118]⟩:ByteArray).data.toList (102:Int).toNat.toUInt8=1 from by decide]
  go_wp2_with fail
  rw [show wrap32 (((⟨#[7,12,10,13,9,11]⟩:ByteArray)[1]'(by decide)).toNat:Int)=12 from by kernel_rfl]
  obtain ⟨W5,hW5⟩:∃ W5,W5=World.set4 w3 (w.heap.size+1+1+1) (.int .i64 1) (.int .i32 12) (.slice none 0 0) (.int .i64 0):=⟨_,rfl⟩
  have O5:=O4.out.set4 (.int .i64 1) (.int .i32 12) (.slice none 0 0) (.int .i64 0)
  have A5:=A4.out.set4_other (b:=w.heap.size+1+1+1) (by omega) (.int .i64 1) (.int .i32 12) (.slice none 0 0) (.int .i64 0)
  have C5:=C4.out.set4_other (b:=w.heap.size+1+1+1) (by omega) (.int .i64 1) (.int .i32 12) (.slice none 0 0) (.int .i64 0)
  have R5:=Blk.set4_other (b:=w.heap.size+1+1+1) R4.out (by omega) (.int .i64 1) (.int .i32 12) (.slice none 0 0) (.int .i64 0)
  have G5:=grownBy_set4 w3 (w.heap.size+1+1+1) (.int .i64 1) (.int .i32 12) (.slice none 0 0) (.int .i64 0)
  change Code.wp _ _ _ _ (World.set4 w3 (w.heap.size+1+1+1) (.int .i64 1) (.int .i32 12) (.slice none 0 0) (.int .i64 0))
  rw [← hW5] at O5 A5 C5 R5 G5 ⊢
  clear hW5 o0 o1 o2 o3 p0 p1 p2 p3
  clear g1
  have o0:=Blk.cell O5 (j:=0) rfl;have o1:=Blk.cell O5 (j:=1) rfl;have o2:=Blk.cell O5 (j:=2) rfl;have o3:=Blk.cell O5 (j:=3) rfl
  have r1:=Blk.cell R5 (j:=1) rfl
  have a0:=Blk.cell A5 (j:=0) rfl;have a1:=Blk.cell A5 (j:=1) rfl;have a2:=Blk.cell A5 (j:=2) rfl;have a3:=Blk.cell A5 (j:=3) rfl
  have b0:=A5.frozen 0;have b1:=A5.frozen 1;have b2:=A5.frozen 2;have b3:=A5.frozen 3
  have c0:=Blk.cell C5 (j:=0) rfl;have c1:=Blk.cell C5 (j:=1) rfl;have c2:=Blk.cell C5 (j:=2) rfl
  have d0:=C5.frozen 0;have d1:=C5.frozen 1;have d2:=C5.frozen 2
  have HO5:=hid O5;have HA5:=hid A5;have HC5:=hid C5;have HR5:=hid R5;have HG5:=hid G5
  clear O5 A5 C5 R5 G5
  go_region
  go_wp2_with fail
  rw [Exit.noGoto_ret]
  refine bodyPost_ret (v:=.tuple #[.agg #[.int .i64 1,.int .i32 12,.slice none 0 0,.int .i64 0],.int .i64 (p+1+1:Nat),.agg #[.int .i64 0,.int .i64 0,.int .i64 0]]) ?_ rfl ⟨rfl,?_⟩
  · simp [results,Tryz.results103,go_sem,a0,a1,a2,a3,c0,c1,c2]
  · have B0:Below w.heap.size w ((((w.alloc (.cells #[.int .i64 0,.int .i32 0,.slice none 0 0,.int .i64 0] 150)).alloc (.cells #[.int .i64 0,.int .i64 0,.int .i64 0] 32)).alloc (.cells #[.string s,.int .i64 p,.int .i64 p] 189)).alloc (.cells #[.int .i64 0,.int .i32 0,.slice none 0 0,.int .i64 0] 150)):=
      ((((Below.refl _ w).alloc (Nat.le_refl _) _).alloc (by simp) _).alloc (by simp;omega) _).alloc (by simp;omega) _
    have B5:=below_next (below_next B0 (Nat.le_refl _) G4.out (fun k e=>by cases e;omega)) (Nat.le_refl _) HG5.out (fun k e=>by cases e;omega)
    exact (((((((B5.setCell (by simp) _).setCell (by simp) _).setCell (by simp) _).setCell (by simp) _).setCell (by simp) _).setCell (by simp) _).setCell (by simp) _).drew
theorem escape_let110 (s:ByteArray) (p:Nat) (b:Bool) (w:World) (hs:s.size≤140737488355328) (hp:p+2≤s.size) (c0:stands s p [92]=true) (c1:s.data.toList[p+1]? = some 110) :
    Calls Tryz.prog 103 #[.string s,.int .i64 p,.bool b] w fun e w'=>
      e = .returned (.tuple #[.agg #[.int .i64 1,.int .i32 10,.slice none 0 0,.int .i64 0],.int .i64 (p+1+1:Nat),.agg #[.int .i64 0,.int .i64 0,.int .i64 0]])∧Below w.heap.size w w':=by
  have hs':s.size≤1000000000000000:=by omega
  obtain ⟨bA,bC,bR,bO⟩:=esc_blocks w s p 150 32 189
  have A0:=hid bA;have C0:=hid bC;have O0:=hid bO
  have R0:=hid (show Rd _ (w.heap.size+1+1) s p [.int .i64 p] 189 from bR)
  clear bA bC bR bO
  go_enter Tryz.func103, Tryz.ntmps103
  go_wp2_with fail
  go_step3
  go_wp2_with fail
  refine (scan_has_yes _ _ ⟨#[92]⟩ p _ _ _ R0.out (by omega) hs' c0).mono ?_
  rintro e w1 ⟨rfl,hR,hG⟩
  have A1:=hid (A0.out.grown hG (ne_some (by omega)));have C1:=hid (C0.out.grown hG (ne_some (by omega)));have O1:=hid (O0.out.grown hG (ne_some (by omega)))
  have R1:=hid hR;have G1:=hid hG;clear hR hG
  go_wp2_with fail
  refine (scan_next_ascii _ _ (p+1) 110 _ _ _ R1.out (by omega) c1 (by decide) hs').mono ?_
  rintro e w2 ⟨rfl,hR,hG⟩
  have A2:=hid (A1.out.grown hG (ne_some (by omega)));have C2:=hid (C1.out.grown hG (ne_some (by omega)));have O2:=hid (O1.out.grown hG (ne_some (by omega)))
  have R2:=hid hR;have G2:=hid (grownBy_trans G1.out hG);clear hR hG
  have g1:=Rd.c1 R2.out
  go_wp2_with fail
  refine (Tryz.strings_IndexByte _ _ _).mono ?_
  rintro e w3 ⟨rfl,rfl⟩
  rw [show Lib.indexByte (⟨#[97,102,110,114,116,118]⟩:ByteArray).data.toList (min (110:Int) 127).toNat.toUInt8=2 from by decide]
  have A4:=A2;have C4:=C2;have O4:=O2;have R4:=R2;have G4:=G2
  have o0:=Blk.cell O4.out (j:=0) rfl;have o1:=Blk.cell O4.out (j:=1) rfl;have o2:=Blk.cell O4.out (j:=2) rfl;have o3:=Blk.cell O4.out (j:=3) rfl
  have p0:=O4.out.frozen 0;have p1:=O4.out.frozen 1;have p2:=O4.out.frozen 2;have p3:=O4.out.frozen 3
  go_wp2_with fail
  refine (Tryz.strings_IndexByte _ _ _).mono ?_
  rintro e w3 ⟨rfl,rfl⟩
  rw [show Lib.indexByte (⟨#[97,102,110,114,116,118]⟩:ByteArray).data.toList (110:Int).toNat.toUInt8=2 from by decide]
  go_wp2_with fail
  rw [show wrap32 (((⟨#[7,12,10,13,9,11]⟩:ByteArray)[2]'(by decide)).toNat:Int)=10 from by kernel_rfl]
  obtain ⟨W5,hW5⟩:∃ W5,W5=World.set4 w3 (w.heap.size+1+1+1) (.int .i64 1) (.int .i32 10) (.slice none 0 0) (.int .i64 0):=⟨_,rfl⟩
  have O5:=O4.out.set4 (.int .i64 1) (.int .i32 10) (.slice none 0 0) (.int .i64 0)
  have A5:=A4.out.set4_other (b:=w.heap.size+1+1+1) (by omega) (.int .i64 1) (.int .i32 10) (.slice none 0 0) (.int .i64 0)
  have C5:=C4.out.set4_other (b:=w.heap.size+1+1+1) (by omega) (.int .i64 1) (.int .i32 10) (.slice none 0 0) (.int .i64 0)
  have R5:=Blk.set4_other (b:=w.heap.size+1+1+1) R4.out (by omega) (.int .i64 1) (.int .i32 10) (.slice none 0 0) (.int .i64 0)
  have G5:=grownBy_set4 w3 (w.heap.size+1+1+1) (.int .i64 1) (.int .i32 10) (.slice none 0 0) (.int .i64 0)
  change Code.wp _ _ _ _ (World.set4 w3 (w.heap.size+1+1+1) (.int .i64 1) (.int .i32 10) (.slice none 0 0) (.int .i64 0))
  rw [← hW5] at O5 A5 C5 R5 G5 ⊢
  clear hW5 o0 o1 o2 o3 p0 p1 p2 p3
  clear g1
  have o0:=Blk.cell O5 (j:=0) rfl;have o1:=Blk.cell O5 (j:=1) rfl;have o2:=Blk.cell O5 (j:=2) rfl;have o3:=Blk.cell O5 (j:=3) rfl
  have r1:=Blk.cell R5 (j:=1) rfl
  have a0:=Blk.cell A5 (j:=0) rfl;have a1:=Blk.cell A5 (j:=1) rfl;have a2:=Blk.cell A5 (j:=2) rfl;have a3:=Blk.cell A5 (j:=3) rfl
  have b0:=A5.frozen 0;have b1:=A5.frozen 1;have b2:=A5.frozen 2;have b3:=A5.frozen 3
  have c0:=Blk.cell C5 (j:=0) rfl;have c1:=Blk.cell C5 (j:=1) rfl;have c2:=Blk.cell C5 (j:=2) rfl
  have d0:=C5.frozen 0;have d1:=C5.frozen 1;have d2:=C5.frozen 2
  have HO5:=hid O5;have HA5:=hid A5;have HC5:=hid C5;have HR5:=hid R5;have HG5:=hid G5
  clear O5 A5 C5 R5 G5
  go_region
  go_wp2_with fail
  rw [Exit.noGoto_ret]
  refine bodyPost_ret (v:=.tuple #[.agg #[.int .i64 1,.int .i32 10,.slice none 0 0,.int .i64 0],.int .i64 (p+1+1:Nat),.agg #[.int .i64 0,.int .i64 0,.int .i64 0]]) ?_ rfl ⟨rfl,?_⟩
  · simp [results,Tryz.results103,go_sem,a0,a1,a2,a3,c0,c1,c2]
  · have B0:Below w.heap.size w ((((w.alloc (.cells #[.int .i64 0,.int .i32 0,.slice none 0 0,.int .i64 0] 150)).alloc (.cells #[.int .i64 0,.int .i64 0,.int .i64 0] 32)).alloc (.cells #[.string s,.int .i64 p,.int .i64 p] 189)).alloc (.cells #[.int .i64 0,.int .i32 0,.slice none 0 0,.int .i64 0] 150)):=
      ((((Below.refl _ w).alloc (Nat.le_refl _) _).alloc (by simp) _).alloc (by simp;omega) _).alloc (by simp;omega) _
    have B5:=below_next (below_next B0 (Nat.le_refl _) G4.out (fun k e=>by cases e;omega)) (Nat.le_refl _) HG5.out (fun k e=>by cases e;omega)
    exact (((((((B5.setCell (by simp) _).setCell (by simp) _).setCell (by simp) _).setCell (by simp) _).setCell (by simp) _).setCell (by simp) _).setCell (by simp) _).drew
theorem escape_let114 (s:ByteArray) (p:Nat) (b:Bool) (w:World) (hs:s.size≤140737488355328) (hp:p+2≤s.size) (c0:stands s p [92]=true) (c1:s.data.toList[p+1]? = some 114) :
    Calls Tryz.prog 103 #[.string s,.int .i64 p,.bool b] w fun e w'=>
      e = .returned (.tuple #[.agg #[.int .i64 1,.int .i32 13,.slice none 0 0,.int .i64 0],.int .i64 (p+1+1:Nat),.agg #[.int .i64 0,.int .i64 0,.int .i64 0]])∧Below w.heap.size w w':=by
  have hs':s.size≤1000000000000000:=by omega
  obtain ⟨bA,bC,bR,bO⟩:=esc_blocks w s p 150 32 189
  have A0:=hid bA;have C0:=hid bC;have O0:=hid bO
  have R0:=hid (show Rd _ (w.heap.size+1+1) s p [.int .i64 p] 189 from bR)
  clear bA bC bR bO
  go_enter Tryz.func103, Tryz.ntmps103
  go_wp2_with fail
  go_step3
  go_wp2_with fail
  refine (scan_has_yes _ _ ⟨#[92]⟩ p _ _ _ R0.out (by omega) hs' c0).mono ?_
  rintro e w1 ⟨rfl,hR,hG⟩
  have A1:=hid (A0.out.grown hG (ne_some (by omega)));have C1:=hid (C0.out.grown hG (ne_some (by omega)));have O1:=hid (O0.out.grown hG (ne_some (by omega)))
  have R1:=hid hR;have G1:=hid hG;clear hR hG
  go_wp2_with fail
  refine (scan_next_ascii _ _ (p+1) 114 _ _ _ R1.out (by omega) c1 (by decide) hs').mono ?_
  rintro e w2 ⟨rfl,hR,hG⟩
  have A2:=hid (A1.out.grown hG (ne_some (by omega)));have C2:=hid (C1.out.grown hG (ne_some (by omega)));have O2:=hid (O1.out.grown hG (ne_some (by omega)))
  have R2:=hid hR;have G2:=hid (grownBy_trans G1.out hG);clear hR hG
  have g1:=Rd.c1 R2.out
  go_wp2_with fail
  refine (Tryz.strings_IndexByte _ _ _).mono ?_
  rintro e w3 ⟨rfl,rfl⟩
  rw [show Lib.indexByte (⟨#[97,102,110,114,116,118]⟩:ByteArray).data.toList (min (114:Int) 127).toNat.toUInt8=3 from by decide]
  have A4:=A2;have C4:=C2;have O4:=O2;have R4:=R2;have G4:=G2
  have o0:=Blk.cell O4.out (j:=0) rfl;have o1:=Blk.cell O4.out (j:=1) rfl;have o2:=Blk.cell O4.out (j:=2) rfl;have o3:=Blk.cell O4.out (j:=3) rfl
  have p0:=O4.out.frozen 0;have p1:=O4.out.frozen 1;have p2:=O4.out.frozen 2;have p3:=O4.out.frozen 3
  go_wp2_with fail
  refine (Tryz.strings_IndexByte _ _ _).mono ?_
  rintro e w3 ⟨rfl,rfl⟩
  rw [show Lib.indexByte (⟨#[97,102,110,114,116,118]⟩:ByteArray).data.toList (114:Int).toNat.toUInt8=3 from by decide]
  go_wp2_with fail
  rw [show wrap32 (((⟨#[7,12,10,13,9,11]⟩:ByteArray)[3]'(by decide)).toNat:Int)=13 from by kernel_rfl]
  obtain ⟨W5,hW5⟩:∃ W5,W5=World.set4 w3 (w.heap.size+1+1+1) (.int .i64 1) (.int .i32 13) (.slice none 0 0) (.int .i64 0):=⟨_,rfl⟩
  have O5:=O4.out.set4 (.int .i64 1) (.int .i32 13) (.slice none 0 0) (.int .i64 0)
  have A5:=A4.out.set4_other (b:=w.heap.size+1+1+1) (by omega) (.int .i64 1) (.int .i32 13) (.slice none 0 0) (.int .i64 0)
  have C5:=C4.out.set4_other (b:=w.heap.size+1+1+1) (by omega) (.int .i64 1) (.int .i32 13) (.slice none 0 0) (.int .i64 0)
  have R5:=Blk.set4_other (b:=w.heap.size+1+1+1) R4.out (by omega) (.int .i64 1) (.int .i32 13) (.slice none 0 0) (.int .i64 0)
  have G5:=grownBy_set4 w3 (w.heap.size+1+1+1) (.int .i64 1) (.int .i32 13) (.slice none 0 0) (.int .i64 0)
  change Code.wp _ _ _ _ (World.set4 w3 (w.heap.size+1+1+1) (.int .i64 1) (.int .i32 13) (.slice none 0 0) (.int .i64 0))
  rw [← hW5] at O5 A5 C5 R5 G5 ⊢
  clear hW5 o0 o1 o2 o3 p0 p1 p2 p3
  clear g1
  have o0:=Blk.cell O5 (j:=0) rfl;have o1:=Blk.cell O5 (j:=1) rfl;have o2:=Blk.cell O5 (j:=2) rfl;have o3:=Blk.cell O5 (j:=3) rfl
  have r1:=Blk.cell R5 (j:=1) rfl
  have a0:=Blk.cell A5 (j:=0) rfl;have a1:=Blk.cell A5 (j:=1) rfl;have a2:=Blk.cell A5 (j:=2) rfl;have a3:=Blk.cell A5 (j:=3) rfl
  have b0:=A5.frozen 0;have b1:=A5.frozen 1;have b2:=A5.frozen 2;have b3:=A5.frozen 3
  have c0:=Blk.cell C5 (j:=0) rfl;have c1:=Blk.cell C5 (j:=1) rfl;have c2:=Blk.cell C5 (j:=2) rfl
  have d0:=C5.frozen 0;have d1:=C5.frozen 1;have d2:=C5.frozen 2
  have HO5:=hid O5;have HA5:=hid A5;have HC5:=hid C5;have HR5:=hid R5;have HG5:=hid G5
  clear O5 A5 C5 R5 G5
  go_region
  go_wp2_with fail
  rw [Exit.noGoto_ret]
  refine bodyPost_ret (v:=.tuple #[.agg #[.int .i64 1,.int .i32 13,.slice none 0 0,.int .i64 0],.int .i64 (p+1+1:Nat),.agg #[.int .i64 0,.int .i64 0,.int .i64 0]]) ?_ rfl ⟨rfl,?_⟩
  · simp [results,Tryz.results103,go_sem,a0,a1,a2,a3,c0,c1,c2]
  · have B0:Below w.heap.size w ((((w.alloc (.cells #[.int .i64 0,.int .i32 0,.slice none 0 0,.int .i64 0] 150)).alloc (.cells #[.int .i64 0,.int .i64 0,.int .i64 0] 32)).alloc (.cells #[.string s,.int .i64 p,.int .i64 p] 189)).alloc (.cells #[.int .i64 0,.int .i32 0,.slice none 0 0,.int .i64 0] 150)):=
      ((((Below.refl _ w).alloc (Nat.le_refl _) _).alloc (by simp) _).alloc (by simp;omega) _).alloc (by simp;omega) _
    have B5:=below_next (below_next B0 (Nat.le_refl _) G4.out (fun k e=>by cases e;omega)) (Nat.le_refl _) HG5.out (fun k e=>by cases e;omega)
    exact (((((((B5.setCell (by simp) _).setCell (by simp) _).setCell (by simp) _).setCell (by simp) _).setCell (by simp) _).setCell (by simp) _).setCell (by simp) _).drew
theorem escape_let116 (s:ByteArray) (p:Nat) (b:Bool) (w:World) (hs:s.size≤140737488355328) (hp:p+2≤s.size) (c0:stands s p [92]=true) (c1:s.data.toList[p+1]? = some 116) :
    Calls Tryz.prog 103 #[.string s,.int .i64 p,.bool b] w fun e w'=>
      e = .returned (.tuple #[.agg #[.int .i64 1,.int .i32 9,.slice none 0 0,.int .i64 0],.int .i64 (p+1+1:Nat),.agg #[.int .i64 0,.int .i64 0,.int .i64 0]])∧Below w.heap.size w w':=by
  have hs':s.size≤1000000000000000:=by omega
  obtain ⟨bA,bC,bR,bO⟩:=esc_blocks w s p 150 32 189
  have A0:=hid bA;have C0:=hid bC;have O0:=hid bO
  have R0:=hid (show Rd _ (w.heap.size+1+1) s p [.int .i64 p] 189 from bR)
  clear bA bC bR bO
  go_enter Tryz.func103, Tryz.ntmps103
  go_wp2_with fail
  go_step3
  go_wp2_with fail
  refine (scan_has_yes _ _ ⟨#[92]⟩ p _ _ _ R0.out (by omega) hs' c0).mono ?_
  rintro e w1 ⟨rfl,hR,hG⟩
  have A1:=hid (A0.out.grown hG (ne_some (by omega)));have C1:=hid (C0.out.grown hG (ne_some (by omega)));have O1:=hid (O0.out.grown hG (ne_some (by omega)))
  have R1:=hid hR;have G1:=hid hG;clear hR hG
  go_wp2_with fail
  refine (scan_next_ascii _ _ (p+1) 116 _ _ _ R1.out (by omega) c1 (by decide) hs').mono ?_
  rintro e w2 ⟨rfl,hR,hG⟩
  have A2:=hid (A1.out.grown hG (ne_some (by omega)));have C2:=hid (C1.out.grown hG (ne_some (by omega)));have O2:=hid (O1.out.grown hG (ne_some (by omega)))
  have R2:=hid hR;have G2:=hid (grownBy_trans G1.out hG);clear hR hG
  have g1:=Rd.c1 R2.out
  go_wp2_with fail
  refine (Tryz.strings_IndexByte _ _ _).mono ?_
  rintro e w3 ⟨rfl,rfl⟩
  rw [show Lib.indexByte (⟨#[97,102,110,114,116,118]⟩:ByteArray).data.toList (min (116:Int) 127).toNat.toUInt8=4 from by decide]
  have A4:=A2;have C4:=C2;have O4:=O2;have R4:=R2;have G4:=G2
  have o0:=Blk.cell O4.out (j:=0) rfl;have o1:=Blk.cell O4.out (j:=1) rfl;have o2:=Blk.cell O4.out (j:=2) rfl;have o3:=Blk.cell O4.out (j:=3) rfl
  have p0:=O4.out.frozen 0;have p1:=O4.out.frozen 1;have p2:=O4.out.frozen 2;have p3:=O4.out.frozen 3
  go_wp2_with fail
  refine (Tryz.strings_IndexByte _ _ _).mono ?_
  rintro e w3 ⟨rfl,rfl⟩
  rw [show Lib.indexByte (⟨#[97,102,110,114,116,118]⟩:ByteArray).data.toList (116:Int).toNat.toUInt8=4 from by decide]
  go_wp2_with fail
  rw [show wrap32 (((⟨#[7,12,10,13,9,11]⟩:ByteArray)[4]'(by decide)).toNat:Int)=9 from by kernel_rfl]
  obtain ⟨W5,hW5⟩:∃ W5,W5=World.set4 w3 (w.heap.size+1+1+1) (.int .i64 1) (.int .i32 9) (.slice none 0 0) (.int .i64 0):=⟨_,rfl⟩
  have O5:=O4.out.set4 (.int .i64 1) (.int .i32 9) (.slice none 0 0) (.int .i64 0)
  have A5:=A4.out.set4_other (b:=w.heap.size+1+1+1) (by omega) (.int .i64 1) (.int .i32 9) (.slice none 0 0) (.int .i64 0)
  have C5:=C4.out.set4_other (b:=w.heap.size+1+1+1) (by omega) (.int .i64 1) (.int .i32 9) (.slice none 0 0) (.int .i64 0)
  have R5:=Blk.set4_other (b:=w.heap.size+1+1+1) R4.out (by omega) (.int .i64 1) (.int .i32 9) (.slice none 0 0) (.int .i64 0)
  have G5:=grownBy_set4 w3 (w.heap.size+1+1+1) (.int .i64 1) (.int .i32 9) (.slice none 0 0) (.int .i64 0)
  change Code.wp _ _ _ _ (World.set4 w3 (w.heap.size+1+1+1) (.int .i64 1) (.int .i32 9) (.slice none 0 0) (.int .i64 0))
  rw [← hW5] at O5 A5 C5 R5 G5 ⊢
  clear hW5 o0 o1 o2 o3 p0 p1 p2 p3
  clear g1
  have o0:=Blk.cell O5 (j:=0) rfl;have o1:=Blk.cell O5 (j:=1) rfl;have o2:=Blk.cell O5 (j:=2) rfl;have o3:=Blk.cell O5 (j:=3) rfl
  have r1:=Blk.cell R5 (j:=1) rfl
  have a0:=Blk.cell A5 (j:=0) rfl;have a1:=Blk.cell A5 (j:=1) rfl;have a2:=Blk.cell A5 (j:=2) rfl;have a3:=Blk.cell A5 (j:=3) rfl
  have b0:=A5.frozen 0;have b1:=A5.frozen 1;have b2:=A5.frozen 2;have b3:=A5.frozen 3
  have c0:=Blk.cell C5 (j:=0) rfl;have c1:=Blk.cell C5 (j:=1) rfl;have c2:=Blk.cell C5 (j:=2) rfl
  have d0:=C5.frozen 0;have d1:=C5.frozen 1;have d2:=C5.frozen 2
  have HO5:=hid O5;have HA5:=hid A5;have HC5:=hid C5;have HR5:=hid R5;have HG5:=hid G5
  clear O5 A5 C5 R5 G5
  go_region
  go_wp2_with fail
  rw [Exit.noGoto_ret]
  refine bodyPost_ret (v:=.tuple #[.agg #[.int .i64 1,.int .i32 9,.slice none 0 0,.int .i64 0],.int .i64 (p+1+1:Nat),.agg #[.int .i64 0,.int .i64 0,.int .i64 0]]) ?_ rfl ⟨rfl,?_⟩
  · simp [results,Tryz.results103,go_sem,a0,a1,a2,a3,c0,c1,c2]
  · have B0:Below w.heap.size w ((((w.alloc (.cells #[.int .i64 0,.int .i32 0,.slice none 0 0,.int .i64 0] 150)).alloc (.cells #[.int .i64 0,.int .i64 0,.int .i64 0] 32)).alloc (.cells #[.string s,.int .i64 p,.int .i64 p] 189)).alloc (.cells #[.int .i64 0,.int .i32 0,.slice none 0 0,.int .i64 0] 150)):=
      ((((Below.refl _ w).alloc (Nat.le_refl _) _).alloc (by simp) _).alloc (by simp;omega) _).alloc (by simp;omega) _
    have B5:=below_next (below_next B0 (Nat.le_refl _) G4.out (fun k e=>by cases e;omega)) (Nat.le_refl _) HG5.out (fun k e=>by cases e;omega)
    exact (((((((B5.setCell (by simp) _).setCell (by simp) _).setCell (by simp) _).setCell (by simp) _).setCell (by simp) _).setCell (by simp) _).setCell (by simp) _).drew
theorem escape_let118 (s:ByteArray) (p:Nat) (b:Bool) (w:World) (hs:s.size≤140737488355328) (hp:p+2≤s.size) (c0:stands s p [92]=true) (c1:s.data.toList[p+1]? = some 118) :
    Calls Tryz.prog 103 #[.string s,.int .i64 p,.bool b] w fun e w'=>
      e = .returned (.tuple #[.agg #[.int .i64 1,.int .i32 11,.slice none 0 0,.int .i64 0],.int .i64 (p+1+1:Nat),.agg #[.int .i64 0,.int .i64 0,.int .i64 0]])∧Below w.heap.size w w':=by
  have hs':s.size≤1000000000000000:=by omega
  obtain ⟨bA,bC,bR,bO⟩:=esc_blocks w s p 150 32 189
  have A0:=hid bA;have C0:=hid bC;have O0:=hid bO
  have R0:=hid (show Rd _ (w.heap.size+1+1) s p [.int .i64 p] 189 from bR)
  clear bA bC bR bO
  go_enter Tryz.func103, Tryz.ntmps103
  go_wp2_with fail
  go_step3
  go_wp2_with fail
  refine (scan_has_yes _ _ ⟨#[92]⟩ p _ _ _ R0.out (by omega) hs' c0).mono ?_
  rintro e w1 ⟨rfl,hR,hG⟩
  have A1:=hid (A0.out.grown hG (ne_some (by omega)));have C1:=hid (C0.out.grown hG (ne_some (by omega)));have O1:=hid (O0.out.grown hG (ne_some (by omega)))
  have R1:=hid hR;have G1:=hid hG;clear hR hG
  go_wp2_with fail
  refine (scan_next_ascii _ _ (p+1) 118 _ _ _ R1.out (by omega) c1 (by decide) hs').mono ?_
  rintro e w2 ⟨rfl,hR,hG⟩
  have A2:=hid (A1.out.grown hG (ne_some (by omega)));have C2:=hid (C1.out.grown hG (ne_some (by omega)));have O2:=hid (O1.out.grown hG (ne_some (by omega)))
  have R2:=hid hR;have G2:=hid (grownBy_trans G1.out hG);clear hR hG
  have g1:=Rd.c1 R2.out
  go_wp2_with fail
  refine (Tryz.strings_IndexByte _ _ _).mono ?_
  rintro e w3 ⟨rfl,rfl⟩
  rw [show Lib.indexByte (⟨#[97,102,110,114,116,118]⟩:ByteArray).data.toList (min (118:Int) 127).toNat.toUInt8=5 from by decide]
  have A4:=A2;have C4:=C2;have O4:=O2;have R4:=R2;have G4:=G2
  have o0:=Blk.cell O4.out (j:=0) rfl;have o1:=Blk.cell O4.out (j:=1) rfl;have o2:=Blk.cell O4.out (j:=2) rfl;have o3:=Blk.cell O4.out (j:=3) rfl
  have p0:=O4.out.frozen 0;have p1:=O4.out.frozen 1;have p2:=O4.out.frozen 2;have p3:=O4.out.frozen 3
  go_wp2_with fail
  refine (Tryz.strings_IndexByte _ _ _).mono ?_
  rintro e w3 ⟨rfl,rfl⟩
  rw [show Lib.indexByte (⟨#[97,102,110,114,116,118]⟩:ByteArray).data.toList (118:Int).toNat.toUInt8=5 from by decide]
  go_wp2_with fail
  rw [show wrap32 (((⟨#[7,12,10,13,9,11]⟩:ByteArray)[5]'(by decide)).toNat:Int)=11 from by kernel_rfl]
  obtain ⟨W5,hW5⟩:∃ W5,W5=World.set4 w3 (w.heap.size+1+1+1) (.int .i64 1) (.int .i32 11) (.slice none 0 0) (.int .i64 0):=⟨_,rfl⟩
  have O5:=O4.out.set4 (.int .i64 1) (.int .i32 11) (.slice none 0 0) (.int .i64 0)
  have A5:=A4.out.set4_other (b:=w.heap.size+1+1+1) (by omega) (.int .i64 1) (.int .i32 11) (.slice none 0 0) (.int .i64 0)
  have C5:=C4.out.set4_other (b:=w.heap.size+1+1+1) (by omega) (.int .i64 1) (.int .i32 11) (.slice none 0 0) (.int .i64 0)
  have R5:=Blk.set4_other (b:=w.heap.size+1+1+1) R4.out (by omega) (.int .i64 1) (.int .i32 11) (.slice none 0 0) (.int .i64 0)
  have G5:=grownBy_set4 w3 (w.heap.size+1+1+1) (.int .i64 1) (.int .i32 11) (.slice none 0 0) (.int .i64 0)
  change Code.wp _ _ _ _ (World.set4 w3 (w.heap.size+1+1+1) (.int .i64 1) (.int .i32 11) (.slice none 0 0) (.int .i64 0))
  rw [← hW5] at O5 A5 C5 R5 G5 ⊢
  clear hW5 o0 o1 o2 o3 p0 p1 p2 p3
  clear g1
  have o0:=Blk.cell O5 (j:=0) rfl;have o1:=Blk.cell O5 (j:=1) rfl;have o2:=Blk.cell O5 (j:=2) rfl;have o3:=Blk.cell O5 (j:=3) rfl
  have r1:=Blk.cell R5 (j:=1) rfl
  have a0:=Blk.cell A5 (j:=0) rfl;have a1:=Blk.cell A5 (j:=1) rfl;have a2:=Blk.cell A5 (j:=2) rfl;have a3:=Blk.cell A5 (j:=3) rfl
  have b0:=A5.frozen 0;have b1:=A5.frozen 1;have b2:=A5.frozen 2;have b3:=A5.frozen 3
  have c0:=Blk.cell C5 (j:=0) rfl;have c1:=Blk.cell C5 (j:=1) rfl;have c2:=Blk.cell C5 (j:=2) rfl
  have d0:=C5.frozen 0;have d1:=C5.frozen 1;have d2:=C5.frozen 2
  have HO5:=hid O5;have HA5:=hid A5;have HC5:=hid C5;have HR5:=hid R5;have HG5:=hid G5
  clear O5 A5 C5 R5 G5
  go_region
  go_wp2_with fail
  rw [Exit.noGoto_ret]
  refine bodyPost_ret (v:=.tuple #[.agg #[.int .i64 1,.int .i32 11,.slice none 0 0,.int .i64 0],.int .i64 (p+1+1:Nat),.agg #[.int .i64 0,.int .i64 0,.int .i64 0]]) ?_ rfl ⟨rfl,?_⟩
  · simp [results,Tryz.results103,go_sem,a0,a1,a2,a3,c0,c1,c2]
  · have B0:Below w.heap.size w ((((w.alloc (.cells #[.int .i64 0,.int .i32 0,.slice none 0 0,.int .i64 0] 150)).alloc (.cells #[.int .i64 0,.int .i64 0,.int .i64 0] 32)).alloc (.cells #[.string s,.int .i64 p,.int .i64 p] 189)).alloc (.cells #[.int .i64 0,.int .i32 0,.slice none 0 0,.int .i64 0] 150)):=
      ((((Below.refl _ w).alloc (Nat.le_refl _) _).alloc (by simp) _).alloc (by simp;omega) _).alloc (by simp;omega) _
    have B5:=below_next (below_next B0 (Nat.le_refl _) G4.out (fun k e=>by cases e;omega)) (Nat.le_refl _) HG5.out (fun k e=>by cases e;omega)
    exact (((((((B5.setCell (by simp) _).setCell (by simp) _).setCell (by simp) _).setCell (by simp) _).setCell (by simp) _).setCell (by simp) _).setCell (by simp) _).drew
theorem escape_at65 (s:ByteArray) (p:Nat) (w:World) (hs:s.size≤140737488355328) (hp:p+2≤s.size) (c0:stands s p [92]=true) (c1:s.data.toList[p+1]? = some 65) :
    Calls Tryz.prog 103 #[.string s,.int .i64 p,.bool true] w fun e w'=>
      e = .returned (.tuple #[.agg #[.int .i64 3,.int .i32 0,.slice none 0 0,.int .i64 1],.int .i64 (p+1+1:Nat),.agg #[.int .i64 0,.int .i64 0,.int .i64 0]])∧Below w.heap.size w w':=by
  have hs':s.size≤1000000000000000:=by omega
  obtain ⟨bA,bC,bR,bO⟩:=esc_blocks w s p 150 32 189
  have A0:=hid bA;have C0:=hid bC;have O0:=hid bO
  have R0:=hid (show Rd _ (w.heap.size+1+1) s p [.int .i64 p] 189 from bR)
  clear bA bC bR bO
  go_enter Tryz.func103, Tryz.ntmps103
  go_wp2_with fail
  go_step3
  go_wp2_with fail
  refine (scan_has_yes _ _ ⟨#[92]⟩ p _ _ _ R0.out (by omega) hs' c0).mono ?_
  rintro e w1 ⟨rfl,hR,hG⟩
  have A1:=hid (A0.out.grown hG (ne_some (by omega)));have C1:=hid (C0.out.grown hG (ne_some (by omega)));have O1:=hid (O0.out.grown hG (ne_some (by omega)))
  have R1:=hid hR;have G1:=hid hG;clear hR hG
  go_wp2_with fail
  refine (scan_next_ascii _ _ (p+1) 65 _ _ _ R1.out (by omega) c1 (by decide) hs').mono ?_
  rintro e w2 ⟨rfl,hR,hG⟩
  have A2:=hid (A1.out.grown hG (ne_some (by omega)));have C2:=hid (C1.out.grown hG (ne_some (by omega)));have O2:=hid (O1.out.grown hG (ne_some (by omega)))
  have R2:=hid hR;have G2:=hid (grownBy_trans G1.out hG);clear hR hG
  have g1:=Rd.c1 R2.out
  go_wp2_with fail
  refine (Tryz.strings_IndexByte _ _ _).mono ?_
  rintro e w3 ⟨rfl,rfl⟩
  rw [show Lib.indexByte (⟨#[97,102,110,114,116,118]⟩:ByteArray).data.toList (min (65:Int) 127).toNat.toUInt8 = -1 from by decide]
  have A4:=A2;have C4:=C2;have O4:=O2;have R4:=R2;have G4:=G2
  have o0:=Blk.cell O4.out (j:=0) rfl;have o1:=Blk.cell O4.out (j:=1) rfl;have o2:=Blk.cell O4.out (j:=2) rfl;have o3:=Blk.cell O4.out (j:=3) rfl
  have p0:=O4.out.frozen 0;have p1:=O4.out.frozen 1;have p2:=O4.out.frozen 2;have p3:=O4.out.frozen 3
  go_wp2_with fail
  obtain ⟨W5,hW5⟩:∃ W5,W5=World.set4 w3 (w.heap.size+1+1+1) (.int .i64 3) (.int .i32 0) (.slice none 0 0) (.int .i64 1):=⟨_,rfl⟩
  have O5:=O4.out.set4 (.int .i64 3) (.int .i32 0) (.slice none 0 0) (.int .i64 1)
  have A5:=A4.out.set4_other (b:=w.heap.size+1+1+1) (by omega) (.int .i64 3) (.int .i32 0) (.slice none 0 0) (.int .i64 1)
  have C5:=C4.out.set4_other (b:=w.heap.size+1+1+1) (by omega) (.int .i64 3) (.int .i32 0) (.slice none 0 0) (.int .i64 1)
  have R5:=Blk.set4_other (b:=w.heap.size+1+1+1) R4.out (by omega) (.int .i64 3) (.int .i32 0) (.slice none 0 0) (.int .i64 1)
  have G5:=grownBy_set4 w3 (w.heap.size+1+1+1) (.int .i64 3) (.int .i32 0) (.slice none 0 0) (.int .i64 1)
  change Code.wp _ _ _ _ (World.set4 w3 (w.heap.size+1+1+1) (.int .i64 3) (.int .i32 0) (.slice none 0 0) (.int .i64 1))
  rw [← hW5] at O5 A5 C5 R5 G5 ⊢
  clear hW5 o0 o1 o2 o3 p0 p1 p2 p3
  clear g1
  have o0:=Blk.cell O5 (j:=0) rfl;have o1:=Blk.cell O5 (j:=1) rfl;have o2:=Blk.cell O5 (j:=2) rfl;have o3:=Blk.cell O5 (j:=3) rfl
  have r1:=Blk.cell R5 (j:=1) rfl
  have a0:=Blk.cell A5 (j:=0) rfl;have a1:=Blk.cell A5 (j:=1) rfl;have a2:=Blk.cell A5 (j:=2) rfl;have a3:=Blk.cell A5 (j:=3) rfl
  have b0:=A5.frozen 0;have b1:=A5.frozen 1;have b2:=A5.frozen 2;have b3:=A5.frozen 3
  have c0:=Blk.cell C5 (j:=0) rfl;have c1:=Blk.cell C5 (j:=1) rfl;have c2:=Blk.cell C5 (j:=2) rfl
  have d0:=C5.frozen 0;have d1:=C5.frozen 1;have d2:=C5.frozen 2
  have HO5:=hid O5;have HA5:=hid A5;have HC5:=hid C5;have HR5:=hid R5;have HG5:=hid G5
  clear O5 A5 C5 R5 G5
  go_region
  go_wp2_with fail
  rw [Exit.noGoto_ret]
  refine bodyPost_ret (v:=.tuple #[.agg #[.int .i64 3,.int .i32 0,.slice none 0 0,.int .i64 1],.int .i64 (p+1+1:Nat),.agg #[.int .i64 0,.int .i64 0,.int .i64 0]]) ?_ rfl ⟨rfl,?_⟩
  · simp [results,Tryz.results103,go_sem,a0,a1,a2,a3,c0,c1,c2]
  · have B0:Below w.heap.size w ((((w.alloc (.cells #[.int .i64 0,.int .i32 0,.slice none 0 0,.int .i64 0] 150)).alloc (.cells #[.int .i64 0,.int .i64 0,.int .i64 0] 32)).alloc (.cells #[.string s,.int .i64 p,.int .i64 p] 189)).alloc (.cells #[.int .i64 0,.int .i32 0,.slice none 0 0,.int .i64 0] 150)):=
      ((((Below.refl _ w).alloc (Nat.le_refl _) _).alloc (by simp) _).alloc (by simp;omega) _).alloc (by simp;omega) _
    have B5:=below_next (below_next B0 (Nat.le_refl _) G4.out (fun k e=>by cases e;omega)) (Nat.le_refl _) HG5.out (fun k e=>by cases e;omega)
    exact (((((((B5.setCell (by simp) _).setCell (by simp) _).setCell (by simp) _).setCell (by simp) _).setCell (by simp) _).setCell (by simp) _).setCell (by simp) _).drew
theorem escape_at122 (s:ByteArray) (p:Nat) (w:World) (hs:s.size≤140737488355328) (hp:p+2≤s.size) (c0:stands s p [92]=true) (c1:s.data.toList[p+1]? = some 122) :
    Calls Tryz.prog 103 #[.string s,.int .i64 p,.bool true] w fun e w'=>
      e = .returned (.tuple #[.agg #[.int .i64 3,.int .i32 0,.slice none 0 0,.int .i64 2],.int .i64 (p+1+1:Nat),.agg #[.int .i64 0,.int .i64 0,.int .i64 0]])∧Below w.heap.size w w':=by
  have hs':s.size≤1000000000000000:=by omega
  obtain ⟨bA,bC,bR,bO⟩:=esc_blocks w s p 150 32 189
  have A0:=hid bA;have C0:=hid bC;have O0:=hid bO
  have R0:=hid (show Rd _ (w.heap.size+1+1) s p [.int .i64 p] 189 from bR)
  clear bA bC bR bO
  go_enter Tryz.func103, Tryz.ntmps103
  go_wp2_with fail
  go_step3
  go_wp2_with fail
  refine (scan_has_yes _ _ ⟨#[92]⟩ p _ _ _ R0.out (by omega) hs' c0).mono ?_
  rintro e w1 ⟨rfl,hR,hG⟩
  have A1:=hid (A0.out.grown hG (ne_some (by omega)));have C1:=hid (C0.out.grown hG (ne_some (by omega)));have O1:=hid (O0.out.grown hG (ne_some (by omega)))
  have R1:=hid hR;have G1:=hid hG;clear hR hG
  go_wp2_with fail
  refine (scan_next_ascii _ _ (p+1) 122 _ _ _ R1.out (by omega) c1 (by decide) hs').mono ?_
  rintro e w2 ⟨rfl,hR,hG⟩
  have A2:=hid (A1.out.grown hG (ne_some (by omega)));have C2:=hid (C1.out.grown hG (ne_some (by omega)));have O2:=hid (O1.out.grown hG (ne_some (by omega)))
  have R2:=hid hR;have G2:=hid (grownBy_trans G1.out hG);clear hR hG
  have g1:=Rd.c1 R2.out
  go_wp2_with fail
  refine (Tryz.strings_IndexByte _ _ _).mono ?_
  rintro e w3 ⟨rfl,rfl⟩
  rw [show Lib.indexByte (⟨#[97,102,110,114,116,118]⟩:ByteArray).data.toList (min (122:Int) 127).toNat.toUInt8 = -1 from by decide]
  have A4:=A2;have C4:=C2;have O4:=O2;have R4:=R2;have G4:=G2
  have o0:=Blk.cell O4.out (j:=0) rfl;have o1:=Blk.cell O4.out (j:=1) rfl;have o2:=Blk.cell O4.out (j:=2) rfl;have o3:=Blk.cell O4.out (j:=3) rfl
  have p0:=O4.out.frozen 0;have p1:=O4.out.frozen 1;have p2:=O4.out.frozen 2;have p3:=O4.out.frozen 3
  go_wp2_with fail
  obtain ⟨W5,hW5⟩:∃ W5,W5=World.set4 w3 (w.heap.size+1+1+1) (.int .i64 3) (.int .i32 0) (.slice none 0 0) (.int .i64 2):=⟨_,rfl⟩
  have O5:=O4.out.set4 (.int .i64 3) (.int .i32 0) (.slice none 0 0) (.int .i64 2)
  have A5:=A4.out.set4_other (b:=w.heap.size+1+1+1) (by omega) (.int .i64 3) (.int .i32 0) (.slice none 0 0) (.int .i64 2)
  have C5:=C4.out.set4_other (b:=w.heap.size+1+1+1) (by omega) (.int .i64 3) (.int .i32 0) (.slice none 0 0) (.int .i64 2)
  have R5:=Blk.set4_other (b:=w.heap.size+1+1+1) R4.out (by omega) (.int .i64 3) (.int .i32 0) (.slice none 0 0) (.int .i64 2)
  have G5:=grownBy_set4 w3 (w.heap.size+1+1+1) (.int .i64 3) (.int .i32 0) (.slice none 0 0) (.int .i64 2)
  change Code.wp _ _ _ _ (World.set4 w3 (w.heap.size+1+1+1) (.int .i64 3) (.int .i32 0) (.slice none 0 0) (.int .i64 2))
  rw [← hW5] at O5 A5 C5 R5 G5 ⊢
  clear hW5 o0 o1 o2 o3 p0 p1 p2 p3
  clear g1
  have o0:=Blk.cell O5 (j:=0) rfl;have o1:=Blk.cell O5 (j:=1) rfl;have o2:=Blk.cell O5 (j:=2) rfl;have o3:=Blk.cell O5 (j:=3) rfl
  have r1:=Blk.cell R5 (j:=1) rfl
  have a0:=Blk.cell A5 (j:=0) rfl;have a1:=Blk.cell A5 (j:=1) rfl;have a2:=Blk.cell A5 (j:=2) rfl;have a3:=Blk.cell A5 (j:=3) rfl
  have b0:=A5.frozen 0;have b1:=A5.frozen 1;have b2:=A5.frozen 2;have b3:=A5.frozen 3
  have c0:=Blk.cell C5 (j:=0) rfl;have c1:=Blk.cell C5 (j:=1) rfl;have c2:=Blk.cell C5 (j:=2) rfl
  have d0:=C5.frozen 0;have d1:=C5.frozen 1;have d2:=C5.frozen 2
  have HO5:=hid O5;have HA5:=hid A5;have HC5:=hid C5;have HR5:=hid R5;have HG5:=hid G5
  clear O5 A5 C5 R5 G5
  go_region
  go_wp2_with fail
  rw [Exit.noGoto_ret]
  refine bodyPost_ret (v:=.tuple #[.agg #[.int .i64 3,.int .i32 0,.slice none 0 0,.int .i64 2],.int .i64 (p+1+1:Nat),.agg #[.int .i64 0,.int .i64 0,.int .i64 0]]) ?_ rfl ⟨rfl,?_⟩
  · simp [results,Tryz.results103,go_sem,a0,a1,a2,a3,c0,c1,c2]
  · have B0:Below w.heap.size w ((((w.alloc (.cells #[.int .i64 0,.int .i32 0,.slice none 0 0,.int .i64 0] 150)).alloc (.cells #[.int .i64 0,.int .i64 0,.int .i64 0] 32)).alloc (.cells #[.string s,.int .i64 p,.int .i64 p] 189)).alloc (.cells #[.int .i64 0,.int .i32 0,.slice none 0 0,.int .i64 0] 150)):=
      ((((Below.refl _ w).alloc (Nat.le_refl _) _).alloc (by simp) _).alloc (by simp;omega) _).alloc (by simp;omega) _
    have B5:=below_next (below_next B0 (Nat.le_refl _) G4.out (fun k e=>by cases e;omega)) (Nat.le_refl _) HG5.out (fun k e=>by cases e;omega)
    exact (((((((B5.setCell (by simp) _).setCell (by simp) _).setCell (by simp) _).setCell (by simp) _).setCell (by simp) _).setCell (by simp) _).setCell (by simp) _).drew
theorem escape_at98 (s:ByteArray) (p:Nat) (w:World) (hs:s.size≤140737488355328) (hp:p+2≤s.size) (c0:stands s p [92]=true) (c1:s.data.toList[p+1]? = some 98) :
    Calls Tryz.prog 103 #[.string s,.int .i64 p,.bool true] w fun e w'=>
      e = .returned (.tuple #[.agg #[.int .i64 3,.int .i32 0,.slice none 0 0,.int .i64 16],.int .i64 (p+1+1:Nat),.agg #[.int .i64 0,.int .i64 0,.int .i64 0]])∧Below w.heap.size w w':=by
  have hs':s.size≤1000000000000000:=by omega
  obtain ⟨bA,bC,bR,bO⟩:=esc_blocks w s p 150 32 189
  have A0:=hid bA;have C0:=hid bC;have O0:=hid bO
  have R0:=hid (show Rd _ (w.heap.size+1+1) s p [.int .i64 p] 189 from bR)
  clear bA bC bR bO
  go_enter Tryz.func103, Tryz.ntmps103
  go_wp2_with fail
  go_step3
  go_wp2_with fail
  refine (scan_has_yes _ _ ⟨#[92]⟩ p _ _ _ R0.out (by omega) hs' c0).mono ?_
  rintro e w1 ⟨rfl,hR,hG⟩
  have A1:=hid (A0.out.grown hG (ne_some (by omega)));have C1:=hid (C0.out.grown hG (ne_some (by omega)));have O1:=hid (O0.out.grown hG (ne_some (by omega)))
  have R1:=hid hR;have G1:=hid hG;clear hR hG
  go_wp2_with fail
  refine (scan_next_ascii _ _ (p+1) 98 _ _ _ R1.out (by omega) c1 (by decide) hs').mono ?_
  rintro e w2 ⟨rfl,hR,hG⟩
  have A2:=hid (A1.out.grown hG (ne_some (by omega)));have C2:=hid (C1.out.grown hG (ne_some (by omega)));have O2:=hid (O1.out.grown hG (ne_some (by omega)))
  have R2:=hid hR;have G2:=hid (grownBy_trans G1.out hG);clear hR hG
  have g1:=Rd.c1 R2.out
  go_wp2_with fail
  refine (Tryz.strings_IndexByte _ _ _).mono ?_
  rintro e w3 ⟨rfl,rfl⟩
  rw [show Lib.indexByte (⟨#[97,102,110,114,116,118]⟩:ByteArray).data.toList (min (98:Int) 127).toNat.toUInt8 = -1 from by decide]
  have A4:=A2;have C4:=C2;have O4:=O2;have R4:=R2;have G4:=G2
  have o0:=Blk.cell O4.out (j:=0) rfl;have o1:=Blk.cell O4.out (j:=1) rfl;have o2:=Blk.cell O4.out (j:=2) rfl;have o3:=Blk.cell O4.out (j:=3) rfl
  have p0:=O4.out.frozen 0;have p1:=O4.out.frozen 1;have p2:=O4.out.frozen 2;have p3:=O4.out.frozen 3
  go_wp2_with fail
  obtain ⟨W5,hW5⟩:∃ W5,W5=World.set4 w3 (w.heap.size+1+1+1) (.int .i64 3) (.int .i32 0) (.slice none 0 0) (.int .i64 16):=⟨_,rfl⟩
  have O5:=O4.out.set4 (.int .i64 3) (.int .i32 0) (.slice none 0 0) (.int .i64 16)
  have A5:=A4.out.set4_other (b:=w.heap.size+1+1+1) (by omega) (.int .i64 3) (.int .i32 0) (.slice none 0 0) (.int .i64 16)
  have C5:=C4.out.set4_other (b:=w.heap.size+1+1+1) (by omega) (.int .i64 3) (.int .i32 0) (.slice none 0 0) (.int .i64 16)
  have R5:=Blk.set4_other (b:=w.heap.size+1+1+1) R4.out (by omega) (.int .i64 3) (.int .i32 0) (.slice none 0 0) (.int .i64 16)
  have G5:=grownBy_set4 w3 (w.heap.size+1+1+1) (.int .i64 3) (.int .i32 0) (.slice none 0 0) (.int .i64 16)
  change Code.wp _ _ _ _ (World.set4 w3 (w.heap.size+1+1+1) (.int .i64 3) (.int .i32 0) (.slice none 0 0) (.int .i64 16))
  rw [← hW5] at O5 A5 C5 R5 G5 ⊢
  clear hW5 o0 o1 o2 o3 p0 p1 p2 p3
  clear g1
  have o0:=Blk.cell O5 (j:=0) rfl;have o1:=Blk.cell O5 (j:=1) rfl;have o2:=Blk.cell O5 (j:=2) rfl;have o3:=Blk.cell O5 (j:=3) rfl
  have r1:=Blk.cell R5 (j:=1) rfl
  have a0:=Blk.cell A5 (j:=0) rfl;have a1:=Blk.cell A5 (j:=1) rfl;have a2:=Blk.cell A5 (j:=2) rfl;have a3:=Blk.cell A5 (j:=3) rfl
  have b0:=A5.frozen 0;have b1:=A5.frozen 1;have b2:=A5.frozen 2;have b3:=A5.frozen 3
  have c0:=Blk.cell C5 (j:=0) rfl;have c1:=Blk.cell C5 (j:=1) rfl;have c2:=Blk.cell C5 (j:=2) rfl
  have d0:=C5.frozen 0;have d1:=C5.frozen 1;have d2:=C5.frozen 2
  have HO5:=hid O5;have HA5:=hid A5;have HC5:=hid C5;have HR5:=hid R5;have HG5:=hid G5
  clear O5 A5 C5 R5 G5
  go_region
  go_wp2_with fail
  rw [Exit.noGoto_ret]
  refine bodyPost_ret (v:=.tuple #[.agg #[.int .i64 3,.int .i32 0,.slice none 0 0,.int .i64 16],.int .i64 (p+1+1:Nat),.agg #[.int .i64 0,.int .i64 0,.int .i64 0]]) ?_ rfl ⟨rfl,?_⟩
  · simp [results,Tryz.results103,go_sem,a0,a1,a2,a3,c0,c1,c2]
  · have B0:Below w.heap.size w ((((w.alloc (.cells #[.int .i64 0,.int .i32 0,.slice none 0 0,.int .i64 0] 150)).alloc (.cells #[.int .i64 0,.int .i64 0,.int .i64 0] 32)).alloc (.cells #[.string s,.int .i64 p,.int .i64 p] 189)).alloc (.cells #[.int .i64 0,.int .i32 0,.slice none 0 0,.int .i64 0] 150)):=
      ((((Below.refl _ w).alloc (Nat.le_refl _) _).alloc (by simp) _).alloc (by simp;omega) _).alloc (by simp;omega) _
    have B5:=below_next (below_next B0 (Nat.le_refl _) G4.out (fun k e=>by cases e;omega)) (Nat.le_refl _) HG5.out (fun k e=>by cases e;omega)
    exact (((((((B5.setCell (by simp) _).setCell (by simp) _).setCell (by simp) _).setCell (by simp) _).setCell (by simp) _).setCell (by simp) _).setCell (by simp) _).drew
theorem escape_at66 (s:ByteArray) (p:Nat) (w:World) (hs:s.size≤140737488355328) (hp:p+2≤s.size) (c0:stands s p [92]=true) (c1:s.data.toList[p+1]? = some 66) :
    Calls Tryz.prog 103 #[.string s,.int .i64 p,.bool true] w fun e w'=>
      e = .returned (.tuple #[.agg #[.int .i64 3,.int .i32 0,.slice none 0 0,.int .i64 32],.int .i64 (p+1+1:Nat),.agg #[.int .i64 0,.int .i64 0,.int .i64 0]])∧Below w.heap.size w w':=by
  have hs':s.size≤1000000000000000:=by omega
  obtain ⟨bA,bC,bR,bO⟩:=esc_blocks w s p 150 32 189
  have A0:=hid bA;have C0:=hid bC;have O0:=hid bO
  have R0:=hid (show Rd _ (w.heap.size+1+1) s p [.int .i64 p] 189 from bR)
  clear bA bC bR bO
  go_enter Tryz.func103, Tryz.ntmps103
  go_wp2_with fail
  go_step3
  go_wp2_with fail
  refine (scan_has_yes _ _ ⟨#[92]⟩ p _ _ _ R0.out (by omega) hs' c0).mono ?_
  rintro e w1 ⟨rfl,hR,hG⟩
  have A1:=hid (A0.out.grown hG (ne_some (by omega)));have C1:=hid (C0.out.grown hG (ne_some (by omega)));have O1:=hid (O0.out.grown hG (ne_some (by omega)))
  have R1:=hid hR;have G1:=hid hG;clear hR hG
  go_wp2_with fail
  refine (scan_next_ascii _ _ (p+1) 66 _ _ _ R1.out (by omega) c1 (by decide) hs').mono ?_
  rintro e w2 ⟨rfl,hR,hG⟩
  have A2:=hid (A1.out.grown hG (ne_some (by omega)));have C2:=hid (C1.out.grown hG (ne_some (by omega)));have O2:=hid (O1.out.grown hG (ne_some (by omega)))
  have R2:=hid hR;have G2:=hid (grownBy_trans G1.out hG);clear hR hG
  have g1:=Rd.c1 R2.out
  go_wp2_with fail
  refine (Tryz.strings_IndexByte _ _ _).mono ?_
  rintro e w3 ⟨rfl,rfl⟩
  rw [show Lib.indexByte (⟨#[97,102,110,114,116,118]⟩:ByteArray).data.toList (min (66:Int) 127).toNat.toUInt8 = -1 from by decide]
  have A4:=A2;have C4:=C2;have O4:=O2;have R4:=R2;have G4:=G2
  have o0:=Blk.cell O4.out (j:=0) rfl;have o1:=Blk.cell O4.out (j:=1) rfl;have o2:=Blk.cell O4.out (j:=2) rfl;have o3:=Blk.cell O4.out (j:=3) rfl
  have p0:=O4.out.frozen 0;have p1:=O4.out.frozen 1;have p2:=O4.out.frozen 2;have p3:=O4.out.frozen 3
  go_wp2_with fail
  obtain ⟨W5,hW5⟩:∃ W5,W5=World.set4 w3 (w.heap.size+1+1+1) (.int .i64 3) (.int .i32 0) (.slice none 0 0) (.int .i64 32):=⟨_,rfl⟩
  have O5:=O4.out.set4 (.int .i64 3) (.int .i32 0) (.slice none 0 0) (.int .i64 32)
  have A5:=A4.out.set4_other (b:=w.heap.size+1+1+1) (by omega) (.int .i64 3) (.int .i32 0) (.slice none 0 0) (.int .i64 32)
  have C5:=C4.out.set4_other (b:=w.heap.size+1+1+1) (by omega) (.int .i64 3) (.int .i32 0) (.slice none 0 0) (.int .i64 32)
  have R5:=Blk.set4_other (b:=w.heap.size+1+1+1) R4.out (by omega) (.int .i64 3) (.int .i32 0) (.slice none 0 0) (.int .i64 32)
  have G5:=grownBy_set4 w3 (w.heap.size+1+1+1) (.int .i64 3) (.int .i32 0) (.slice none 0 0) (.int .i64 32)
  change Code.wp _ _ _ _ (World.set4 w3 (w.heap.size+1+1+1) (.int .i64 3) (.int .i32 0) (.slice none 0 0) (.int .i64 32))
  rw [← hW5] at O5 A5 C5 R5 G5 ⊢
  clear hW5 o0 o1 o2 o3 p0 p1 p2 p3
  clear g1
  have o0:=Blk.cell O5 (j:=0) rfl;have o1:=Blk.cell O5 (j:=1) rfl;have o2:=Blk.cell O5 (j:=2) rfl;have o3:=Blk.cell O5 (j:=3) rfl
  have r1:=Blk.cell R5 (j:=1) rfl
  have a0:=Blk.cell A5 (j:=0) rfl;have a1:=Blk.cell A5 (j:=1) rfl;have a2:=Blk.cell A5 (j:=2) rfl;have a3:=Blk.cell A5 (j:=3) rfl
  have b0:=A5.frozen 0;have b1:=A5.frozen 1;have b2:=A5.frozen 2;have b3:=A5.frozen 3
  have c0:=Blk.cell C5 (j:=0) rfl;have c1:=Blk.cell C5 (j:=1) rfl;have c2:=Blk.cell C5 (j:=2) rfl
  have d0:=C5.frozen 0;have d1:=C5.frozen 1;have d2:=C5.frozen 2
  have HO5:=hid O5;have HA5:=hid A5;have HC5:=hid C5;have HR5:=hid R5;have HG5:=hid G5
  clear O5 A5 C5 R5 G5
  go_region
  go_wp2_with fail
  rw [Exit.noGoto_ret]
  refine bodyPost_ret (v:=.tuple #[.agg #[.int .i64 3,.int .i32 0,.slice none 0 0,.int .i64 32],.int .i64 (p+1+1:Nat),.agg #[.int .i64 0,.int .i64 0,.int .i64 0]]) ?_ rfl ⟨rfl,?_⟩
  · simp [results,Tryz.results103,go_sem,a0,a1,a2,a3,c0,c1,c2]
  · have B0:Below w.heap.size w ((((w.alloc (.cells #[.int .i64 0,.int .i32 0,.slice none 0 0,.int .i64 0] 150)).alloc (.cells #[.int .i64 0,.int .i64 0,.int .i64 0] 32)).alloc (.cells #[.string s,.int .i64 p,.int .i64 p] 189)).alloc (.cells #[.int .i64 0,.int .i32 0,.slice none 0 0,.int .i64 0] 150)):=
      ((((Below.refl _ w).alloc (Nat.le_refl _) _).alloc (by simp) _).alloc (by simp;omega) _).alloc (by simp;omega) _
    have B5:=below_next (below_next B0 (Nat.le_refl _) G4.out (fun k e=>by cases e;omega)) (Nat.le_refl _) HG5.out (fun k e=>by cases e;omega)
    exact (((((((B5.setCell (by simp) _).setCell (by simp) _).setCell (by simp) _).setCell (by simp) _).setCell (by simp) _).setCell (by simp) _).setCell (by simp) _).drew
theorem escape_at81 (s:ByteArray) (p:Nat) (w:World) (hs:s.size≤140737488355328) (hp:p+2≤s.size) (c0:stands s p [92]=true) (c1:s.data.toList[p+1]? = some 81) :
    Calls Tryz.prog 103 #[.string s,.int .i64 p,.bool true] w fun e w'=>
      e = .returned (.tuple #[.agg #[.int .i64 4,.int .i32 0,.slice none 0 0,.int .i64 0],.int .i64 (p+1+1:Nat),.agg #[.int .i64 0,.int .i64 0,.int .i64 0]])∧Below w.heap.size w w':=by
  have hs':s.size≤1000000000000000:=by omega
  obtain ⟨bA,bC,bR,bO⟩:=esc_blocks w s p 150 32 189
  have A0:=hid bA;have C0:=hid bC;have O0:=hid bO
  have R0:=hid (show Rd _ (w.heap.size+1+1) s p [.int .i64 p] 189 from bR)
  clear bA bC bR bO
  go_enter Tryz.func103, Tryz.ntmps103
  go_wp2_with fail
  go_step3
  go_wp2_with fail
  refine (scan_has_yes _ _ ⟨#[92]⟩ p _ _ _ R0.out (by omega) hs' c0).mono ?_
  rintro e w1 ⟨rfl,hR,hG⟩
  have A1:=hid (A0.out.grown hG (ne_some (by omega)));have C1:=hid (C0.out.grown hG (ne_some (by omega)));have O1:=hid (O0.out.grown hG (ne_some (by omega)))
  have R1:=hid hR;have G1:=hid hG;clear hR hG
  go_wp2_with fail
  refine (scan_next_ascii _ _ (p+1) 81 _ _ _ R1.out (by omega) c1 (by decide) hs').mono ?_
  rintro e w2 ⟨rfl,hR,hG⟩
  have A2:=hid (A1.out.grown hG (ne_some (by omega)));have C2:=hid (C1.out.grown hG (ne_some (by omega)));have O2:=hid (O1.out.grown hG (ne_some (by omega)))
  have R2:=hid hR;have G2:=hid (grownBy_trans G1.out hG);clear hR hG
  have g1:=Rd.c1 R2.out
  go_wp2_with fail
  refine (Tryz.strings_IndexByte _ _ _).mono ?_
  rintro e w3 ⟨rfl,rfl⟩
  rw [show Lib.indexByte (⟨#[97,102,110,114,116,118]⟩:ByteArray).data.toList (min (81:Int) 127).toNat.toUInt8 = -1 from by decide]
  have A4:=A2;have C4:=C2;have O4:=O2;have R4:=R2;have G4:=G2
  have o0:=Blk.cell O4.out (j:=0) rfl;have o1:=Blk.cell O4.out (j:=1) rfl;have o2:=Blk.cell O4.out (j:=2) rfl;have o3:=Blk.cell O4.out (j:=3) rfl
  have p0:=O4.out.frozen 0;have p1:=O4.out.frozen 1;have p2:=O4.out.frozen 2;have p3:=O4.out.frozen 3
  go_wp2_with fail
  obtain ⟨W5,hW5⟩:∃ W5,W5=World.set4 w3 (w.heap.size+1+1+1) (.int .i64 4) (.int .i32 0) (.slice none 0 0) (.int .i64 0):=⟨_,rfl⟩
  have O5:=O4.out.set4 (.int .i64 4) (.int .i32 0) (.slice none 0 0) (.int .i64 0)
  have A5:=A4.out.set4_other (b:=w.heap.size+1+1+1) (by omega) (.int .i64 4) (.int .i32 0) (.slice none 0 0) (.int .i64 0)
  have C5:=C4.out.set4_other (b:=w.heap.size+1+1+1) (by omega) (.int .i64 4) (.int .i32 0) (.slice none 0 0) (.int .i64 0)
  have R5:=Blk.set4_other (b:=w.heap.size+1+1+1) R4.out (by omega) (.int .i64 4) (.int .i32 0) (.slice none 0 0) (.int .i64 0)
  have G5:=grownBy_set4 w3 (w.heap.size+1+1+1) (.int .i64 4) (.int .i32 0) (.slice none 0 0) (.int .i64 0)
  change Code.wp _ _ _ _ (World.set4 w3 (w.heap.size+1+1+1) (.int .i64 4) (.int .i32 0) (.slice none 0 0) (.int .i64 0))
  rw [← hW5] at O5 A5 C5 R5 G5 ⊢
  clear hW5 o0 o1 o2 o3 p0 p1 p2 p3
  clear g1
  have o0:=Blk.cell O5 (j:=0) rfl;have o1:=Blk.cell O5 (j:=1) rfl;have o2:=Blk.cell O5 (j:=2) rfl;have o3:=Blk.cell O5 (j:=3) rfl
  have r1:=Blk.cell R5 (j:=1) rfl
  have a0:=Blk.cell A5 (j:=0) rfl;have a1:=Blk.cell A5 (j:=1) rfl;have a2:=Blk.cell A5 (j:=2) rfl;have a3:=Blk.cell A5 (j:=3) rfl
  have b0:=A5.frozen 0;have b1:=A5.frozen 1;have b2:=A5.frozen 2;have b3:=A5.frozen 3
  have c0:=Blk.cell C5 (j:=0) rfl;have c1:=Blk.cell C5 (j:=1) rfl;have c2:=Blk.cell C5 (j:=2) rfl
  have d0:=C5.frozen 0;have d1:=C5.frozen 1;have d2:=C5.frozen 2
  have HO5:=hid O5;have HA5:=hid A5;have HC5:=hid C5;have HR5:=hid R5;have HG5:=hid G5
  clear O5 A5 C5 R5 G5
  go_region
  go_wp2_with fail
  rw [Exit.noGoto_ret]
  refine bodyPost_ret (v:=.tuple #[.agg #[.int .i64 4,.int .i32 0,.slice none 0 0,.int .i64 0],.int .i64 (p+1+1:Nat),.agg #[.int .i64 0,.int .i64 0,.int .i64 0]]) ?_ rfl ⟨rfl,?_⟩
  · simp [results,Tryz.results103,go_sem,a0,a1,a2,a3,c0,c1,c2]
  · have B0:Below w.heap.size w ((((w.alloc (.cells #[.int .i64 0,.int .i32 0,.slice none 0 0,.int .i64 0] 150)).alloc (.cells #[.int .i64 0,.int .i64 0,.int .i64 0] 32)).alloc (.cells #[.string s,.int .i64 p,.int .i64 p] 189)).alloc (.cells #[.int .i64 0,.int .i32 0,.slice none 0 0,.int .i64 0] 150)):=
      ((((Below.refl _ w).alloc (Nat.le_refl _) _).alloc (by simp) _).alloc (by simp;omega) _).alloc (by simp;omega) _
    have B5:=below_next (below_next B0 (Nat.le_refl _) G4.out (fun k e=>by cases e;omega)) (Nat.le_refl _) HG5.out (fun k e=>by cases e;omega)
    exact (((((((B5.setCell (by simp) _).setCell (by simp) _).setCell (by simp) _).setCell (by simp) _).setCell (by simp) _).setCell (by simp) _).setCell (by simp) _).drew
end Go.Proofs.YtnhnldmldnhaoaaGreatDoor
