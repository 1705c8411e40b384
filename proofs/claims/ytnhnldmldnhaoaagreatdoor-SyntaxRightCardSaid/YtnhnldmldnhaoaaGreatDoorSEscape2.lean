/- scan.Escape's other ways: none, a backslash alone, a number by code's contract, a property, the letters of the flavour. -/
import Derived.Test.YtnhnldmldnhaoaaGreatDoorSHead06
import Derived.Test.YtnhnldmldnhaoaaGreatDoorSUntil
import Derived.ScopeJumps
set_option maxRecDepth 100000
set_option maxHeartbeats 16000000
open Go.Lib (hid)
namespace Go.Proofs.YtnhnldmldnhaoaaGreatDoor
open Go Go.RowKit Go.Proofs
theorem jump_ret2 {l:Nat} {J:Act→World→Prop} {Q:Exit→Act→World→Prop} {a:Act} {w:World}:Exit.jump l J Q .ret a w=Q .ret a w:=rfl
def escAct (s:ByteArray) (p:Nat) (to_:Int) (b:Nat) (u:Nat→Value):Act:=
  ⟨#[.string s,.int .i64 p,u 2,undef,undef,undef,.pointer (some ⟨b,0,none⟩),u 7,.pointer (some ⟨b+1,0,none⟩),u 9,u 10,u 11,.int .i64 to_,u 13,u 14,u 15,u 16,u 17,u 18,u 19,u 20,u 21,u 22,u 23,u 24,u 25,u 26,u 27,u 28,u 29,u 30,u 31,u 32,u 33,u 34,u 35,u 36,u 37,u 38,u 39,u 40,u 41,u 42,u 43,u 44,u 45,u 46,u 47,u 48,u 49,u 50,u 51,u 52,u 53,u 54,u 55,u 56,u 57,u 58,u 59,u 60,u 61,u 62,u 63,u 64,u 65,u 66,u 67,u 68,u 69,u 70,u 71,u 72,u 73,u 74,u 75,u 76,u 77,u 78,u 79,u 80,u 81,u 82,u 83,u 84,u 85,u 86,u 87,u 88,u 89,u 90,u 91,u 92,u 93,u 94,u 95,u 96,u 97,u 98,u 99,u 100,u 101,u 102,u 103,u 104,u 105,u 106,u 107,u 108,u 109,u 110,u 111,u 112,u 113,u 114,u 115,u 116,u 117,u 118,u 119,u 120,u 121,u 122,u 123,u 124,u 125,u 126,u 127,u 128,u 129,u 130,u 131,u 132,u 133,u 134,u 135,u 136,u 137,u 138,u 139,u 140,u 141,u 142,u 143,u 144,u 145,u 146,u 147,u 148,u 149,u 150,u 151,u 152,u 153,u 154,u 155,u 156,u 157,u 158,u 159,u 160,u 161,u 162,u 163,u 164,u 165,u 166,u 167,u 168,u 169,u 170,u 171,u 172,u 173,u 174,u 175,u 176,u 177,u 178,u 179,u 180,u 181,u 182,u 183,u 184,u 185,u 186,u 187,u 188,u 189,u 190],[]⟩
def escJ (s:ByteArray) (p:Nat) (to_:Int) (w:World) (a:Act) (w':World):Prop:=
  ∃ u,a=escAct s p to_ w.heap.size u∧Blk w' w.heap.size esc0 150∧Blk w' (w.heap.size+1) wrong0 32∧Below w.heap.size w w'
theorem escJ_intro {s:ByteArray} {p:Nat} {to_:Int} {w:World} {a:Act} {w':World} (hfr:a=escAct s p to_ w.heap.size (fun i=>a.tmps.getD i undef))
    (hA:Blk w' w.heap.size esc0 150) (hC:Blk w' (w.heap.size+1) wrong0 32) (hB:Below w.heap.size w w'):escJ s p to_ w a w':=⟨_,hfr,hA,hC,hB⟩
theorem esc_below (w:World) (s:ByteArray) (p:Nat) :
    Below w.heap.size w ((((w.alloc (.cells #[.int .i64 0,.int .i32 0,.slice none 0 0,.int .i64 0] 150)).alloc (.cells #[.int .i64 0,.int .i64 0,.int .i64 0] 32)).alloc (.cells #[.string s,.int .i64 p,.int .i64 p] 189)).alloc (.cells #[.int .i64 0,.int .i32 0,.slice none 0 0,.int .i64 0] 150)):=
  ((((Below.refl _ w).alloc (Nat.le_refl _) _).alloc (by simp) _).alloc (by simp;omega) _).alloc (by simp;omega) _
theorem letters_no (C:Int) (h0:0≤C) (h:C≠97∧C≠102∧C≠110∧C≠114∧C≠116∧C≠118):Lib.indexByte (⟨#[97,102,110,114,116,118]⟩:ByteArray).data.toList (min C 127).toNat.toUInt8 = -1:=by
  obtain ⟨k,hk,hk2⟩:∃ k:Nat,k < 128∧(min C 127).toNat=k:=⟨_,by omega,rfl⟩
  have hne:k≠97∧k≠102∧k≠110∧k≠114∧k≠116∧k≠118:=by omega
  rw [hk2]
  have key:∀ k:Fin 128,(k.val≠97∧k.val≠102∧k.val≠110∧k.val≠114∧k.val≠116∧k.val≠118)→Lib.indexByte (⟨#[97,102,110,114,116,118]⟩:ByteArray).data.toList k.val.toUInt8 = -1:=by decide
  exact key ⟨k,hk⟩ hne
theorem escape_nob (s:ByteArray) (p:Nat) (b:Bool) (w:World) (hs:s.size≤140737488355328) (hp:p≤s.size) (c0:stands s p [92]=false) :
    Calls Tryz.prog 103 #[.string s,.int .i64 p,.bool b] w fun e w'=>
      e = .returned (.tuple #[.agg #[.int .i64 0,.int .i32 0,.slice none 0 0,.int .i64 0],.int .i64 0,.agg #[.int .i64 1,.int .i64 p,.int .i64 p]])∧Below w.heap.size w w':=by
  have hs':s.size≤1000000000000000:=by omega
  obtain ⟨bA,bC,bR,bO⟩:=esc_blocks w s p 150 32 189
  have A0:=hid bA;have C0:=hid bC;have O0:=hid bO
  have R0:=hid (show Rd _ (w.heap.size+1+1) s p [.int .i64 p] 189 from bR)
  have B0:=hid (esc_below w s p)
  clear bA bC bR bO
  go_enter Tryz.func103, Tryz.ntmps103
  go_wp2_with fail
  go_step3
  go_wp2_with fail
  refine (scan_has_no _ _ ⟨#[92]⟩ p _ _ _ R0.out (by omega) c0).mono ?_
  rintro e w1 ⟨rfl,hR,hG⟩
  have A1:=hid (A0.out.grown hG (ne_some (by omega)));have C1:=hid (C0.out.grown hG (ne_some (by omega)));have O1:=hid (O0.out.grown hG (ne_some (by omega)))
  have R1:=hid hR;have B1:=hid (below_next B0.out (Nat.le_refl _) hG (fun k e=>by cases e;omega));clear hR hG
  have a0:=Blk.cell A1.out (j:=0) rfl;have a1:=Blk.cell A1.out (j:=1) rfl;have a2:=Blk.cell A1.out (j:=2) rfl;have a3:=Blk.cell A1.out (j:=3) rfl
  have b0:=A1.out.frozen 0;have b1:=A1.out.frozen 1;have b2:=A1.out.frozen 2;have b3:=A1.out.frozen 3
  have d0':=Blk.cell C1.out (j:=0) rfl;have d1':=Blk.cell C1.out (j:=1) rfl;have d2':=Blk.cell C1.out (j:=2) rfl
  have d0:=C1.out.frozen 0;have d1:=C1.out.frozen 1;have d2:=C1.out.frozen 2
  have o0:=Blk.cell O1.out (j:=0) rfl;have o1:=Blk.cell O1.out (j:=1) rfl;have o2:=Blk.cell O1.out (j:=2) rfl;have o3:=Blk.cell O1.out (j:=3) rfl
  have p0:=O1.out.frozen 0;have p1:=O1.out.frozen 1;have p2:=O1.out.frozen 2;have p3:=O1.out.frozen 3
  go_wp2_with fail
  rw [Exit.noGoto_ret]
  refine bodyPost_ret (v:=.tuple #[.agg #[.int .i64 0,.int .i32 0,.slice none 0 0,.int .i64 0],.int .i64 0,.agg #[.int .i64 1,.int .i64 p,.int .i64 p]]) ?_ rfl ⟨rfl,?_⟩
  · simp [results,Tryz.results103,go_sem,a0,a1,a2,a3,d0',d1',d2']
  · exact (((((((B1.out.setCell (by simp) _).setCell (by simp) _).setCell (by simp) _).setCell (by simp) _).setCell (by simp) _).setCell (by simp) _).setCell (by simp) _)
theorem escape_trail (s:ByteArray) (p:Nat) (b:Bool) (w:World) (hs:s.size≤140737488355328) (hT:Tabs w) (hp:p+1=s.size) (c0:stands s p [92]=true) :
    Calls Tryz.prog 103 #[.string s,.int .i64 p,.bool b] w fun e w'=>
      e = .returned (.tuple #[.agg #[.int .i64 0,.int .i32 0,.slice none 0 0,.int .i64 0],.int .i64 0,.agg #[.int .i64 62,.int .i64 p,.int .i64 ((p:Int)+1)]])∧Below w.heap.size w w':=by
  have hs':s.size≤1000000000000000:=by omega
  obtain ⟨bA,bC,bR,bO⟩:=esc_blocks w s p 150 32 189
  have A0:=hid bA;have C0:=hid bC;have O0:=hid bO
  have R0:=hid (show Rd _ (w.heap.size+1+1) s p [.int .i64 p] 189 from bR)
  have B0:=hid (esc_below w s p)
  have hl:=hT.lt
  have T0:=hid ((((hT.alloc (.cells #[.int .i64 0,.int .i32 0,.slice none 0 0,.int .i64 0] 150)).alloc (.cells #[.int .i64 0,.int .i64 0,.int .i64 0] 32)).alloc (.cells #[.string s,.int .i64 p,.int .i64 p] 189)).alloc (.cells #[.int .i64 0,.int .i32 0,.slice none 0 0,.int .i64 0] 150))
  clear hT
  clear bA bC bR bO
  go_enter Tryz.func103, Tryz.ntmps103
  go_wp2_with fail
  go_step3
  go_wp2_with fail
  refine (scan_has_yes _ _ ⟨#[92]⟩ p _ _ _ R0.out (by omega) hs' c0).mono ?_
  rintro e w1 ⟨rfl,hR,hG⟩
  have A1:=hid (A0.out.grown hG (ne_some (by omega)));have C1:=hid (C0.out.grown hG (ne_some (by omega)));have O1:=hid (O0.out.grown hG (ne_some (by omega)))
  have T1:=hid (T0.out.grown hG (by omega) (by omega))
  have R1:=hid hR;have B1:=hid (below_next B0.out (Nat.le_refl _) hG (fun k e=>by cases e;omega));clear hR hG
  go_wp2_with fail
  refine (scan_next _ _ (p+1) _ _ _ R1.out T1.out (by omega) hs').mono ?_
  rw [(nextC_end s (p+1) (by omega)).1,(nextC_end s (p+1) (by omega)).2]
  rintro e w2 ⟨rfl,hR,hG⟩
  have A2:=hid (A1.out.grown hG (ne_some (by omega)));have C2:=hid (C1.out.grown hG (ne_some (by omega)));have O2:=hid (O1.out.grown hG (ne_some (by omega)))
  have T2:=hid (T1.out.grown hG (by omega) (by omega))
  have R2:=hid hR;have B2:=hid (below_next B1.out (Nat.le_refl _) hG (fun k e=>by cases e;omega));clear hR hG
  have g1:=Rd.c1 R2.out
  have a0:=Blk.cell A2.out (j:=0) rfl;have a1:=Blk.cell A2.out (j:=1) rfl;have a2:=Blk.cell A2.out (j:=2) rfl;have a3:=Blk.cell A2.out (j:=3) rfl
  have b0:=A2.out.frozen 0;have b1:=A2.out.frozen 1;have b2:=A2.out.frozen 2;have b3:=A2.out.frozen 3
  have d0':=Blk.cell C2.out (j:=0) rfl;have d1':=Blk.cell C2.out (j:=1) rfl;have d2':=Blk.cell C2.out (j:=2) rfl
  have d0:=C2.out.frozen 0;have d1:=C2.out.frozen 1;have d2:=C2.out.frozen 2
  have o0:=Blk.cell O2.out (j:=0) rfl;have o1:=Blk.cell O2.out (j:=1) rfl;have o2:=Blk.cell O2.out (j:=2) rfl;have o3:=Blk.cell O2.out (j:=3) rfl
  have p0:=O2.out.frozen 0;have p1:=O2.out.frozen 1;have p2:=O2.out.frozen 2;have p3:=O2.out.frozen 3
  go_wp2_with fail
  rw [Exit.noGoto_ret]
  refine bodyPost_ret (v:=.tuple #[.agg #[.int .i64 0,.int .i32 0,.slice none 0 0,.int .i64 0],.int .i64 0,.agg #[.int .i64 62,.int .i64 p,.int .i64 ((p:Int)+1)]]) ?_ rfl ⟨rfl,?_⟩
  · simp [results,Tryz.results103,go_sem,a0,a1,a2,a3,d0',d1',d2']
  · exact (((((((B2.out.setCell (by simp) _).setCell (by simp) _).setCell (by simp) _).setCell (by simp) _).setCell (by simp) _).setCell (by simp) _).setCell (by simp) _)
theorem escape_x_yes (s:ByteArray) (p:Nat) (b:Bool) (w:World) (hs:s.size≤140737488355328) (hp:p+2≤s.size) (c0:stands s p [92]=true) (c1:s.data.toList[p+1]? = some 120) (n:Int) (q:Nat) (HC:∀ W,Rd W (w.heap.size+1+1) s (p+1+1) [.int .i64 p] 189→Calls Tryz.prog 132 #[.pointer (some ⟨w.heap.size+1+1,0,none⟩)] W fun e w'=>e = .returned (.tuple #[.int .i32 n,.bool true])∧Rd w' (w.heap.size+1+1) s q [.int .i64 p] 189∧W.grownBy w' (some (w.heap.size+1+1))) :
    Calls Tryz.prog 103 #[.string s,.int .i64 p,.bool b] w fun e w'=>
      e = .returned (.tuple #[.agg #[.int .i64 1,.int .i32 n,.slice none 0 0,.int .i64 0],.int .i64 q,.agg #[.int .i64 0,.int .i64 0,.int .i64 0]])∧Below w.heap.size w w':=by
  have HC0:=hid HC;clear HC
  have hs':s.size≤1000000000000000:=by omega
  obtain ⟨bA,bC,bR,bO⟩:=esc_blocks w s p 150 32 189
  have A0:=hid bA;have C0:=hid bC;have O0:=hid bO
  have R0:=hid (show Rd _ (w.heap.size+1+1) s p [.int .i64 p] 189 from bR)
  have B0:=hid (esc_below w s p)
  clear bA bC bR bO
  go_enter Tryz.func103, Tryz.ntmps103
  go_wp2_with fail
  go_step3
  go_wp2_with fail
  refine (scan_has_yes _ _ ⟨#[92]⟩ p _ _ _ R0.out (by omega) hs' c0).mono ?_
  rintro e w1 ⟨rfl,hR,hG⟩
  have A1:=hid (A0.out.grown hG (ne_some (by omega)));have C1:=hid (C0.out.grown hG (ne_some (by omega)));have O1:=hid (O0.out.grown hG (ne_some (by omega)))
  have R1:=hid hR;have B1:=hid (below_next B0.out (Nat.le_refl _) hG (fun k e=>by cases e;omega));clear hR hG
  go_wp2_with fail
  refine (scan_next_ascii _ _ (p+1) 120 _ _ _ R1.out (by omega) c1 (by decide) hs').mono ?_
  rintro e w2 ⟨rfl,hR,hG⟩
  have A2:=hid (A1.out.grown hG (ne_some (by omega)));have C2:=hid (C1.out.grown hG (ne_some (by omega)));have O2:=hid (O1.out.grown hG (ne_some (by omega)))
  have R2:=hid hR;have B2:=hid (below_next B1.out (Nat.le_refl _) hG (fun k e=>by cases e;omega));clear hR hG
  have g1:=Rd.c1 R2.out
  go_wp2_with fail
  refine (Tryz.strings_IndexByte _ _ _).mono ?_
  rintro e w3 ⟨rfl,rfl⟩
  rw [show Lib.indexByte (⟨#[97,102,110,114,116,118]⟩:ByteArray).data.toList (min (120:Int) 127).toNat.toUInt8 = -1 from by decide]
  have A3:=A2;have C3:=C2;have O3:=O2;have R3:=R2;have B3:=B2
  go_wp2_with fail
  refine (HC0.out _ R3.out).mono ?_
  rintro e w4 ⟨rfl,hR,hG⟩
  have A4:=hid (A3.out.grown hG (ne_some (by omega)));have C4:=hid (C3.out.grown hG (ne_some (by omega)));have O4:=hid (O3.out.grown hG (ne_some (by omega)))
  have R4:=hid hR;have B4:=hid (below_next B3.out (Nat.le_refl _) hG (fun k e=>by cases e;omega));clear hR hG
  have o0:=Blk.cell O4.out (j:=0) rfl;have o1:=Blk.cell O4.out (j:=1) rfl;have o2:=Blk.cell O4.out (j:=2) rfl;have o3:=Blk.cell O4.out (j:=3) rfl
  have p0:=O4.out.frozen 0;have p1:=O4.out.frozen 1;have p2:=O4.out.frozen 2;have p3:=O4.out.frozen 3
  go_wp2_with fail
  obtain ⟨W5,hW5⟩:∃ W5,W5=World.set4 w4 (w.heap.size+1+1+1) (.int .i64 1) (.int .i32 n) (.slice none 0 0) (.int .i64 0):=⟨_,rfl⟩
  have O5:=O4.out.set4 (.int .i64 1) (.int .i32 n) (.slice none 0 0) (.int .i64 0)
  have A5:=A4.out.set4_other (b:=w.heap.size+1+1+1) (by omega) (.int .i64 1) (.int .i32 n) (.slice none 0 0) (.int .i64 0)
  have C5:=C4.out.set4_other (b:=w.heap.size+1+1+1) (by omega) (.int .i64 1) (.int .i32 n) (.slice none 0 0) (.int .i64 0)
  have R5:=Blk.set4_other (b:=w.heap.size+1+1+1) R4.out (by omega) (.int .i64 1) (.int .i32 n) (.slice none 0 0) (.int .i64 0)
  have G5:=grownBy_set4 w4 (w.heap.size+1+1+1) (.int .i64 1) (.int .i32 n) (.slice none 0 0) (.int .i64 0)
  change Code.wp _ _ _ _ (World.set4 w4 (w.heap.size+1+1+1) (.int .i64 1) (.int .i32 n) (.slice none 0 0) (.int .i64 0))
  rw [← hW5] at O5 A5 C5 R5 G5 ⊢
  clear hW5 o0 o1 o2 o3 p0 p1 p2 p3
  clear g1
  have o0:=Blk.cell O5 (j:=0) rfl;have o1:=Blk.cell O5 (j:=1) rfl;have o2:=Blk.cell O5 (j:=2) rfl;have o3:=Blk.cell O5 (j:=3) rfl
  have r1:=Blk.cell R5 (j:=1) rfl
  have a0:=Blk.cell A5 (j:=0) rfl;have a1:=Blk.cell A5 (j:=1) rfl;have a2:=Blk.cell A5 (j:=2) rfl;have a3:=Blk.cell A5 (j:=3) rfl
  have b0:=A5.frozen 0;have b1:=A5.frozen 1;have b2:=A5.frozen 2;have b3:=A5.frozen 3
  have d0':=Blk.cell C5 (j:=0) rfl;have d1':=Blk.cell C5 (j:=1) rfl;have d2':=Blk.cell C5 (j:=2) rfl
  have d0:=C5.frozen 0;have d1:=C5.frozen 1;have d2:=C5.frozen 2
  have HO5:=hid O5;have HA5:=hid A5;have HC5:=hid C5;have HR5:=hid R5;have HG5:=hid G5
  have B5:=hid (below_next B4.out (Nat.le_refl _) G5 (fun k e=>by cases e;omega))
  clear O5 A5 C5 R5 G5
  go_region
  go_wp2_with fail
  rw [Exit.noGoto_ret]
  refine bodyPost_ret (v:=.tuple #[.agg #[.int .i64 1,.int .i32 n,.slice none 0 0,.int .i64 0],.int .i64 q,.agg #[.int .i64 0,.int .i64 0,.int .i64 0]]) ?_ rfl ⟨rfl,?_⟩
  · simp [results,Tryz.results103,go_sem,a0,a1,a2,a3,d0',d1',d2']
  · exact (((((((B5.out.setCell (by simp) _).setCell (by simp) _).setCell (by simp) _).setCell (by simp) _).setCell (by simp) _).setCell (by simp) _).setCell (by simp) _).drew
theorem escape_x_no (s:ByteArray) (p:Nat) (b:Bool) (w:World) (hs:s.size≤140737488355328) (hp:p+2≤s.size) (c0:stands s p [92]=true) (c1:s.data.toList[p+1]? = some 120) (n:Int) (q:Nat) (HC:∀ W,Rd W (w.heap.size+1+1) s (p+1+1) [.int .i64 p] 189→Calls Tryz.prog 132 #[.pointer (some ⟨w.heap.size+1+1,0,none⟩)] W fun e w'=>e = .returned (.tuple #[.int .i32 n,.bool false])∧Rd w' (w.heap.size+1+1) s q [.int .i64 p] 189∧W.grownBy w' (some (w.heap.size+1+1))) :
    Calls Tryz.prog 103 #[.string s,.int .i64 p,.bool b] w fun e w'=>
      e = .returned (.tuple #[.agg #[.int .i64 0,.int .i32 0,.slice none 0 0,.int .i64 0],.int .i64 0,.agg #[.int .i64 61,.int .i64 p,.int .i64 ((p+1+1:Nat):Int)]])∧Below w.heap.size w w':=by
  have HC0:=hid HC;clear HC
  have hs':s.size≤1000000000000000:=by omega
  obtain ⟨bA,bC,bR,bO⟩:=esc_blocks w s p 150 32 189
  have A0:=hid bA;have C0:=hid bC;have O0:=hid bO
  have R0:=hid (show Rd _ (w.heap.size+1+1) s p [.int .i64 p] 189 from bR)
  have B0:=hid (esc_below w s p)
  clear bA bC bR bO
  go_enter Tryz.func103, Tryz.ntmps103
  go_wp2_with fail
  refine wp_scope_jumps 0 (escJ s p (((p+1+1:Nat):Int)) w) (fun _ _=>0) rfl ?_ ?_
  · go_wp2_with fail
    refine (scan_has_yes _ _ ⟨#[92]⟩ p _ _ _ R0.out (by omega) hs' c0).mono ?_
    rintro e w1 ⟨rfl,hR,hG⟩
    have A1:=hid (A0.out.grown hG (ne_some (by omega)));have C1:=hid (C0.out.grown hG (ne_some (by omega)));have O1:=hid (O0.out.grown hG (ne_some (by omega)))
    have R1:=hid hR;have B1:=hid (below_next B0.out (Nat.le_refl _) hG (fun k e=>by cases e;omega));clear hR hG
    go_wp2_with fail
    refine (scan_next_ascii _ _ (p+1) 120 _ _ _ R1.out (by omega) c1 (by decide) hs').mono ?_
    rintro e w2 ⟨rfl,hR,hG⟩
    have A2:=hid (A1.out.grown hG (ne_some (by omega)));have C2:=hid (C1.out.grown hG (ne_some (by omega)));have O2:=hid (O1.out.grown hG (ne_some (by omega)))
    have R2:=hid hR;have B2:=hid (below_next B1.out (Nat.le_refl _) hG (fun k e=>by cases e;omega));clear hR hG
    have g1:=Rd.c1 R2.out
    go_wp2_with fail
    refine (Tryz.strings_IndexByte _ _ _).mono ?_
    rintro e w3 ⟨rfl,rfl⟩
    rw [show Lib.indexByte (⟨#[97,102,110,114,116,118]⟩:ByteArray).data.toList (min (120:Int) 127).toNat.toUInt8 = -1 from by decide]
    have A3:=A2;have C3:=C2;have O3:=O2;have R3:=R2;have B3:=B2
    go_wp2_with fail
    refine (HC0.out _ R3.out).mono ?_
    rintro e w4 ⟨rfl,hR,hG⟩
    have A4:=hid (A3.out.grown hG (ne_some (by omega)));have C4:=hid (C3.out.grown hG (ne_some (by omega)));have O4:=hid (O3.out.grown hG (ne_some (by omega)))
    have R4:=hid hR;have B4:=hid (below_next B3.out (Nat.le_refl _) hG (fun k e=>by cases e;omega));clear hR hG
    go_wp2_with fail
    go_step3
    exact ⟨rfl,escJ_intro rfl A4.out C4.out B4.out⟩
  · rintro a wc ⟨u,rfl,hA,hC,hB⟩
    have A9:=hid hA;have C9:=hid hC;have B9:=hid hB
    clear hA hC hB
    have a0:=Blk.cell A9.out (j:=0) rfl;have a1:=Blk.cell A9.out (j:=1) rfl;have a2:=Blk.cell A9.out (j:=2) rfl;have a3:=Blk.cell A9.out (j:=3) rfl
    have b0:=A9.out.frozen 0;have b1:=A9.out.frozen 1;have b2:=A9.out.frozen 2;have b3:=A9.out.frozen 3
    have d0':=Blk.cell C9.out (j:=0) rfl;have d1':=Blk.cell C9.out (j:=1) rfl;have d2':=Blk.cell C9.out (j:=2) rfl
    have d0:=C9.out.frozen 0;have d1:=C9.out.frozen 1;have d2:=C9.out.frozen 2
    unfold escAct
    go_wp2_with fail
    rw [jump_ret2]
    refine bodyPost_ret (v:=.tuple #[.agg #[.int .i64 0,.int .i32 0,.slice none 0 0,.int .i64 0],.int .i64 0,.agg #[.int .i64 61,.int .i64 p,.int .i64 ((p+1+1:Nat):Int)]]) ?_ rfl ⟨rfl,?_⟩
    · simp [results,Tryz.results103,go_sem,a0,a1,a2,a3,d0',d1',d2']
    · exact (((((((B9.out.setCell (by simp) _).setCell (by simp) _).setCell (by simp) _).setCell (by simp) _).setCell (by simp) _).setCell (by simp) _).setCell (by simp) _)
end Go.Proofs.YtnhnldmldnhaoaaGreatDoor
