/- scan.Escape's other ways: a property, the letters of the flavour, what is none. (Printed by gen_escape2.py.) -/
import Derived.Test.YtnhnldmldnhaoaaGreatDoorSEscape2
import Derived.Test.YtnhnldmldnhaoaaGreatDoorSProperty
set_option maxRecDepth 100000
set_option maxHeartbeats 16000000
open Go.Lib (hid)
namespace Go.Proofs.YtnhnldmldnhaoaaGreatDoor
open Go Go.RowKit Go.Proofs Go.Shelf
theorem own_ne {w:World} {base n:Nat} {e:TypeId} {v:Value} {xs:List Value} (h:w.ownsRow base e 2 v n xs) {b:Nat} (hb:b < base):v.ownBlock=none∨v.ownBlock≠some b:=by
  rcases h.2 with ⟨rfl,_⟩ | ⟨g,cap,_,rfl,hg,_⟩
  · exact .inl rfl
  · refine .inr fun h=>?_
    simp [Value.ownBlock] at h
    omega
theorem ownsRow_setCell {w:World} {base n:Nat} {e:TypeId} {v:Value} {xs:List Value} (h:w.ownsRow base e 2 v n xs) {b:Nat} (hb:b < base) (j:Nat) (x:Value):(w.setCell ⟨b,j,none⟩ x).ownsRow base e 2 v n xs:=
  h.kept (grownBy_setCell w b j x) (own_ne h hb)
theorem ownsRow_drew {w:World} {base n k:Nat} {e:TypeId} {v:Value} {xs:List Value} (h:w.ownsRow base e k v n xs):w.drew.ownsRow base e k v n xs:=h
def EscSet (w:World) (f:Int→Bool) (q:Int) (e:Ending) (w':World):Prop:=
  ∃ v out,e = .returned (.tuple #[.agg #[.int .i64 2,.int .i32 0,v,.int .i64 0],.int .i64 q,.agg #[.int .i64 0,.int .i64 0,.int .i64 0]])∧Laid w w' out v∧IsSet out f∧out.length≤1000∧Below w.heap.size w w'
theorem escape_flat0 (s:ByteArray) (p:Nat) (w:World) (hs:s.size≤140737488355328) (hT:Tabs w) (hp:p+2≤s.size) (c0:stands s p [92]=true) (C:Int) (Q:Nat) (hC:nextC s (p+1)=C) (hQ:nextW s (p+1)=Q) (h0:0≤C) (hr:C≤32) (hlet:(C≠97∧C≠102∧C≠110∧C≠114∧C≠116∧C≠118)) (_:C≠120∧C≠112∧C≠80) :
    Calls Tryz.prog 103 #[.string s,.int .i64 p,.bool false] w fun e w'=>
      e = .returned (.tuple #[.agg #[.int .i64 0,.int .i32 0,.slice none 0 0,.int .i64 0],.int .i64 0,.agg #[.int .i64 61,.int .i64 p,.int .i64 (Q:Int)]])∧Below w.heap.size w w':=by
  have HN:=hid (show ∀ W b rest t,Rd W b s (p+1) rest t→Tabs W→Calls Tryz.prog 130 #[.pointer (some ⟨b,0,none⟩)] W fun e w'=>e = .returned (.int .i32 C)∧Rd w' b s Q rest t∧W.grownBy w' (some b) from fun W b rest t hW hT=>by rw [← hQ,← hC];exact scan_next b s (p+1) rest t W hW hT (by omega) (by omega))
  clear hC hQ
  have e0:(C == -1)=false:=by simp;omega
  have f0:¬ 32 < C:=by omega
  have f0b:decide (32 < C)=false:=by simp;omega
  have f1:C < 127:=by omega
  have f1b:decide (C < 127)=true:=by simp;omega
  have f2:¬ 48≤C:=by omega
  have f2b:decide (48≤C)=false:=by simp;omega
  have f3:C≤57:=by omega
  have f3b:decide (C≤57)=true:=by simp;omega
  have f4:¬ 97≤C:=by omega
  have f4b:decide (97≤C)=false:=by simp;omega
  have f5:C≤122:=by omega
  have f5b:decide (C≤122)=true:=by simp;omega
  have f6:¬ 65≤C:=by omega
  have f6b:decide (65≤C)=false:=by simp;omega
  have f7:C≤90:=by omega
  have f7b:decide (C≤90)=true:=by simp;omega
  have n120:(C == 120)=false:=by simp;omega
  have n112:(C == 112)=false:=by simp;omega
  have n80:(C == 80)=false:=by simp;omega
  have HL:=hid (letters_no C h0 hlet)
  clear hr hlet
  have hs':s.size≤1000000000000000:=by omega
  obtain ⟨bA,bC,bR,bO⟩:=esc_blocks w s p 150 32 189
  have A0:=hid bA;have C0:=hid bC;have O0:=hid bO
  have R0:=hid (show Rd _ (w.heap.size+1+1) s p [.int .i64 p] 189 from bR)
  have B0:=hid (esc_below w s p)
  have hl:=hT.lt
  have T0:=hid ((((hT.alloc (.cells #[.int .i64 0,.int .i32 0,.slice none 0 0,.int .i64 0] 150)).alloc (.cells #[.int .i64 0,.int .i64 0,.int .i64 0] 32)).alloc (.cells #[.string s,.int .i64 p,.int .i64 p] 189)).alloc (.cells #[.int .i64 0,.int .i32 0,.slice none 0 0,.int .i64 0] 150))
  clear hT
  clear bA bC bR bO
  go_enter Tryz.func103, Tryz.ntmps103
  go_wp2_with fail
  refine wp_scope_jumps 0 (escJ s p ((Q:Int)) w) (fun _ _=>0) rfl ?_ ?_
  · go_wp2_with fail
    refine (scan_has_yes _ _ ⟨#[92]⟩ p _ _ _ R0.out (by omega) hs' c0).mono ?_
    rintro e w1 ⟨rfl,hR,hG⟩
    have A1:=hid (A0.out.grown hG (ne_some (by omega)));have C1:=hid (C0.out.grown hG (ne_some (by omega)));have O1:=hid (O0.out.grown hG (ne_some (by omega)))
    have T1:=hid (T0.out.grown hG (by omega) (by omega))
    have R1:=hid hR;have B1:=hid (below_next B0.out (Nat.le_refl _) hG (fun k e=>by cases e;omega));clear hR hG
    go_wp2_with fail
    refine (HN.out _ _ _ _ R1.out T1.out).mono ?_
    rintro e w2 ⟨rfl,hR,hG⟩
    have A2:=hid (A1.out.grown hG (ne_some (by omega)));have C2:=hid (C1.out.grown hG (ne_some (by omega)));have O2:=hid (O1.out.grown hG (ne_some (by omega)))
    have T2:=hid (T1.out.grown hG (by omega) (by omega))
    have R2:=hid hR;have B2:=hid (below_next B1.out (Nat.le_refl _) hG (fun k e=>by cases e;omega));clear hR hG
    have g1:=Rd.c1 R2.out
    go_wp2_with fail
    refine (Tryz.strings_IndexByte _ _ _).mono ?_
    rintro e w3 ⟨rfl,rfl⟩
    rw [HL.out]
    go_wp2_with fail
    go_step3
    exact ⟨rfl,escJ_intro rfl A2.out C2.out B2.out⟩
  · rintro a wc ⟨u,rfl,hA,hC,hB⟩
    have A9:=hid hA;have C9:=hid hC;have B9:=hid hB
    clear hA hC hB
    have a0:=Blk.cell A9.out (j:=0) rfl;have a1:=Blk.cell A9.out (j:=1) rfl;have a2:=Blk.cell A9.out (j:=2) rfl;have a3:=Blk.cell A9.out (j:=3) rfl
    have b0:=A9.out.frozen 0;have b1:=A9.out.frozen 1;have b2:=A9.out.frozen 2;have b3:=A9.out.frozen 3
    have d0':=Blk.cell C9.out (j:=0) rfl;have d1':=Blk.cell C9.out (j:=1) rfl;have d2':=Blk.cell C9.out (j:=2) rfl
    have d0:=C9.out.frozen 0;have d1:=C9.out.frozen 1;have d2:=C9.out.frozen 2
    unfold escAct
    go_wp2_with fail
    rw [jump_ret2]
    refine bodyPost_ret (v:=.tuple #[.agg #[.int .i64 0,.int .i32 0,.slice none 0 0,.int .i64 0],.int .i64 0,.agg #[.int .i64 61,.int .i64 p,.int .i64 (Q:Int)]]) ?_ rfl ⟨rfl,?_⟩
    · simp [results,Tryz.results103,go_sem,a0,a1,a2,a3,d0',d1',d2']
    · exact (((((((B9.out.setCell (by simp) _).setCell (by simp) _).setCell (by simp) _).setCell (by simp) _).setCell (by simp) _).setCell (by simp) _).setCell (by simp) _)
theorem escape_flat1 (s:ByteArray) (p:Nat) (w:World) (hs:s.size≤140737488355328) (hT:Tabs w) (hp:p+2≤s.size) (c0:stands s p [92]=true) (C:Int) (Q:Nat) (hC:nextC s (p+1)=C) (hQ:nextW s (p+1)=Q) (h0:0≤C) (hr:127≤C) (hlet:(C≠97∧C≠102∧C≠110∧C≠114∧C≠116∧C≠118)) (_:C≠120∧C≠112∧C≠80) :
    Calls Tryz.prog 103 #[.string s,.int .i64 p,.bool false] w fun e w'=>
      e = .returned (.tuple #[.agg #[.int .i64 0,.int .i32 0,.slice none 0 0,.int .i64 0],.int .i64 0,.agg #[.int .i64 61,.int .i64 p,.int .i64 (Q:Int)]])∧Below w.heap.size w w':=by
  have HN:=hid (show ∀ W b rest t,Rd W b s (p+1) rest t→Tabs W→Calls Tryz.prog 130 #[.pointer (some ⟨b,0,none⟩)] W fun e w'=>e = .returned (.int .i32 C)∧Rd w' b s Q rest t∧W.grownBy w' (some b) from fun W b rest t hW hT=>by rw [← hQ,← hC];exact scan_next b s (p+1) rest t W hW hT (by omega) (by omega))
  clear hC hQ
  have e0:(C == -1)=false:=by simp;omega
  have f0:32 < C:=by omega
  have f0b:decide (32 < C)=true:=by simp;omega
  have f1:¬ C < 127:=by omega
  have f1b:decide (C < 127)=false:=by simp;omega
  have f2:48≤C:=by omega
  have f2b:decide (48≤C)=true:=by simp;omega
  have f3:¬ C≤57:=by omega
  have f3b:decide (C≤57)=false:=by simp;omega
  have f4:97≤C:=by omega
  have f4b:decide (97≤C)=true:=by simp;omega
  have f5:¬ C≤122:=by omega
  have f5b:decide (C≤122)=false:=by simp;omega
  have f6:65≤C:=by omega
  have f6b:decide (65≤C)=true:=by simp;omega
  have f7:¬ C≤90:=by omega
  have f7b:decide (C≤90)=false:=by simp;omega
  have n120:(C == 120)=false:=by simp;omega
  have n112:(C == 112)=false:=by simp;omega
  have n80:(C == 80)=false:=by simp;omega
  have HL:=hid (letters_no C h0 hlet)
  clear hr hlet
  have hs':s.size≤1000000000000000:=by omega
  obtain ⟨bA,bC,bR,bO⟩:=esc_blocks w s p 150 32 189
  have A0:=hid bA;have C0:=hid bC;have O0:=hid bO
  have R0:=hid (show Rd _ (w.heap.size+1+1) s p [.int .i64 p] 189 from bR)
  have B0:=hid (esc_below w s p)
  have hl:=hT.lt
  have T0:=hid ((((hT.alloc (.cells #[.int .i64 0,.int .i32 0,.slice none 0 0,.int .i64 0] 150)).alloc (.cells #[.int .i64 0,.int .i64 0,.int .i64 0] 32)).alloc (.cells #[.string s,.int .i64 p,.int .i64 p] 189)).alloc (.cells #[.int .i64 0,.int .i32 0,.slice none 0 0,.int .i64 0] 150))
  clear hT
  clear bA bC bR bO
  go_enter Tryz.func103, Tryz.ntmps103
  go_wp2_with fail
  refine wp_scope_jumps 0 (escJ s p ((Q:Int)) w) (fun _ _=>0) rfl ?_ ?_
  · go_wp2_with fail
    refine (scan_has_yes _ _ ⟨#[92]⟩ p _ _ _ R0.out (by omega) hs' c0).mono ?_
    rintro e w1 ⟨rfl,hR,hG⟩
    have A1:=hid (A0.out.grown hG (ne_some (by omega)));have C1:=hid (C0.out.grown hG (ne_some (by omega)));have O1:=hid (O0.out.grown hG (ne_some (by omega)))
    have T1:=hid (T0.out.grown hG (by omega) (by omega))
    have R1:=hid hR;have B1:=hid (below_next B0.out (Nat.le_refl _) hG (fun k e=>by cases e;omega));clear hR hG
    go_wp2_with fail
    refine (HN.out _ _ _ _ R1.out T1.out).mono ?_
    rintro e w2 ⟨rfl,hR,hG⟩
    have A2:=hid (A1.out.grown hG (ne_some (by omega)));have C2:=hid (C1.out.grown hG (ne_some (by omega)));have O2:=hid (O1.out.grown hG (ne_some (by omega)))
    have T2:=hid (T1.out.grown hG (by omega) (by omega))
    have R2:=hid hR;have B2:=hid (below_next B1.out (Nat.le_refl _) hG (fun k e=>by cases e;omega));clear hR hG
    have g1:=Rd.c1 R2.out
    go_wp2_with fail
    refine (Tryz.strings_IndexByte _ _ _).mono ?_
    rintro e w3 ⟨rfl,rfl⟩
    rw [HL.out]
    go_wp2_with fail
    go_step3
    exact ⟨rfl,escJ_intro rfl A2.out C2.out B2.out⟩
  · rintro a wc ⟨u,rfl,hA,hC,hB⟩
    have A9:=hid hA;have C9:=hid hC;have B9:=hid hB
    clear hA hC hB
    have a0:=Blk.cell A9.out (j:=0) rfl;have a1:=Blk.cell A9.out (j:=1) rfl;have a2:=Blk.cell A9.out (j:=2) rfl;have a3:=Blk.cell A9.out (j:=3) rfl
    have b0:=A9.out.frozen 0;have b1:=A9.out.frozen 1;have b2:=A9.out.frozen 2;have b3:=A9.out.frozen 3
    have d0':=Blk.cell C9.out (j:=0) rfl;have d1':=Blk.cell C9.out (j:=1) rfl;have d2':=Blk.cell C9.out (j:=2) rfl
    have d0:=C9.out.frozen 0;have d1:=C9.out.frozen 1;have d2:=C9.out.frozen 2
    unfold escAct
    go_wp2_with fail
    rw [jump_ret2]
    refine bodyPost_ret (v:=.tuple #[.agg #[.int .i64 0,.int .i32 0,.slice none 0 0,.int .i64 0],.int .i64 0,.agg #[.int .i64 61,.int .i64 p,.int .i64 (Q:Int)]]) ?_ rfl ⟨rfl,?_⟩
    · simp [results,Tryz.results103,go_sem,a0,a1,a2,a3,d0',d1',d2']
    · exact (((((((B9.out.setCell (by simp) _).setCell (by simp) _).setCell (by simp) _).setCell (by simp) _).setCell (by simp) _).setCell (by simp) _).setCell (by simp) _)
theorem escape_flat2 (s:ByteArray) (p:Nat) (w:World) (hs:s.size≤140737488355328) (hT:Tabs w) (hp:p+2≤s.size) (c0:stands s p [92]=true) (C:Int) (Q:Nat) (hC:nextC s (p+1)=C) (hQ:nextW s (p+1)=Q) (h0:0≤C) (hr:48≤C∧C≤57) (hlet:(C≠97∧C≠102∧C≠110∧C≠114∧C≠116∧C≠118)) (_:C≠120∧C≠112∧C≠80) :
    Calls Tryz.prog 103 #[.string s,.int .i64 p,.bool false] w fun e w'=>
      e = .returned (.tuple #[.agg #[.int .i64 0,.int .i32 0,.slice none 0 0,.int .i64 0],.int .i64 0,.agg #[.int .i64 61,.int .i64 p,.int .i64 (Q:Int)]])∧Below w.heap.size w w':=by
  have HN:=hid (show ∀ W b rest t,Rd W b s (p+1) rest t→Tabs W→Calls Tryz.prog 130 #[.pointer (some ⟨b,0,none⟩)] W fun e w'=>e = .returned (.int .i32 C)∧Rd w' b s Q rest t∧W.grownBy w' (some b) from fun W b rest t hW hT=>by rw [← hQ,← hC];exact scan_next b s (p+1) rest t W hW hT (by omega) (by omega))
  clear hC hQ
  have e0:(C == -1)=false:=by simp;omega
  have f0:32 < C:=by omega
  have f0b:decide (32 < C)=true:=by simp;omega
  have f1:C < 127:=by omega
  have f1b:decide (C < 127)=true:=by simp;omega
  have f2:48≤C:=by omega
  have f2b:decide (48≤C)=true:=by simp;omega
  have f3:C≤57:=by omega
  have f3b:decide (C≤57)=true:=by simp;omega
  have f4:¬ 97≤C:=by omega
  have f4b:decide (97≤C)=false:=by simp;omega
  have f5:C≤122:=by omega
  have f5b:decide (C≤122)=true:=by simp;omega
  have f6:¬ 65≤C:=by omega
  have f6b:decide (65≤C)=false:=by simp;omega
  have f7:C≤90:=by omega
  have f7b:decide (C≤90)=true:=by simp;omega
  have n120:(C == 120)=false:=by simp;omega
  have n112:(C == 112)=false:=by simp;omega
  have n80:(C == 80)=false:=by simp;omega
  have HL:=hid (letters_no C h0 hlet)
  clear hr hlet
  have hs':s.size≤1000000000000000:=by omega
  obtain ⟨bA,bC,bR,bO⟩:=esc_blocks w s p 150 32 189
  have A0:=hid bA;have C0:=hid bC;have O0:=hid bO
  have R0:=hid (show Rd _ (w.heap.size+1+1) s p [.int .i64 p] 189 from bR)
  have B0:=hid (esc_below w s p)
  have hl:=hT.lt
  have T0:=hid ((((hT.alloc (.cells #[.int .i64 0,.int .i32 0,.slice none 0 0,.int .i64 0] 150)).alloc (.cells #[.int .i64 0,.int .i64 0,.int .i64 0] 32)).alloc (.cells #[.string s,.int .i64 p,.int .i64 p] 189)).alloc (.cells #[.int .i64 0,.int .i32 0,.slice none 0 0,.int .i64 0] 150))
  clear hT
  clear bA bC bR bO
  go_enter Tryz.func103, Tryz.ntmps103
  go_wp2_with fail
  refine wp_scope_jumps 0 (escJ s p ((Q:Int)) w) (fun _ _=>0) rfl ?_ ?_
  · go_wp2_with fail
    refine (scan_has_yes _ _ ⟨#[92]⟩ p _ _ _ R0.out (by omega) hs' c0).mono ?_
    rintro e w1 ⟨rfl,hR,hG⟩
    have A1:=hid (A0.out.grown hG (ne_some (by omega)));have C1:=hid (C0.out.grown hG (ne_some (by omega)));have O1:=hid (O0.out.grown hG (ne_some (by omega)))
    have T1:=hid (T0.out.grown hG (by omega) (by omega))
    have R1:=hid hR;have B1:=hid (below_next B0.out (Nat.le_refl _) hG (fun k e=>by cases e;omega));clear hR hG
    go_wp2_with fail
    refine (HN.out _ _ _ _ R1.out T1.out).mono ?_
    rintro e w2 ⟨rfl,hR,hG⟩
    have A2:=hid (A1.out.grown hG (ne_some (by omega)));have C2:=hid (C1.out.grown hG (ne_some (by omega)));have O2:=hid (O1.out.grown hG (ne_some (by omega)))
    have T2:=hid (T1.out.grown hG (by omega) (by omega))
    have R2:=hid hR;have B2:=hid (below_next B1.out (Nat.le_refl _) hG (fun k e=>by cases e;omega));clear hR hG
    have g1:=Rd.c1 R2.out
    go_wp2_with fail
    refine (Tryz.strings_IndexByte _ _ _).mono ?_
    rintro e w3 ⟨rfl,rfl⟩
    rw [HL.out]
    go_wp2_with fail
    go_step3
    exact ⟨rfl,escJ_intro rfl A2.out C2.out B2.out⟩
  · rintro a wc ⟨u,rfl,hA,hC,hB⟩
    have A9:=hid hA;have C9:=hid hC;have B9:=hid hB
    clear hA hC hB
    have a0:=Blk.cell A9.out (j:=0) rfl;have a1:=Blk.cell A9.out (j:=1) rfl;have a2:=Blk.cell A9.out (j:=2) rfl;have a3:=Blk.cell A9.out (j:=3) rfl
    have b0:=A9.out.frozen 0;have b1:=A9.out.frozen 1;have b2:=A9.out.frozen 2;have b3:=A9.out.frozen 3
    have d0':=Blk.cell C9.out (j:=0) rfl;have d1':=Blk.cell C9.out (j:=1) rfl;have d2':=Blk.cell C9.out (j:=2) rfl
    have d0:=C9.out.frozen 0;have d1:=C9.out.frozen 1;have d2:=C9.out.frozen 2
    unfold escAct
    go_wp2_with fail
    rw [jump_ret2]
    refine bodyPost_ret (v:=.tuple #[.agg #[.int .i64 0,.int .i32 0,.slice none 0 0,.int .i64 0],.int .i64 0,.agg #[.int .i64 61,.int .i64 p,.int .i64 (Q:Int)]]) ?_ rfl ⟨rfl,?_⟩
    · simp [results,Tryz.results103,go_sem,a0,a1,a2,a3,d0',d1',d2']
    · exact (((((((B9.out.setCell (by simp) _).setCell (by simp) _).setCell (by simp) _).setCell (by simp) _).setCell (by simp) _).setCell (by simp) _).setCell (by simp) _)
theorem escape_flat3 (s:ByteArray) (p:Nat) (w:World) (hs:s.size≤140737488355328) (hT:Tabs w) (hp:p+2≤s.size) (c0:stands s p [92]=true) (C:Int) (Q:Nat) (hC:nextC s (p+1)=C) (hQ:nextW s (p+1)=Q) (h0:0≤C) (hr:97≤C∧C≤122) (hlet:(C≠97∧C≠102∧C≠110∧C≠114∧C≠116∧C≠118)) (hne:C≠120∧C≠112∧C≠80) :
    Calls Tryz.prog 103 #[.string s,.int .i64 p,.bool false] w fun e w'=>
      e = .returned (.tuple #[.agg #[.int .i64 0,.int .i32 0,.slice none 0 0,.int .i64 0],.int .i64 0,.agg #[.int .i64 61,.int .i64 p,.int .i64 (Q:Int)]])∧Below w.heap.size w w':=by
  have HN:=hid (show ∀ W b rest t,Rd W b s (p+1) rest t→Tabs W→Calls Tryz.prog 130 #[.pointer (some ⟨b,0,none⟩)] W fun e w'=>e = .returned (.int .i32 C)∧Rd w' b s Q rest t∧W.grownBy w' (some b) from fun W b rest t hW hT=>by rw [← hQ,← hC];exact scan_next b s (p+1) rest t W hW hT (by omega) (by omega))
  clear hC hQ
  have e0:(C == -1)=false:=by simp;omega
  have f0:32 < C:=by omega
  have f0b:decide (32 < C)=true:=by simp;omega
  have f1:C < 127:=by omega
  have f1b:decide (C < 127)=true:=by simp;omega
  have f2:48≤C:=by omega
  have f2b:decide (48≤C)=true:=by simp;omega
  have f3:¬ C≤57:=by omega
  have f3b:decide (C≤57)=false:=by simp;omega
  have f4:97≤C:=by omega
  have f4b:decide (97≤C)=true:=by simp;omega
  have f5:C≤122:=by omega
  have f5b:decide (C≤122)=true:=by simp;omega
  have f6:65≤C:=by omega
  have f6b:decide (65≤C)=true:=by simp;omega
  have f7:¬ C≤90:=by omega
  have f7b:decide (C≤90)=false:=by simp;omega
  have n120:(C == 120)=false:=by simp;omega
  have n112:(C == 112)=false:=by simp;omega
  have n80:(C == 80)=false:=by simp;omega
  have HL:=hid (letters_no C h0 hlet)
  clear hr hlet hne
  have hs':s.size≤1000000000000000:=by omega
  obtain ⟨bA,bC,bR,bO⟩:=esc_blocks w s p 150 32 189
  have A0:=hid bA;have C0:=hid bC;have O0:=hid bO
  have R0:=hid (show Rd _ (w.heap.size+1+1) s p [.int .i64 p] 189 from bR)
  have B0:=hid (esc_below w s p)
  have hl:=hT.lt
  have T0:=hid ((((hT.alloc (.cells #[.int .i64 0,.int .i32 0,.slice none 0 0,.int .i64 0] 150)).alloc (.cells #[.int .i64 0,.int .i64 0,.int .i64 0] 32)).alloc (.cells #[.string s,.int .i64 p,.int .i64 p] 189)).alloc (.cells #[.int .i64 0,.int .i32 0,.slice none 0 0,.int .i64 0] 150))
  clear hT
  clear bA bC bR bO
  go_enter Tryz.func103, Tryz.ntmps103
  go_wp2_with fail
  refine wp_scope_jumps 0 (escJ s p ((Q:Int)) w) (fun _ _=>0) rfl ?_ ?_
  · go_wp2_with fail
    refine (scan_has_yes _ _ ⟨#[92]⟩ p _ _ _ R0.out (by omega) hs' c0).mono ?_
    rintro e w1 ⟨rfl,hR,hG⟩
    have A1:=hid (A0.out.grown hG (ne_some (by omega)));have C1:=hid (C0.out.grown hG (ne_some (by omega)));have O1:=hid (O0.out.grown hG (ne_some (by omega)))
    have T1:=hid (T0.out.grown hG (by omega) (by omega))
    have R1:=hid hR;have B1:=hid (below_next B0.out (Nat.le_refl _) hG (fun k e=>by cases e;omega));clear hR hG
    go_wp2_with fail
    refine (HN.out _ _ _ _ R1.out T1.out).mono ?_
    rintro e w2 ⟨rfl,hR,hG⟩
    have A2:=hid (A1.out.grown hG (ne_some (by omega)));have C2:=hid (C1.out.grown hG (ne_some (by omega)));have O2:=hid (O1.out.grown hG (ne_some (by omega)))
    have T2:=hid (T1.out.grown hG (by omega) (by omega))
    have R2:=hid hR;have B2:=hid (below_next B1.out (Nat.le_refl _) hG (fun k e=>by cases e;omega));clear hR hG
    have g1:=Rd.c1 R2.out
    go_wp2_with fail
    refine (Tryz.strings_IndexByte _ _ _).mono ?_
    rintro e w3 ⟨rfl,rfl⟩
    rw [HL.out]
    go_wp2_with fail
    go_step3
    exact ⟨rfl,escJ_intro rfl A2.out C2.out B2.out⟩
  · rintro a wc ⟨u,rfl,hA,hC,hB⟩
    have A9:=hid hA;have C9:=hid hC;have B9:=hid hB
    clear hA hC hB
    have a0:=Blk.cell A9.out (j:=0) rfl;have a1:=Blk.cell A9.out (j:=1) rfl;have a2:=Blk.cell A9.out (j:=2) rfl;have a3:=Blk.cell A9.out (j:=3) rfl
    have b0:=A9.out.frozen 0;have b1:=A9.out.frozen 1;have b2:=A9.out.frozen 2;have b3:=A9.out.frozen 3
    have d0':=Blk.cell C9.out (j:=0) rfl;have d1':=Blk.cell C9.out (j:=1) rfl;have d2':=Blk.cell C9.out (j:=2) rfl
    have d0:=C9.out.frozen 0;have d1:=C9.out.frozen 1;have d2:=C9.out.frozen 2
    unfold escAct
    go_wp2_with fail
    rw [jump_ret2]
    refine bodyPost_ret (v:=.tuple #[.agg #[.int .i64 0,.int .i32 0,.slice none 0 0,.int .i64 0],.int .i64 0,.agg #[.int .i64 61,.int .i64 p,.int .i64 (Q:Int)]]) ?_ rfl ⟨rfl,?_⟩
    · simp [results,Tryz.results103,go_sem,a0,a1,a2,a3,d0',d1',d2']
    · exact (((((((B9.out.setCell (by simp) _).setCell (by simp) _).setCell (by simp) _).setCell (by simp) _).setCell (by simp) _).setCell (by simp) _).setCell (by simp) _)
theorem escape_flat4 (s:ByteArray) (p:Nat) (w:World) (hs:s.size≤140737488355328) (hT:Tabs w) (hp:p+2≤s.size) (c0:stands s p [92]=true) (C:Int) (Q:Nat) (hC:nextC s (p+1)=C) (hQ:nextW s (p+1)=Q) (h0:0≤C) (hr:65≤C∧C≤90) (hlet:(C≠97∧C≠102∧C≠110∧C≠114∧C≠116∧C≠118)) (hne:C≠120∧C≠112∧C≠80) :
    Calls Tryz.prog 103 #[.string s,.int .i64 p,.bool false] w fun e w'=>
      e = .returned (.tuple #[.agg #[.int .i64 0,.int .i32 0,.slice none 0 0,.int .i64 0],.int .i64 0,.agg #[.int .i64 61,.int .i64 p,.int .i64 (Q:Int)]])∧Below w.heap.size w w':=by
  have HN:=hid (show ∀ W b rest t,Rd W b s (p+1) rest t→Tabs W→Calls Tryz.prog 130 #[.pointer (some ⟨b,0,none⟩)] W fun e w'=>e = .returned (.int .i32 C)∧Rd w' b s Q rest t∧W.grownBy w' (some b) from fun W b rest t hW hT=>by rw [← hQ,← hC];exact scan_next b s (p+1) rest t W hW hT (by omega) (by omega))
  clear hC hQ
  have e0:(C == -1)=false:=by simp;omega
  have f0:32 < C:=by omega
  have f0b:decide (32 < C)=true:=by simp;omega
  have f1:C < 127:=by omega
  have f1b:decide (C < 127)=true:=by simp;omega
  have f2:48≤C:=by omega
  have f2b:decide (48≤C)=true:=by simp;omega
  have f3:¬ C≤57:=by omega
  have f3b:decide (C≤57)=false:=by simp;omega
  have f4:¬ 97≤C:=by omega
  have f4b:decide (97≤C)=false:=by simp;omega
  have f5:C≤122:=by omega
  have f5b:decide (C≤122)=true:=by simp;omega
  have f6:65≤C:=by omega
  have f6b:decide (65≤C)=true:=by simp;omega
  have f7:C≤90:=by omega
  have f7b:decide (C≤90)=true:=by simp;omega
  have n120:(C == 120)=false:=by simp;omega
  have n112:(C == 112)=false:=by simp;omega
  have n80:(C == 80)=false:=by simp;omega
  have HL:=hid (letters_no C h0 hlet)
  clear hr hlet hne
  have hs':s.size≤1000000000000000:=by omega
  obtain ⟨bA,bC,bR,bO⟩:=esc_blocks w s p 150 32 189
  have A0:=hid bA;have C0:=hid bC;have O0:=hid bO
  have R0:=hid (show Rd _ (w.heap.size+1+1) s p [.int .i64 p] 189 from bR)
  have B0:=hid (esc_below w s p)
  have hl:=hT.lt
  have T0:=hid ((((hT.alloc (.cells #[.int .i64 0,.int .i32 0,.slice none 0 0,.int .i64 0] 150)).alloc (.cells #[.int .i64 0,.int .i64 0,.int .i64 0] 32)).alloc (.cells #[.string s,.int .i64 p,.int .i64 p] 189)).alloc (.cells #[.int .i64 0,.int .i32 0,.slice none 0 0,.int .i64 0] 150))
  clear hT
  clear bA bC bR bO
  go_enter Tryz.func103, Tryz.ntmps103
  go_wp2_with fail
  refine wp_scope_jumps 0 (escJ s p ((Q:Int)) w) (fun _ _=>0) rfl ?_ ?_
  · go_wp2_with fail
    refine (scan_has_yes _ _ ⟨#[92]⟩ p _ _ _ R0.out (by omega) hs' c0).mono ?_
    rintro e w1 ⟨rfl,hR,hG⟩
    have A1:=hid (A0.out.grown hG (ne_some (by omega)));have C1:=hid (C0.out.grown hG (ne_some (by omega)));have O1:=hid (O0.out.grown hG (ne_some (by omega)))
    have T1:=hid (T0.out.grown hG (by omega) (by omega))
    have R1:=hid hR;have B1:=hid (below_next B0.out (Nat.le_refl _) hG (fun k e=>by cases e;omega));clear hR hG
    go_wp2_with fail
    refine (HN.out _ _ _ _ R1.out T1.out).mono ?_
    rintro e w2 ⟨rfl,hR,hG⟩
    have A2:=hid (A1.out.grown hG (ne_some (by omega)));have C2:=hid (C1.out.grown hG (ne_some (by omega)));have O2:=hid (O1.out.grown hG (ne_some (by omega)))
    have T2:=hid (T1.out.grown hG (by omega) (by omega))
    have R2:=hid hR;have B2:=hid (below_next B1.out (Nat.le_refl _) hG (fun k e=>by cases e;omega));clear hR hG
    have g1:=Rd.c1 R2.out
    go_wp2_with fail
    refine (Tryz.strings_IndexByte _ _ _).mono ?_
    rintro e w3 ⟨rfl,rfl⟩
    rw [HL.out]
    go_wp2_with fail
    go_step3
    exact ⟨rfl,escJ_intro rfl A2.out C2.out B2.out⟩
  · rintro a wc ⟨u,rfl,hA,hC,hB⟩
    have A9:=hid hA;have C9:=hid hC;have B9:=hid hB
    clear hA hC hB
    have a0:=Blk.cell A9.out (j:=0) rfl;have a1:=Blk.cell A9.out (j:=1) rfl;have a2:=Blk.cell A9.out (j:=2) rfl;have a3:=Blk.cell A9.out (j:=3) rfl
    have b0:=A9.out.frozen 0;have b1:=A9.out.frozen 1;have b2:=A9.out.frozen 2;have b3:=A9.out.frozen 3
    have d0':=Blk.cell C9.out (j:=0) rfl;have d1':=Blk.cell C9.out (j:=1) rfl;have d2':=Blk.cell C9.out (j:=2) rfl
    have d0:=C9.out.frozen 0;have d1:=C9.out.frozen 1;have d2:=C9.out.frozen 2
    unfold escAct
    go_wp2_with fail
    rw [jump_ret2]
    refine bodyPost_ret (v:=.tuple #[.agg #[.int .i64 0,.int .i32 0,.slice none 0 0,.int .i64 0],.int .i64 0,.agg #[.int .i64 61,.int .i64 p,.int .i64 (Q:Int)]]) ?_ rfl ⟨rfl,?_⟩
    · simp [results,Tryz.results103,go_sem,a0,a1,a2,a3,d0',d1',d2']
    · exact (((((((B9.out.setCell (by simp) _).setCell (by simp) _).setCell (by simp) _).setCell (by simp) _).setCell (by simp) _).setCell (by simp) _).setCell (by simp) _)
theorem escape_p112_no (s:ByteArray) (p:Nat) (b:Bool) (w:World) (hs:s.size≤140737488355328) (hT:Tabs w) (hp:p+2≤s.size) (c0:stands s p [92]=true) (c1:s.data.toList[p+1]? = some 112) (nm:ByteArray) (q:Nat) (HC:∀ W,Rd W (w.heap.size+1+1) s (p+1+1) [.int .i64 p] 189→Tabs W→Calls Tryz.prog 133 #[.pointer (some ⟨w.heap.size+1+1,0,none⟩)] W fun e w'=>e = .returned (.tuple #[.string nm,.bool false])∧Rd w' (w.heap.size+1+1) s q [.int .i64 p] 189∧W.grownBy w' (some (w.heap.size+1+1))) :
    Calls Tryz.prog 103 #[.string s,.int .i64 p,.bool b] w fun e w'=>
      e = .returned (.tuple #[.agg #[.int .i64 0,.int .i32 0,.slice none 0 0,.int .i64 0],.int .i64 0,.agg #[.int .i64 61,.int .i64 p,.int .i64 ((p+1+1:Nat):Int)]])∧Below w.heap.size w w':=by
  have HC0:=hid HC;clear HC
  have hs':s.size≤1000000000000000:=by omega
  obtain ⟨bA,bC,bR,bO⟩:=esc_blocks w s p 150 32 189
  have A0:=hid bA;have C0:=hid bC;have O0:=hid bO
  have R0:=hid (show Rd _ (w.heap.size+1+1) s p [.int .i64 p] 189 from bR)
  have B0:=hid (esc_below w s p)
  have hl:=hT.lt
  have T0:=hid ((((hT.alloc (.cells #[.int .i64 0,.int .i32 0,.slice none 0 0,.int .i64 0] 150)).alloc (.cells #[.int .i64 0,.int .i64 0,.int .i64 0] 32)).alloc (.cells #[.string s,.int .i64 p,.int .i64 p] 189)).alloc (.cells #[.int .i64 0,.int .i32 0,.slice none 0 0,.int .i64 0] 150))
  clear hT
  clear bA bC bR bO
  go_enter Tryz.func103, Tryz.ntmps103
  go_wp2_with fail
  refine wp_scope_jumps 0 (escJ s p (((p+1+1:Nat):Int)) w) (fun _ _=>0) rfl ?_ ?_
  · go_wp2_with fail
    refine (scan_has_yes _ _ ⟨#[92]⟩ p _ _ _ R0.out (by omega) hs' c0).mono ?_
    rintro e w1 ⟨rfl,hR,hG⟩
    have A1:=hid (A0.out.grown hG (ne_some (by omega)));have C1:=hid (C0.out.grown hG (ne_some (by omega)));have O1:=hid (O0.out.grown hG (ne_some (by omega)))
    have T1:=hid (T0.out.grown hG (by omega) (by omega))
    have R1:=hid hR;have B1:=hid (below_next B0.out (Nat.le_refl _) hG (fun k e=>by cases e;omega));clear hR hG
    go_wp2_with fail
    refine (scan_next_ascii _ _ (p+1) 112 _ _ _ R1.out (by omega) c1 (by decide) hs').mono ?_
    rintro e w2 ⟨rfl,hR,hG⟩
    have A2:=hid (A1.out.grown hG (ne_some (by omega)));have C2:=hid (C1.out.grown hG (ne_some (by omega)));have O2:=hid (O1.out.grown hG (ne_some (by omega)))
    have T2:=hid (T1.out.grown hG (by omega) (by omega))
    have R2:=hid hR;have B2:=hid (below_next B1.out (Nat.le_refl _) hG (fun k e=>by cases e;omega));clear hR hG
    have g1:=Rd.c1 R2.out
    go_wp2_with fail
    refine (Tryz.strings_IndexByte _ _ _).mono ?_
    rintro e w3 ⟨rfl,rfl⟩
    rw [show Lib.indexByte (⟨#[97,102,110,114,116,118]⟩:ByteArray).data.toList (min (112:Int) 127).toNat.toUInt8 = -1 from by decide]
    have A3:=A2;have C3:=C2;have O3:=O2;have R3:=R2;have B3:=B2;have T3:=T2
    go_wp2_with fail
    refine (HC0.out _ R3.out T3.out).mono ?_
    rintro e w4 ⟨rfl,hR,hG⟩
    have A4:=hid (A3.out.grown hG (ne_some (by omega)));have C4:=hid (C3.out.grown hG (ne_some (by omega)));have O4:=hid (O3.out.grown hG (ne_some (by omega)))
    have R4:=hid hR;have B4:=hid (below_next B3.out (Nat.le_refl _) hG (fun k e=>by cases e;omega));clear hR hG
    go_wp2_with fail
    go_step3
    exact ⟨rfl,escJ_intro rfl A4.out C4.out B4.out⟩
  · rintro a wc ⟨u,rfl,hA,hC,hB⟩
    have A9:=hid hA;have C9:=hid hC;have B9:=hid hB
    clear hA hC hB
    have a0:=Blk.cell A9.out (j:=0) rfl;have a1:=Blk.cell A9.out (j:=1) rfl;have a2:=Blk.cell A9.out (j:=2) rfl;have a3:=Blk.cell A9.out (j:=3) rfl
    have b0:=A9.out.frozen 0;have b1:=A9.out.frozen 1;have b2:=A9.out.frozen 2;have b3:=A9.out.frozen 3
    have d0':=Blk.cell C9.out (j:=0) rfl;have d1':=Blk.cell C9.out (j:=1) rfl;have d2':=Blk.cell C9.out (j:=2) rfl
    have d0:=C9.out.frozen 0;have d1:=C9.out.frozen 1;have d2:=C9.out.frozen 2
    unfold escAct
    go_wp2_with fail
    rw [jump_ret2]
    refine bodyPost_ret (v:=.tuple #[.agg #[.int .i64 0,.int .i32 0,.slice none 0 0,.int .i64 0],.int .i64 0,.agg #[.int .i64 61,.int .i64 p,.int .i64 ((p+1+1:Nat):Int)]]) ?_ rfl ⟨rfl,?_⟩
    · simp [results,Tryz.results103,go_sem,a0,a1,a2,a3,d0',d1',d2']
    · exact (((((((B9.out.setCell (by simp) _).setCell (by simp) _).setCell (by simp) _).setCell (by simp) _).setCell (by simp) _).setCell (by simp) _).setCell (by simp) _)
theorem escape_p112_unknown (s:ByteArray) (p:Nat) (b:Bool) (w:World) (hs:s.size≤140737488355328) (hT:Tabs w) (hp:p+2≤s.size) (c0:stands s p [92]=true) (c1:s.data.toList[p+1]? = some 112) (nm:ByteArray) (q:Nat) (HC:∀ W,Rd W (w.heap.size+1+1) s (p+1+1) [.int .i64 p] 189→Tabs W→Calls Tryz.prog 133 #[.pointer (some ⟨w.heap.size+1+1,0,none⟩)] W fun e w'=>e = .returned (.tuple #[.string nm,.bool true])∧Rd w' (w.heap.size+1+1) s q [.int .i64 p] 189∧W.grownBy w' (some (w.heap.size+1+1))) (hP:propSpec nm.data.toList false=none) :
    Calls Tryz.prog 103 #[.string s,.int .i64 p,.bool b] w fun e w'=>
      e = .returned (.tuple #[.agg #[.int .i64 0,.int .i32 0,.slice none 0 0,.int .i64 0],.int .i64 0,.agg #[.int .i64 63,.int .i64 p,.int .i64 q]])∧Below w.heap.size w w':=by
  have HC0:=hid HC;clear HC
  have HP:=hid hP;clear hP
  have hs':s.size≤1000000000000000:=by omega
  obtain ⟨bA,bC,bR,bO⟩:=esc_blocks w s p 150 32 189
  have A0:=hid bA;have C0:=hid bC;have O0:=hid bO
  have R0:=hid (show Rd _ (w.heap.size+1+1) s p [.int .i64 p] 189 from bR)
  have B0:=hid (esc_below w s p)
  have hl:=hT.lt
  have T0:=hid ((((hT.alloc (.cells #[.int .i64 0,.int .i32 0,.slice none 0 0,.int .i64 0] 150)).alloc (.cells #[.int .i64 0,.int .i64 0,.int .i64 0] 32)).alloc (.cells #[.string s,.int .i64 p,.int .i64 p] 189)).alloc (.cells #[.int .i64 0,.int .i32 0,.slice none 0 0,.int .i64 0] 150))
  clear hT
  clear bA bC bR bO
  go_enter Tryz.func103, Tryz.ntmps103
  go_wp2_with fail
  go_step3
  go_wp2_with fail
  refine (scan_has_yes _ _ ⟨#[92]⟩ p _ _ _ R0.out (by omega) hs' c0).mono ?_
  rintro e w1 ⟨rfl,hR,hG⟩
  have A1:=hid (A0.out.grown hG (ne_some (by omega)));have C1:=hid (C0.out.grown hG (ne_some (by omega)));have O1:=hid (O0.out.grown hG (ne_some (by omega)))
  have T1:=hid (T0.out.grown hG (by omega) (by omega))
  have R1:=hid hR;have B1:=hid (below_next B0.out (Nat.le_refl _) hG (fun k e=>by cases e;omega));clear hR hG
  go_wp2_with fail
  refine (scan_next_ascii _ _ (p+1) 112 _ _ _ R1.out (by omega) c1 (by decide) hs').mono ?_
  rintro e w2 ⟨rfl,hR,hG⟩
  have A2:=hid (A1.out.grown hG (ne_some (by omega)));have C2:=hid (C1.out.grown hG (ne_some (by omega)));have O2:=hid (O1.out.grown hG (ne_some (by omega)))
  have T2:=hid (T1.out.grown hG (by omega) (by omega))
  have R2:=hid hR;have B2:=hid (below_next B1.out (Nat.le_refl _) hG (fun k e=>by cases e;omega));clear hR hG
  have g1:=Rd.c1 R2.out
  go_wp2_with fail
  refine (Tryz.strings_IndexByte _ _ _).mono ?_
  rintro e w3 ⟨rfl,rfl⟩
  rw [show Lib.indexByte (⟨#[97,102,110,114,116,118]⟩:ByteArray).data.toList (min (112:Int) 127).toNat.toUInt8 = -1 from by decide]
  have A3:=A2;have C3:=C2;have O3:=O2;have R3:=R2;have B3:=B2;have T3:=T2
  go_wp2_with fail
  refine (HC0.out _ R3.out T3.out).mono ?_
  rintro e w4 ⟨rfl,hR,hG⟩
  have A4:=hid (A3.out.grown hG (ne_some (by omega)));have C4:=hid (C3.out.grown hG (ne_some (by omega)));have O4:=hid (O3.out.grown hG (ne_some (by omega)))
  have R4:=hid hR;have B4:=hid (below_next B3.out (Nat.le_refl _) hG (fun k e=>by cases e;omega));clear hR hG
  go_wp2_with fail
  refine (classes_Property nm false _).mono ?_
  rintro e w5 ⟨v,out,rfl,p1,p2,p3,p4⟩
  rw [HP.out] at p2 ⊢
  obtain ⟨sa,sc,rfl,hr,_⟩:=p1.ranges (by omega)
  have HLD:=hid p1;have HST:=hid p2;have HLN:=hid p3
  have hG:=grownBy_below p4 (some (w.heap.size+1+1));have hR:=Blk.below R4.out p4 R4.out.lt
  have hz2:=hid B4.out.size;have hz1:=hid R4.out.lt;have hz0:=hid O4.out.lt
  clear hr p1 p2 p3 p4
  have A6:=hid (A4.out.grown hG (ne_some (by omega)));have C6:=hid (C4.out.grown hG (ne_some (by omega)));have O6:=hid (O4.out.grown hG (ne_some (by omega)))
  have R6:=hid (show Rd _ _ _ _ _ _ from hR);have B6:=hid (below_next B4.out (Nat.le_refl _) hG (fun k e=>by cases e;omega));clear hR hG
  have a0:=Blk.cell A6.out (j:=0) rfl;have a1:=Blk.cell A6.out (j:=1) rfl;have a2:=Blk.cell A6.out (j:=2) rfl;have a3:=Blk.cell A6.out (j:=3) rfl
  have b0:=A6.out.frozen 0;have b1:=A6.out.frozen 1;have b2:=A6.out.frozen 2;have b3:=A6.out.frozen 3
  have d0':=Blk.cell C6.out (j:=0) rfl;have d1':=Blk.cell C6.out (j:=1) rfl;have d2':=Blk.cell C6.out (j:=2) rfl
  have d0:=C6.out.frozen 0;have d1:=C6.out.frozen 1;have d2:=C6.out.frozen 2
  have o0:=Blk.cell O6.out (j:=0) rfl;have o1:=Blk.cell O6.out (j:=1) rfl;have o2:=Blk.cell O6.out (j:=2) rfl;have o3:=Blk.cell O6.out (j:=3) rfl
  have p0:=O6.out.frozen 0;have p1:=O6.out.frozen 1;have p2:=O6.out.frozen 2;have p3:=O6.out.frozen 3
  have r1:=Rd.c1 R6.out
  clear g1
  go_wp2_with fail
  go_region
  go_wp2_with fail
  rw [Exit.noGoto_ret]
  refine bodyPost_ret (v:=.tuple #[.agg #[.int .i64 0,.int .i32 0,.slice none 0 0,.int .i64 0],.int .i64 0,.agg #[.int .i64 63,.int .i64 p,.int .i64 q]]) ?_ rfl ⟨rfl,?_⟩
  · simp [results,Tryz.results103,go_sem,a0,a1,a2,a3,d0',d1',d2']
  · exact (((((((B6.out.setCell (by simp) _).setCell (by simp) _).setCell (by simp) _).setCell (by simp) _).setCell (by simp) _).setCell (by simp) _).setCell (by simp) _).drew
theorem escape_p112_set (s:ByteArray) (p:Nat) (b:Bool) (w:World) (hs:s.size≤140737488355328) (hT:Tabs w) (hp:p+2≤s.size) (c0:stands s p [92]=true) (c1:s.data.toList[p+1]? = some 112) (nm:ByteArray) (q:Nat) (HC:∀ W,Rd W (w.heap.size+1+1) s (p+1+1) [.int .i64 p] 189→Tabs W→Calls Tryz.prog 133 #[.pointer (some ⟨w.heap.size+1+1,0,none⟩)] W fun e w'=>e = .returned (.tuple #[.string nm,.bool true])∧Rd w' (w.heap.size+1+1) s q [.int .i64 p] 189∧W.grownBy w' (some (w.heap.size+1+1))) (f:Int→Bool) (hP:propSpec nm.data.toList false=some f) :
    Calls Tryz.prog 103 #[.string s,.int .i64 p,.bool b] w (EscSet w f q):=by
  have HC0:=hid HC;clear HC
  have HP:=hid hP;clear hP
  have hs':s.size≤1000000000000000:=by omega
  obtain ⟨bA,bC,bR,bO⟩:=esc_blocks w s p 150 32 189
  have A0:=hid bA;have C0:=hid bC;have O0:=hid bO
  have R0:=hid (show Rd _ (w.heap.size+1+1) s p [.int .i64 p] 189 from bR)
  have B0:=hid (esc_below w s p)
  have hl:=hT.lt
  have T0:=hid ((((hT.alloc (.cells #[.int .i64 0,.int .i32 0,.slice none 0 0,.int .i64 0] 150)).alloc (.cells #[.int .i64 0,.int .i64 0,.int .i64 0] 32)).alloc (.cells #[.string s,.int .i64 p,.int .i64 p] 189)).alloc (.cells #[.int .i64 0,.int .i32 0,.slice none 0 0,.int .i64 0] 150))
  clear hT
  clear bA bC bR bO
  go_enter Tryz.func103, Tryz.ntmps103
  go_wp2_with fail
  go_step3
  go_wp2_with fail
  refine (scan_has_yes _ _ ⟨#[92]⟩ p _ _ _ R0.out (by omega) hs' c0).mono ?_
  rintro e w1 ⟨rfl,hR,hG⟩
  have A1:=hid (A0.out.grown hG (ne_some (by omega)));have C1:=hid (C0.out.grown hG (ne_some (by omega)));have O1:=hid (O0.out.grown hG (ne_some (by omega)))
  have T1:=hid (T0.out.grown hG (by omega) (by omega))
  have R1:=hid hR;have B1:=hid (below_next B0.out (Nat.le_refl _) hG (fun k e=>by cases e;omega));clear hR hG
  go_wp2_with fail
  refine (scan_next_ascii _ _ (p+1) 112 _ _ _ R1.out (by omega) c1 (by decide) hs').mono ?_
  rintro e w2 ⟨rfl,hR,hG⟩
  have A2:=hid (A1.out.grown hG (ne_some (by omega)));have C2:=hid (C1.out.grown hG (ne_some (by omega)));have O2:=hid (O1.out.grown hG (ne_some (by omega)))
  have T2:=hid (T1.out.grown hG (by omega) (by omega))
  have R2:=hid hR;have B2:=hid (below_next B1.out (Nat.le_refl _) hG (fun k e=>by cases e;omega));clear hR hG
  have g1:=Rd.c1 R2.out
  go_wp2_with fail
  refine (Tryz.strings_IndexByte _ _ _).mono ?_
  rintro e w3 ⟨rfl,rfl⟩
  rw [show Lib.indexByte (⟨#[97,102,110,114,116,118]⟩:ByteArray).data.toList (min (112:Int) 127).toNat.toUInt8 = -1 from by decide]
  have A3:=A2;have C3:=C2;have O3:=O2;have R3:=R2;have B3:=B2;have T3:=T2
  go_wp2_with fail
  refine (HC0.out _ R3.out T3.out).mono ?_
  rintro e w4 ⟨rfl,hR,hG⟩
  have A4:=hid (A3.out.grown hG (ne_some (by omega)));have C4:=hid (C3.out.grown hG (ne_some (by omega)));have O4:=hid (O3.out.grown hG (ne_some (by omega)))
  have R4:=hid hR;have B4:=hid (below_next B3.out (Nat.le_refl _) hG (fun k e=>by cases e;omega));clear hR hG
  go_wp2_with fail
  refine (classes_Property nm false _).mono ?_
  rintro e w5 ⟨v,out,rfl,p1,p2,p3,p4⟩
  rw [HP.out] at p2 ⊢
  obtain ⟨sa,sc,rfl,hr,_⟩:=p1.ranges (by omega)
  have HLD:=hid p1;have HST:=hid p2;have HLN:=hid p3
  have hG:=grownBy_below p4 (some (w.heap.size+1+1));have hR:=Blk.below R4.out p4 R4.out.lt
  have hz2:=hid B4.out.size;have hz1:=hid R4.out.lt;have hz0:=hid O4.out.lt
  clear hr p1 p2 p3 p4
  have A6:=hid (A4.out.grown hG (ne_some (by omega)));have C6:=hid (C4.out.grown hG (ne_some (by omega)));have O6:=hid (O4.out.grown hG (ne_some (by omega)))
  have R6:=hid (show Rd _ _ _ _ _ _ from hR);have B6:=hid (below_next B4.out (Nat.le_refl _) hG (fun k e=>by cases e;omega));clear hR hG
  have o0:=Blk.cell O6.out (j:=0) rfl;have o1:=Blk.cell O6.out (j:=1) rfl;have o2:=Blk.cell O6.out (j:=2) rfl;have o3:=Blk.cell O6.out (j:=3) rfl
  have p0:=O6.out.frozen 0;have p1:=O6.out.frozen 1;have p2:=O6.out.frozen 2;have p3:=O6.out.frozen 3
  go_wp2_with fail
  obtain ⟨W5,hW5⟩:∃ W5,W5=World.set4 w5 (w.heap.size+1+1+1) (.int .i64 2) (.int .i32 0) (.slice sa out.length sc) (.int .i64 0):=⟨_,rfl⟩
  have O5:=O6.out.set4 (.int .i64 2) (.int .i32 0) (.slice sa out.length sc) (.int .i64 0)
  have A5:=A6.out.set4_other (b:=w.heap.size+1+1+1) (by omega) (.int .i64 2) (.int .i32 0) (.slice sa out.length sc) (.int .i64 0)
  have C5:=C6.out.set4_other (b:=w.heap.size+1+1+1) (by omega) (.int .i64 2) (.int .i32 0) (.slice sa out.length sc) (.int .i64 0)
  have R5:=Blk.set4_other (b:=w.heap.size+1+1+1) R6.out (by omega) (.int .i64 2) (.int .i32 0) (.slice sa out.length sc) (.int .i64 0)
  have G5:=grownBy_set4 w5 (w.heap.size+1+1+1) (.int .i64 2) (.int .i32 0) (.slice sa out.length sc) (.int .i64 0)
  change Code.wp _ _ _ _ (World.set4 w5 (w.heap.size+1+1+1) (.int .i64 2) (.int .i32 0) (.slice sa out.length sc) (.int .i64 0))
  rw [← hW5] at O5 A5 C5 R5 G5 ⊢
  clear hW5 o0 o1 o2 o3 p0 p1 p2 p3
  clear g1
  have o0:=Blk.cell O5 (j:=0) rfl;have o1:=Blk.cell O5 (j:=1) rfl;have o2:=Blk.cell O5 (j:=2) rfl;have o3:=Blk.cell O5 (j:=3) rfl
  have r1:=Blk.cell R5 (j:=1) rfl
  have a0:=Blk.cell A5 (j:=0) rfl;have a1:=Blk.cell A5 (j:=1) rfl;have a2:=Blk.cell A5 (j:=2) rfl;have a3:=Blk.cell A5 (j:=3) rfl
  have b0:=A5.frozen 0;have b1:=A5.frozen 1;have b2:=A5.frozen 2;have b3:=A5.frozen 3
  have d0':=Blk.cell C5 (j:=0) rfl;have d1':=Blk.cell C5 (j:=1) rfl;have d2':=Blk.cell C5 (j:=2) rfl
  have d0:=C5.frozen 0;have d1:=C5.frozen 1;have d2:=C5.frozen 2
  have HO5:=hid O5;have HA5:=hid A5;have HC5:=hid C5;have HR5:=hid R5;have HG5:=hid G5
  have B5:=hid (below_next B6.out (Nat.le_refl _) G5 (fun k e=>by cases e;omega))
  clear O5 A5 C5 R5 G5
  go_region
  go_wp2_with fail
  rw [Exit.noGoto_ret]
  have HL5:=hid (show World.ownsRow W5 w4.heap.size _ 2 _ _ _ from HLD.out.kept HG5.out (own_ne HLD.out (by have:=hz0.out;omega)))
  refine bodyPost_ret (v:=.tuple #[.agg #[.int .i64 2,.int .i32 0,.slice sa out.length sc,.int .i64 0],.int .i64 q,.agg #[.int .i64 0,.int .i64 0,.int .i64 0]]) ?_ rfl ⟨_,out,rfl,?_,HST.out,HLN.out,?_⟩
  · simp [results,Tryz.results103,go_sem,a0,a1,a2,a3,d0',d1',d2']
  · have l1:=hz0.out
    refine Joins.ownsRow_le ?_ hz2.out
    refine ownsRow_drew ?_
    exact (ownsRow_setCell (ownsRow_setCell (ownsRow_setCell (ownsRow_setCell (ownsRow_setCell (ownsRow_setCell (ownsRow_setCell HL5.out (by omega) _ _) (by omega) _ _) (by omega) _ _) (by omega) _ _) (by omega) _ _) (by omega) _ _) (by omega) _ _)
  · exact (((((((B5.out.setCell (by simp) _).setCell (by simp) _).setCell (by simp) _).setCell (by simp) _).setCell (by simp) _).setCell (by simp) _).setCell (by simp) _).drew
theorem escape_p80_no (s:ByteArray) (p:Nat) (b:Bool) (w:World) (hs:s.size≤140737488355328) (hT:Tabs w) (hp:p+2≤s.size) (c0:stands s p [92]=true) (c1:s.data.toList[p+1]? = some 80) (nm:ByteArray) (q:Nat) (HC:∀ W,Rd W (w.heap.size+1+1) s (p+1+1) [.int .i64 p] 189→Tabs W→Calls Tryz.prog 133 #[.pointer (some ⟨w.heap.size+1+1,0,none⟩)] W fun e w'=>e = .returned (.tuple #[.string nm,.bool false])∧Rd w' (w.heap.size+1+1) s q [.int .i64 p] 189∧W.grownBy w' (some (w.heap.size+1+1))) :
    Calls Tryz.prog 103 #[.string s,.int .i64 p,.bool b] w fun e w'=>
      e = .returned (.tuple #[.agg #[.int .i64 0,.int .i32 0,.slice none 0 0,.int .i64 0],.int .i64 0,.agg #[.int .i64 61,.int .i64 p,.int .i64 ((p+1+1:Nat):Int)]])∧Below w.heap.size w w':=by
  have HC0:=hid HC;clear HC
  have hs':s.size≤1000000000000000:=by omega
  obtain ⟨bA,bC,bR,bO⟩:=esc_blocks w s p 150 32 189
  have A0:=hid bA;have C0:=hid bC;have O0:=hid bO
  have R0:=hid (show Rd _ (w.heap.size+1+1) s p [.int .i64 p] 189 from bR)
  have B0:=hid (esc_below w s p)
  have hl:=hT.lt
  have T0:=hid ((((hT.alloc (.cells #[.int .i64 0,.int .i32 0,.slice none 0 0,.int .i64 0] 150)).alloc (.cells #[.int .i64 0,.int .i64 0,.int .i64 0] 32)).alloc (.cells #[.string s,.int .i64 p,.int .i64 p] 189)).alloc (.cells #[.int .i64 0,.int .i32 0,.slice none 0 0,.int .i64 0] 150))
  clear hT
  clear bA bC bR bO
  go_enter Tryz.func103, Tryz.ntmps103
  go_wp2_with fail
  refine wp_scope_jumps 0 (escJ s p (((p+1+1:Nat):Int)) w) (fun _ _=>0) rfl ?_ ?_
  · go_wp2_with fail
    refine (scan_has_yes _ _ ⟨#[92]⟩ p _ _ _ R0.out (by omega) hs' c0).mono ?_
    rintro e w1 ⟨rfl,hR,hG⟩
    have A1:=hid (A0.out.grown hG (ne_some (by omega)));have C1:=hid (C0.out.grown hG (ne_some (by omega)));have O1:=hid (O0.out.grown hG (ne_some (by omega)))
    have T1:=hid (T0.out.grown hG (by omega) (by omega))
    have R1:=hid hR;have B1:=hid (below_next B0.out (Nat.le_refl _) hG (fun k e=>by cases e;omega));clear hR hG
    go_wp2_with fail
    refine (scan_next_ascii _ _ (p+1) 80 _ _ _ R1.out (by omega) c1 (by decide) hs').mono ?_
    rintro e w2 ⟨rfl,hR,hG⟩
    have A2:=hid (A1.out.grown hG (ne_some (by omega)));have C2:=hid (C1.out.grown hG (ne_some (by omega)));have O2:=hid (O1.out.grown hG (ne_some (by omega)))
    have T2:=hid (T1.out.grown hG (by omega) (by omega))
    have R2:=hid hR;have B2:=hid (below_next B1.out (Nat.le_refl _) hG (fun k e=>by cases e;omega));clear hR hG
    have g1:=Rd.c1 R2.out
    go_wp2_with fail
    refine (Tryz.strings_IndexByte _ _ _).mono ?_
    rintro e w3 ⟨rfl,rfl⟩
    rw [show Lib.indexByte (⟨#[97,102,110,114,116,118]⟩:ByteArray).data.toList (min (80:Int) 127).toNat.toUInt8 = -1 from by decide]
    have A3:=A2;have C3:=C2;have O3:=O2;have R3:=R2;have B3:=B2;have T3:=T2
    go_wp2_with fail
    refine (HC0.out _ R3.out T3.out).mono ?_
    rintro e w4 ⟨rfl,hR,hG⟩
    have A4:=hid (A3.out.grown hG (ne_some (by omega)));have C4:=hid (C3.out.grown hG (ne_some (by omega)));have O4:=hid (O3.out.grown hG (ne_some (by omega)))
    have R4:=hid hR;have B4:=hid (below_next B3.out (Nat.le_refl _) hG (fun k e=>by cases e;omega));clear hR hG
    go_wp2_with fail
    go_step3
    exact ⟨rfl,escJ_intro rfl A4.out C4.out B4.out⟩
  · rintro a wc ⟨u,rfl,hA,hC,hB⟩
    have A9:=hid hA;have C9:=hid hC;have B9:=hid hB
    clear hA hC hB
    have a0:=Blk.cell A9.out (j:=0) rfl;have a1:=Blk.cell A9.out (j:=1) rfl;have a2:=Blk.cell A9.out (j:=2) rfl;have a3:=Blk.cell A9.out (j:=3) rfl
    have b0:=A9.out.frozen 0;have b1:=A9.out.frozen 1;have b2:=A9.out.frozen 2;have b3:=A9.out.frozen 3
    have d0':=Blk.cell C9.out (j:=0) rfl;have d1':=Blk.cell C9.out (j:=1) rfl;have d2':=Blk.cell C9.out (j:=2) rfl
    have d0:=C9.out.frozen 0;have d1:=C9.out.frozen 1;have d2:=C9.out.frozen 2
    unfold escAct
    go_wp2_with fail
    rw [jump_ret2]
    refine bodyPost_ret (v:=.tuple #[.agg #[.int .i64 0,.int .i32 0,.slice none 0 0,.int .i64 0],.int .i64 0,.agg #[.int .i64 61,.int .i64 p,.int .i64 ((p+1+1:Nat):Int)]]) ?_ rfl ⟨rfl,?_⟩
    · simp [results,Tryz.results103,go_sem,a0,a1,a2,a3,d0',d1',d2']
    · exact (((((((B9.out.setCell (by simp) _).setCell (by simp) _).setCell (by simp) _).setCell (by simp) _).setCell (by simp) _).setCell (by simp) _).setCell (by simp) _)
theorem escape_p80_unknown (s:ByteArray) (p:Nat) (b:Bool) (w:World) (hs:s.size≤140737488355328) (hT:Tabs w) (hp:p+2≤s.size) (c0:stands s p [92]=true) (c1:s.data.toList[p+1]? = some 80) (nm:ByteArray) (q:Nat) (HC:∀ W,Rd W (w.heap.size+1+1) s (p+1+1) [.int .i64 p] 189→Tabs W→Calls Tryz.prog 133 #[.pointer (some ⟨w.heap.size+1+1,0,none⟩)] W fun e w'=>e = .returned (.tuple #[.string nm,.bool true])∧Rd w' (w.heap.size+1+1) s q [.int .i64 p] 189∧W.grownBy w' (some (w.heap.size+1+1))) (hP:propSpec nm.data.toList true=none) :
    Calls Tryz.prog 103 #[.string s,.int .i64 p,.bool b] w fun e w'=>
      e = .returned (.tuple #[.agg #[.int .i64 0,.int .i32 0,.slice none 0 0,.int .i64 0],.int .i64 0,.agg #[.int .i64 63,.int .i64 p,.int .i64 q]])∧Below w.heap.size w w':=by
  have HC0:=hid HC;clear HC
  have HP:=hid hP;clear hP
  have hs':s.size≤1000000000000000:=by omega
  obtain ⟨bA,bC,bR,bO⟩:=esc_blocks w s p 150 32 189
  have A0:=hid bA;have C0:=hid bC;have O0:=hid bO
  have R0:=hid (show Rd _ (w.heap.size+1+1) s p [.int .i64 p] 189 from bR)
  have B0:=hid (esc_below w s p)
  have hl:=hT.lt
  have T0:=hid ((((hT.alloc (.cells #[.int .i64 0,.int .i32 0,.slice none 0 0,.int .i64 0] 150)).alloc (.cells #[.int .i64 0,.int .i64 0,.int .i64 0] 32)).alloc (.cells #[.string s,.int .i64 p,.int .i64 p] 189)).alloc (.cells #[.int .i64 0,.int .i32 0,.slice none 0 0,.int .i64 0] 150))
  clear hT
  clear bA bC bR bO
  go_enter Tryz.func103, Tryz.ntmps103
  go_wp2_with fail
  go_step3
  go_wp2_with fail
  refine (scan_has_yes _ _ ⟨#[92]⟩ p _ _ _ R0.out (by omega) hs' c0).mono ?_
  rintro e w1 ⟨rfl,hR,hG⟩
  have A1:=hid (A0.out.grown hG (ne_some (by omega)));have C1:=hid (C0.out.grown hG (ne_some (by omega)));have O1:=hid (O0.out.grown hG (ne_some (by omega)))
  have T1:=hid (T0.out.grown hG (by omega) (by omega))
  have R1:=hid hR;have B1:=hid (below_next B0.out (Nat.le_refl _) hG (fun k e=>by cases e;omega));clear hR hG
  go_wp2_with fail
  refine (scan_next_ascii _ _ (p+1) 80 _ _ _ R1.out (by omega) c1 (by decide) hs').mono ?_
  rintro e w2 ⟨rfl,hR,hG⟩
  have A2:=hid (A1.out.grown hG (ne_some (by omega)));have C2:=hid (C1.out.grown hG (ne_some (by omega)));have O2:=hid (O1.out.grown hG (ne_some (by omega)))
  have T2:=hid (T1.out.grown hG (by omega) (by omega))
  have R2:=hid hR;have B2:=hid (below_next B1.out (Nat.le_refl _) hG (fun k e=>by cases e;omega));clear hR hG
  have g1:=Rd.c1 R2.out
  go_wp2_with fail
  refine (Tryz.strings_IndexByte _ _ _).mono ?_
  rintro e w3 ⟨rfl,rfl⟩
  rw [show Lib.indexByte (⟨#[97,102,110,114,116,118]⟩:ByteArray).data.toList (min (80:Int) 127).toNat.toUInt8 = -1 from by decide]
  have A3:=A2;have C3:=C2;have O3:=O2;have R3:=R2;have B3:=B2;have T3:=T2
  go_wp2_with fail
  refine (HC0.out _ R3.out T3.out).mono ?_
  rintro e w4 ⟨rfl,hR,hG⟩
  have A4:=hid (A3.out.grown hG (ne_some (by omega)));have C4:=hid (C3.out.grown hG (ne_some (by omega)));have O4:=hid (O3.out.grown hG (ne_some (by omega)))
  have R4:=hid hR;have B4:=hid (below_next B3.out (Nat.le_refl _) hG (fun k e=>by cases e;omega));clear hR hG
  go_wp2_with fail
  refine (classes_Property nm true _).mono ?_
  rintro e w5 ⟨v,out,rfl,p1,p2,p3,p4⟩
  rw [HP.out] at p2 ⊢
  obtain ⟨sa,sc,rfl,hr,_⟩:=p1.ranges (by omega)
  have HLD:=hid p1;have HST:=hid p2;have HLN:=hid p3
  have hG:=grownBy_below p4 (some (w.heap.size+1+1));have hR:=Blk.below R4.out p4 R4.out.lt
  have hz2:=hid B4.out.size;have hz1:=hid R4.out.lt;have hz0:=hid O4.out.lt
  clear hr p1 p2 p3 p4
  have A6:=hid (A4.out.grown hG (ne_some (by omega)));have C6:=hid (C4.out.grown hG (ne_some (by omega)));have O6:=hid (O4.out.grown hG (ne_some (by omega)))
  have R6:=hid (show Rd _ _ _ _ _ _ from hR);have B6:=hid (below_next B4.out (Nat.le_refl _) hG (fun k e=>by cases e;omega));clear hR hG
  have a0:=Blk.cell A6.out (j:=0) rfl;have a1:=Blk.cell A6.out (j:=1) rfl;have a2:=Blk.cell A6.out (j:=2) rfl;have a3:=Blk.cell A6.out (j:=3) rfl
  have b0:=A6.out.frozen 0;have b1:=A6.out.frozen 1;have b2:=A6.out.frozen 2;have b3:=A6.out.frozen 3
  have d0':=Blk.cell C6.out (j:=0) rfl;have d1':=Blk.cell C6.out (j:=1) rfl;have d2':=Blk.cell C6.out (j:=2) rfl
  have d0:=C6.out.frozen 0;have d1:=C6.out.frozen 1;have d2:=C6.out.frozen 2
  have o0:=Blk.cell O6.out (j:=0) rfl;have o1:=Blk.cell O6.out (j:=1) rfl;have o2:=Blk.cell O6.out (j:=2) rfl;have o3:=Blk.cell O6.out (j:=3) rfl
  have p0:=O6.out.frozen 0;have p1:=O6.out.frozen 1;have p2:=O6.out.frozen 2;have p3:=O6.out.frozen 3
  have r1:=Rd.c1 R6.out
  clear g1
  go_wp2_with fail
  go_region
  go_wp2_with fail
  rw [Exit.noGoto_ret]
  refine bodyPost_ret (v:=.tuple #[.agg #[.int .i64 0,.int .i32 0,.slice none 0 0,.int .i64 0],.int .i64 0,.agg #[.int .i64 63,.int .i64 p,.int .i64 q]]) ?_ rfl ⟨rfl,?_⟩
  · simp [results,Tryz.results103,go_sem,a0,a1,a2,a3,d0',d1',d2']
  · exact (((((((B6.out.setCell (by simp) _).setCell (by simp) _).setCell (by simp) _).setCell (by simp) _).setCell (by simp) _).setCell (by simp) _).setCell (by simp) _).drew
theorem escape_p80_set (s:ByteArray) (p:Nat) (b:Bool) (w:World) (hs:s.size≤140737488355328) (hT:Tabs w) (hp:p+2≤s.size) (c0:stands s p [92]=true) (c1:s.data.toList[p+1]? = some 80) (nm:ByteArray) (q:Nat) (HC:∀ W,Rd W (w.heap.size+1+1) s (p+1+1) [.int .i64 p] 189→Tabs W→Calls Tryz.prog 133 #[.pointer (some ⟨w.heap.size+1+1,0,none⟩)] W fun e w'=>e = .returned (.tuple #[.string nm,.bool true])∧Rd w' (w.heap.size+1+1) s q [.int .i64 p] 189∧W.grownBy w' (some (w.heap.size+1+1))) (f:Int→Bool) (hP:propSpec nm.data.toList true=some f) :
    Calls Tryz.prog 103 #[.string s,.int .i64 p,.bool b] w (EscSet w f q):=by
  have HC0:=hid HC;clear HC
  have HP:=hid hP;clear hP
  have hs':s.size≤1000000000000000:=by omega
  obtain ⟨bA,bC,bR,bO⟩:=esc_blocks w s p 150 32 189
  have A0:=hid bA;have C0:=hid bC;have O0:=hid bO
  have R0:=hid (show Rd _ (w.heap.size+1+1) s p [.int .i64 p] 189 from bR)
  have B0:=hid (esc_below w s p)
  have hl:=hT.lt
  have T0:=hid ((((hT.alloc (.cells #[.int .i64 0,.int .i32 0,.slice none 0 0,.int .i64 0] 150)).alloc (.cells #[.int .i64 0,.int .i64 0,.int .i64 0] 32)).alloc (.cells #[.string s,.int .i64 p,.int .i64 p] 189)).alloc (.cells #[.int .i64 0,.int .i32 0,.slice none 0 0,.int .i64 0] 150))
  clear hT
  clear bA bC bR bO
  go_enter Tryz.func103, Tryz.ntmps103
  go_wp2_with fail
  go_step3
  go_wp2_with fail
  refine (scan_has_yes _ _ ⟨#[92]⟩ p _ _ _ R0.out (by omega) hs' c0).mono ?_
  rintro e w1 ⟨rfl,hR,hG⟩
  have A1:=hid (A0.out.grown hG (ne_some (by omega)));have C1:=hid (C0.out.grown hG (ne_some (by omega)));have O1:=hid (O0.out.grown hG (ne_some (by omega)))
  have T1:=hid (T0.out.grown hG (by omega) (by omega))
  have R1:=hid hR;have B1:=hid (below_next B0.out (Nat.le_refl _) hG (fun k e=>by cases e;omega));clear hR hG
  go_wp2_with fail
  refine (scan_next_ascii _ _ (p+1) 80 _ _ _ R1.out (by omega) c1 (by decide) hs').mono ?_
  rintro e w2 ⟨rfl,hR,hG⟩
  have A2:=hid (A1.out.grown hG (ne_some (by omega)));have C2:=hid (C1.out.grown hG (ne_some (by omega)));have O2:=hid (O1.out.grown hG (ne_some (by omega)))
  have T2:=hid (T1.out.grown hG (by omega) (by omega))
  have R2:=hid hR;have B2:=hid (below_next B1.out (Nat.le_refl _) hG (fun k e=>by cases e;omega));clear hR hG
  have g1:=Rd.c1 R2.out
  go_wp2_with fail
  refine (Tryz.strings_IndexByte _ _ _).mono ?_
  rintro e w3 ⟨rfl,rfl⟩
  rw [show Lib.indexByte (⟨#[97,102,110,114,116,118]⟩:ByteArray).data.toList (min (80:Int) 127).toNat.toUInt8 = -1 from by decide]
  have A3:=A2;have C3:=C2;have O3:=O2;have R3:=R2;have B3:=B2;have T3:=T2
  go_wp2_with fail
  refine (HC0.out _ R3.out T3.out).mono ?_
  rintro e w4 ⟨rfl,hR,hG⟩
  have A4:=hid (A3.out.grown hG (ne_some (by omega)));have C4:=hid (C3.out.grown hG (ne_some (by omega)));have O4:=hid (O3.out.grown hG (ne_some (by omega)))
  have R4:=hid hR;have B4:=hid (below_next B3.out (Nat.le_refl _) hG (fun k e=>by cases e;omega));clear hR hG
  go_wp2_with fail
  refine (classes_Property nm true _).mono ?_
  rintro e w5 ⟨v,out,rfl,p1,p2,p3,p4⟩
  rw [HP.out] at p2 ⊢
  obtain ⟨sa,sc,rfl,hr,_⟩:=p1.ranges (by omega)
  have HLD:=hid p1;have HST:=hid p2;have HLN:=hid p3
  have hG:=grownBy_below p4 (some (w.heap.size+1+1));have hR:=Blk.below R4.out p4 R4.out.lt
  have hz2:=hid B4.out.size;have hz1:=hid R4.out.lt;have hz0:=hid O4.out.lt
  clear hr p1 p2 p3 p4
  have A6:=hid (A4.out.grown hG (ne_some (by omega)));have C6:=hid (C4.out.grown hG (ne_some (by omega)));have O6:=hid (O4.out.grown hG (ne_some (by omega)))
  have R6:=hid (show Rd _ _ _ _ _ _ from hR);have B6:=hid (below_next B4.out (Nat.le_refl _) hG (fun k e=>by cases e;omega));clear hR hG
  have o0:=Blk.cell O6.out (j:=0) rfl;have o1:=Blk.cell O6.out (j:=1) rfl;have o2:=Blk.cell O6.out (j:=2) rfl;have o3:=Blk.cell O6.out (j:=3) rfl
  have p0:=O6.out.frozen 0;have p1:=O6.out.frozen 1;have p2:=O6.out.frozen 2;have p3:=O6.out.frozen 3
  go_wp2_with fail
  obtain ⟨W5,hW5⟩:∃ W5,W5=World.set4 w5 (w.heap.size+1+1+1) (.int .i64 2) (.int .i32 0) (.slice sa out.length sc) (.int .i64 0):=⟨_,rfl⟩
  have O5:=O6.out.set4 (.int .i64 2) (.int .i32 0) (.slice sa out.length sc) (.int .i64 0)
  have A5:=A6.out.set4_other (b:=w.heap.size+1+1+1) (by omega) (.int .i64 2) (.int .i32 0) (.slice sa out.length sc) (.int .i64 0)
  have C5:=C6.out.set4_other (b:=w.heap.size+1+1+1) (by omega) (.int .i64 2) (.int .i32 0) (.slice sa out.length sc) (.int .i64 0)
  have R5:=Blk.set4_other (b:=w.heap.size+1+1+1) R6.out (by omega) (.int .i64 2) (.int .i32 0) (.slice sa out.length sc) (.int .i64 0)
  have G5:=grownBy_set4 w5 (w.heap.size+1+1+1) (.int .i64 2) (.int .i32 0) (.slice sa out.length sc) (.int .i64 0)
  change Code.wp _ _ _ _ (World.set4 w5 (w.heap.size+1+1+1) (.int .i64 2) (.int .i32 0) (.slice sa out.length sc) (.int .i64 0))
  rw [← hW5] at O5 A5 C5 R5 G5 ⊢
  clear hW5 o0 o1 o2 o3 p0 p1 p2 p3
  clear g1
  have o0:=Blk.cell O5 (j:=0) rfl;have o1:=Blk.cell O5 (j:=1) rfl;have o2:=Blk.cell O5 (j:=2) rfl;have o3:=Blk.cell O5 (j:=3) rfl
  have r1:=Blk.cell R5 (j:=1) rfl
  have a0:=Blk.cell A5 (j:=0) rfl;have a1:=Blk.cell A5 (j:=1) rfl;have a2:=Blk.cell A5 (j:=2) rfl;have a3:=Blk.cell A5 (j:=3) rfl
  have b0:=A5.frozen 0;have b1:=A5.frozen 1;have b2:=A5.frozen 2;have b3:=A5.frozen 3
  have d0':=Blk.cell C5 (j:=0) rfl;have d1':=Blk.cell C5 (j:=1) rfl;have d2':=Blk.cell C5 (j:=2) rfl
  have d0:=C5.frozen 0;have d1:=C5.frozen 1;have d2:=C5.frozen 2
  have HO5:=hid O5;have HA5:=hid A5;have HC5:=hid C5;have HR5:=hid R5;have HG5:=hid G5
  have B5:=hid (below_next B6.out (Nat.le_refl _) G5 (fun k e=>by cases e;omega))
  clear O5 A5 C5 R5 G5
  go_region
  go_wp2_with fail
  rw [Exit.noGoto_ret]
  have HL5:=hid (show World.ownsRow W5 w4.heap.size _ 2 _ _ _ from HLD.out.kept HG5.out (own_ne HLD.out (by have:=hz0.out;omega)))
  refine bodyPost_ret (v:=.tuple #[.agg #[.int .i64 2,.int .i32 0,.slice sa out.length sc,.int .i64 0],.int .i64 q,.agg #[.int .i64 0,.int .i64 0,.int .i64 0]]) ?_ rfl ⟨_,out,rfl,?_,HST.out,HLN.out,?_⟩
  · simp [results,Tryz.results103,go_sem,a0,a1,a2,a3,d0',d1',d2']
  · have l1:=hz0.out
    refine Joins.ownsRow_le ?_ hz2.out
    refine ownsRow_drew ?_
    exact (ownsRow_setCell (ownsRow_setCell (ownsRow_setCell (ownsRow_setCell (ownsRow_setCell (ownsRow_setCell (ownsRow_setCell HL5.out (by omega) _ _) (by omega) _ _) (by omega) _ _) (by omega) _ _) (by omega) _ _) (by omega) _ _) (by omega) _ _)
  · exact (((((((B5.out.setCell (by simp) _).setCell (by simp) _).setCell (by simp) _).setCell (by simp) _).setCell (by simp) _).setCell (by simp) _).setCell (by simp) _).drew
theorem escape_pnone0 (s:ByteArray) (p:Nat) (w:World) (hs:s.size≤140737488355328) (hT:Tabs w) (hp:p+2≤s.size) (c0:stands s p [92]=true) (C:Int) (Q:Nat) (hC:nextC s (p+1)=C) (hQ:nextW s (p+1)=Q) (h0:0≤C) (hr:C≤32) (hlet:(C≠97∧C≠102∧C≠110∧C≠114∧C≠116∧C≠118)) (_:C≠120∧C≠112∧C≠80∧C≠65∧C≠122∧C≠98∧C≠66∧C≠81) (hP:perlSpec (min C 127)=none) :
    Calls Tryz.prog 103 #[.string s,.int .i64 p,.bool true] w fun e w'=>
      e = .returned (.tuple #[.agg #[.int .i64 0,.int .i32 0,.slice none 0 0,.int .i64 0],.int .i64 0,.agg #[.int .i64 61,.int .i64 p,.int .i64 (Q:Int)]])∧Below w.heap.size w w':=by
  have HN:=hid (show ∀ W b rest t,Rd W b s (p+1) rest t→Tabs W→Calls Tryz.prog 130 #[.pointer (some ⟨b,0,none⟩)] W fun e w'=>e = .returned (.int .i32 C)∧Rd w' b s Q rest t∧W.grownBy w' (some b) from fun W b rest t hW hT=>by rw [← hQ,← hC];exact scan_next b s (p+1) rest t W hW hT (by omega) (by omega))
  clear hC hQ
  have e0:(C == -1)=false:=by simp;omega
  have f0:¬ 32 < C:=by omega
  have f0b:decide (32 < C)=false:=by simp;omega
  have f1:C < 127:=by omega
  have f1b:decide (C < 127)=true:=by simp;omega
  have f2:¬ 48≤C:=by omega
  have f2b:decide (48≤C)=false:=by simp;omega
  have f3:C≤57:=by omega
  have f3b:decide (C≤57)=true:=by simp;omega
  have f4:¬ 97≤C:=by omega
  have f4b:decide (97≤C)=false:=by simp;omega
  have f5:C≤122:=by omega
  have f5b:decide (C≤122)=true:=by simp;omega
  have f6:¬ 65≤C:=by omega
  have f6b:decide (65≤C)=false:=by simp;omega
  have f7:C≤90:=by omega
  have f7b:decide (C≤90)=true:=by simp;omega
  have n120:(C == 120)=false:=by simp;omega
  have n112:(C == 112)=false:=by simp;omega
  have n80:(C == 80)=false:=by simp;omega
  have n65:(C == 65)=false:=by simp;omega
  have n122:(C == 122)=false:=by simp;omega
  have n98:(C == 98)=false:=by simp;omega
  have n66:(C == 66)=false:=by simp;omega
  have n81:(C == 81)=false:=by simp;omega
  have HL:=hid (letters_no C h0 hlet)
  clear hr hlet
  have HP:=hid hP;clear hP
  have hs':s.size≤1000000000000000:=by omega
  obtain ⟨bA,bC,bR,bO⟩:=esc_blocks w s p 150 32 189
  have A0:=hid bA;have C0:=hid bC;have O0:=hid bO
  have R0:=hid (show Rd _ (w.heap.size+1+1) s p [.int .i64 p] 189 from bR)
  have B0:=hid (esc_below w s p)
  have hl:=hT.lt
  have T0:=hid ((((hT.alloc (.cells #[.int .i64 0,.int .i32 0,.slice none 0 0,.int .i64 0] 150)).alloc (.cells #[.int .i64 0,.int .i64 0,.int .i64 0] 32)).alloc (.cells #[.string s,.int .i64 p,.int .i64 p] 189)).alloc (.cells #[.int .i64 0,.int .i32 0,.slice none 0 0,.int .i64 0] 150))
  clear hT
  clear bA bC bR bO
  go_enter Tryz.func103, Tryz.ntmps103
  go_wp2_with fail
  refine wp_scope_jumps 0 (escJ s p ((Q:Int)) w) (fun _ _=>0) rfl ?_ ?_
  · go_wp2_with fail
    refine (scan_has_yes _ _ ⟨#[92]⟩ p _ _ _ R0.out (by omega) hs' c0).mono ?_
    rintro e w1 ⟨rfl,hR,hG⟩
    have A1:=hid (A0.out.grown hG (ne_some (by omega)));have C1:=hid (C0.out.grown hG (ne_some (by omega)));have O1:=hid (O0.out.grown hG (ne_some (by omega)))
    have T1:=hid (T0.out.grown hG (by omega) (by omega))
    have R1:=hid hR;have B1:=hid (below_next B0.out (Nat.le_refl _) hG (fun k e=>by cases e;omega));clear hR hG
    go_wp2_with fail
    refine (HN.out _ _ _ _ R1.out T1.out).mono ?_
    rintro e w2 ⟨rfl,hR,hG⟩
    have A2:=hid (A1.out.grown hG (ne_some (by omega)));have C2:=hid (C1.out.grown hG (ne_some (by omega)));have O2:=hid (O1.out.grown hG (ne_some (by omega)))
    have T2:=hid (T1.out.grown hG (by omega) (by omega))
    have R2:=hid hR;have B2:=hid (below_next B1.out (Nat.le_refl _) hG (fun k e=>by cases e;omega));clear hR hG
    have g1:=Rd.c1 R2.out
    go_wp2_with fail
    refine (Tryz.strings_IndexByte _ _ _).mono ?_
    rintro e w3 ⟨rfl,rfl⟩
    rw [HL.out]
    go_wp2_with fail
    refine (classes_Perl (min C 127) _).mono ?_
    rintro e w4 ⟨v,out,rfl,p1,p2,p3,p4⟩
    rw [HP.out] at p2 ⊢
    obtain ⟨sa,sc,rfl,hr,_⟩:=p1.ranges (by omega)
    have HLD:=hid p1;have HST:=hid p2;have HLN:=hid p3
    have hG:=grownBy_below p4 (some (w.heap.size+1+1));have hR:=Blk.below R2.out p4 R2.out.lt
    have hz2:=hid B2.out.size;have hz1:=hid R2.out.lt;have hz0:=hid O2.out.lt
    clear hr p1 p2 p3 p4
    have A4:=hid (A2.out.grown hG (ne_some (by omega)));have C4:=hid (C2.out.grown hG (ne_some (by omega)));have O4:=hid (O2.out.grown hG (ne_some (by omega)))
    have R4:=hid (show Rd _ _ _ _ _ _ from hR);have B4:=hid (below_next B2.out (Nat.le_refl _) hG (fun k e=>by cases e;omega));clear hR hG
    go_wp2_with fail
    go_step3
    exact ⟨rfl,escJ_intro rfl A4.out C4.out B4.out⟩
  · rintro a wc ⟨u,rfl,hA,hC,hB⟩
    have A9:=hid hA;have C9:=hid hC;have B9:=hid hB
    clear hA hC hB
    have a0:=Blk.cell A9.out (j:=0) rfl;have a1:=Blk.cell A9.out (j:=1) rfl;have a2:=Blk.cell A9.out (j:=2) rfl;have a3:=Blk.cell A9.out (j:=3) rfl
    have b0:=A9.out.frozen 0;have b1:=A9.out.frozen 1;have b2:=A9.out.frozen 2;have b3:=A9.out.frozen 3
    have d0':=Blk.cell C9.out (j:=0) rfl;have d1':=Blk.cell C9.out (j:=1) rfl;have d2':=Blk.cell C9.out (j:=2) rfl
    have d0:=C9.out.frozen 0;have d1:=C9.out.frozen 1;have d2:=C9.out.frozen 2
    unfold escAct
    go_wp2_with fail
    rw [jump_ret2]
    refine bodyPost_ret (v:=.tuple #[.agg #[.int .i64 0,.int .i32 0,.slice none 0 0,.int .i64 0],.int .i64 0,.agg #[.int .i64 61,.int .i64 p,.int .i64 (Q:Int)]]) ?_ rfl ⟨rfl,?_⟩
    · simp [results,Tryz.results103,go_sem,a0,a1,a2,a3,d0',d1',d2']
    · exact (((((((B9.out.setCell (by simp) _).setCell (by simp) _).setCell (by simp) _).setCell (by simp) _).setCell (by simp) _).setCell (by simp) _).setCell (by simp) _)
theorem escape_pnone1 (s:ByteArray) (p:Nat) (w:World) (hs:s.size≤140737488355328) (hT:Tabs w) (hp:p+2≤s.size) (c0:stands s p [92]=true) (C:Int) (Q:Nat) (hC:nextC s (p+1)=C) (hQ:nextW s (p+1)=Q) (h0:0≤C) (hr:127≤C) (hlet:(C≠97∧C≠102∧C≠110∧C≠114∧C≠116∧C≠118)) (_:C≠120∧C≠112∧C≠80∧C≠65∧C≠122∧C≠98∧C≠66∧C≠81) (hP:perlSpec (min C 127)=none) :
    Calls Tryz.prog 103 #[.string s,.int .i64 p,.bool true] w fun e w'=>
      e = .returned (.tuple #[.agg #[.int .i64 0,.int .i32 0,.slice none 0 0,.int .i64 0],.int .i64 0,.agg #[.int .i64 61,.int .i64 p,.int .i64 (Q:Int)]])∧Below w.heap.size w w':=by
  have HN:=hid (show ∀ W b rest t,Rd W b s (p+1) rest t→Tabs W→Calls Tryz.prog 130 #[.pointer (some ⟨b,0,none⟩)] W fun e w'=>e = .returned (.int .i32 C)∧Rd w' b s Q rest t∧W.grownBy w' (some b) from fun W b rest t hW hT=>by rw [← hQ,← hC];exact scan_next b s (p+1) rest t W hW hT (by omega) (by omega))
  clear hC hQ
  have e0:(C == -1)=false:=by simp;omega
  have f0:32 < C:=by omega
  have f0b:decide (32 < C)=true:=by simp;omega
  have f1:¬ C < 127:=by omega
  have f1b:decide (C < 127)=false:=by simp;omega
  have f2:48≤C:=by omega
  have f2b:decide (48≤C)=true:=by simp;omega
  have f3:¬ C≤57:=by omega
  have f3b:decide (C≤57)=false:=by simp;omega
  have f4:97≤C:=by omega
  have f4b:decide (97≤C)=true:=by simp;omega
  have f5:¬ C≤122:=by omega
  have f5b:decide (C≤122)=false:=by simp;omega
  have f6:65≤C:=by omega
  have f6b:decide (65≤C)=true:=by simp;omega
  have f7:¬ C≤90:=by omega
  have f7b:decide (C≤90)=false:=by simp;omega
  have n120:(C == 120)=false:=by simp;omega
  have n112:(C == 112)=false:=by simp;omega
  have n80:(C == 80)=false:=by simp;omega
  have n65:(C == 65)=false:=by simp;omega
  have n122:(C == 122)=false:=by simp;omega
  have n98:(C == 98)=false:=by simp;omega
  have n66:(C == 66)=false:=by simp;omega
  have n81:(C == 81)=false:=by simp;omega
  have HL:=hid (letters_no C h0 hlet)
  clear hr hlet
  have HP:=hid hP;clear hP
  have hs':s.size≤1000000000000000:=by omega
  obtain ⟨bA,bC,bR,bO⟩:=esc_blocks w s p 150 32 189
  have A0:=hid bA;have C0:=hid bC;have O0:=hid bO
  have R0:=hid (show Rd _ (w.heap.size+1+1) s p [.int .i64 p] 189 from bR)
  have B0:=hid (esc_below w s p)
  have hl:=hT.lt
  have T0:=hid ((((hT.alloc (.cells #[.int .i64 0,.int .i32 0,.slice none 0 0,.int .i64 0] 150)).alloc (.cells #[.int .i64 0,.int .i64 0,.int .i64 0] 32)).alloc (.cells #[.string s,.int .i64 p,.int .i64 p] 189)).alloc (.cells #[.int .i64 0,.int .i32 0,.slice none 0 0,.int .i64 0] 150))
  clear hT
  clear bA bC bR bO
  go_enter Tryz.func103, Tryz.ntmps103
  go_wp2_with fail
  refine wp_scope_jumps 0 (escJ s p ((Q:Int)) w) (fun _ _=>0) rfl ?_ ?_
  · go_wp2_with fail
    refine (scan_has_yes _ _ ⟨#[92]⟩ p _ _ _ R0.out (by omega) hs' c0).mono ?_
    rintro e w1 ⟨rfl,hR,hG⟩
    have A1:=hid (A0.out.grown hG (ne_some (by omega)));have C1:=hid (C0.out.grown hG (ne_some (by omega)));have O1:=hid (O0.out.grown hG (ne_some (by omega)))
    have T1:=hid (T0.out.grown hG (by omega) (by omega))
    have R1:=hid hR;have B1:=hid (below_next B0.out (Nat.le_refl _) hG (fun k e=>by cases e;omega));clear hR hG
    go_wp2_with fail
    refine (HN.out _ _ _ _ R1.out T1.out).mono ?_
    rintro e w2 ⟨rfl,hR,hG⟩
    have A2:=hid (A1.out.grown hG (ne_some (by omega)));have C2:=hid (C1.out.grown hG (ne_some (by omega)));have O2:=hid (O1.out.grown hG (ne_some (by omega)))
    have T2:=hid (T1.out.grown hG (by omega) (by omega))
    have R2:=hid hR;have B2:=hid (below_next B1.out (Nat.le_refl _) hG (fun k e=>by cases e;omega));clear hR hG
    have g1:=Rd.c1 R2.out
    go_wp2_with fail
    refine (Tryz.strings_IndexByte _ _ _).mono ?_
    rintro e w3 ⟨rfl,rfl⟩
    rw [HL.out]
    go_wp2_with fail
    refine (classes_Perl (min C 127) _).mono ?_
    rintro e w4 ⟨v,out,rfl,p1,p2,p3,p4⟩
    rw [HP.out] at p2 ⊢
    obtain ⟨sa,sc,rfl,hr,_⟩:=p1.ranges (by omega)
    have HLD:=hid p1;have HST:=hid p2;have HLN:=hid p3
    have hG:=grownBy_below p4 (some (w.heap.size+1+1));have hR:=Blk.below R2.out p4 R2.out.lt
    have hz2:=hid B2.out.size;have hz1:=hid R2.out.lt;have hz0:=hid O2.out.lt
    clear hr p1 p2 p3 p4
    have A4:=hid (A2.out.grown hG (ne_some (by omega)));have C4:=hid (C2.out.grown hG (ne_some (by omega)));have O4:=hid (O2.out.grown hG (ne_some (by omega)))
    have R4:=hid (show Rd _ _ _ _ _ _ from hR);have B4:=hid (below_next B2.out (Nat.le_refl _) hG (fun k e=>by cases e;omega));clear hR hG
    go_wp2_with fail
    go_step3
    exact ⟨rfl,escJ_intro rfl A4.out C4.out B4.out⟩
  · rintro a wc ⟨u,rfl,hA,hC,hB⟩
    have A9:=hid hA;have C9:=hid hC;have B9:=hid hB
    clear hA hC hB
    have a0:=Blk.cell A9.out (j:=0) rfl;have a1:=Blk.cell A9.out (j:=1) rfl;have a2:=Blk.cell A9.out (j:=2) rfl;have a3:=Blk.cell A9.out (j:=3) rfl
    have b0:=A9.out.frozen 0;have b1:=A9.out.frozen 1;have b2:=A9.out.frozen 2;have b3:=A9.out.frozen 3
    have d0':=Blk.cell C9.out (j:=0) rfl;have d1':=Blk.cell C9.out (j:=1) rfl;have d2':=Blk.cell C9.out (j:=2) rfl
    have d0:=C9.out.frozen 0;have d1:=C9.out.frozen 1;have d2:=C9.out.frozen 2
    unfold escAct
    go_wp2_with fail
    rw [jump_ret2]
    refine bodyPost_ret (v:=.tuple #[.agg #[.int .i64 0,.int .i32 0,.slice none 0 0,.int .i64 0],.int .i64 0,.agg #[.int .i64 61,.int .i64 p,.int .i64 (Q:Int)]]) ?_ rfl ⟨rfl,?_⟩
    · simp [results,Tryz.results103,go_sem,a0,a1,a2,a3,d0',d1',d2']
    · exact (((((((B9.out.setCell (by simp) _).setCell (by simp) _).setCell (by simp) _).setCell (by simp) _).setCell (by simp) _).setCell (by simp) _).setCell (by simp) _)
theorem escape_pnone2 (s:ByteArray) (p:Nat) (w:World) (hs:s.size≤140737488355328) (hT:Tabs w) (hp:p+2≤s.size) (c0:stands s p [92]=true) (C:Int) (Q:Nat) (hC:nextC s (p+1)=C) (hQ:nextW s (p+1)=Q) (h0:0≤C) (hr:48≤C∧C≤57) (hlet:(C≠97∧C≠102∧C≠110∧C≠114∧C≠116∧C≠118)) (_:C≠120∧C≠112∧C≠80∧C≠65∧C≠122∧C≠98∧C≠66∧C≠81) (hP:perlSpec (min C 127)=none) :
    Calls Tryz.prog 103 #[.string s,.int .i64 p,.bool true] w fun e w'=>
      e = .returned (.tuple #[.agg #[.int .i64 0,.int .i32 0,.slice none 0 0,.int .i64 0],.int .i64 0,.agg #[.int .i64 61,.int .i64 p,.int .i64 (Q:Int)]])∧Below w.heap.size w w':=by
  have HN:=hid (show ∀ W b rest t,Rd W b s (p+1) rest t→Tabs W→Calls Tryz.prog 130 #[.pointer (some ⟨b,0,none⟩)] W fun e w'=>e = .returned (.int .i32 C)∧Rd w' b s Q rest t∧W.grownBy w' (some b) from fun W b rest t hW hT=>by rw [← hQ,← hC];exact scan_next b s (p+1) rest t W hW hT (by omega) (by omega))
  clear hC hQ
  have e0:(C == -1)=false:=by simp;omega
  have f0:32 < C:=by omega
  have f0b:decide (32 < C)=true:=by simp;omega
  have f1:C < 127:=by omega
  have f1b:decide (C < 127)=true:=by simp;omega
  have f2:48≤C:=by omega
  have f2b:decide (48≤C)=true:=by simp;omega
  have f3:C≤57:=by omega
  have f3b:decide (C≤57)=true:=by simp;omega
  have f4:¬ 97≤C:=by omega
  have f4b:decide (97≤C)=false:=by simp;omega
  have f5:C≤122:=by omega
  have f5b:decide (C≤122)=true:=by simp;omega
  have f6:¬ 65≤C:=by omega
  have f6b:decide (65≤C)=false:=by simp;omega
  have f7:C≤90:=by omega
  have f7b:decide (C≤90)=true:=by simp;omega
  have n120:(C == 120)=false:=by simp;omega
  have n112:(C == 112)=false:=by simp;omega
  have n80:(C == 80)=false:=by simp;omega
  have n65:(C == 65)=false:=by simp;omega
  have n122:(C == 122)=false:=by simp;omega
  have n98:(C == 98)=false:=by simp;omega
  have n66:(C == 66)=false:=by simp;omega
  have n81:(C == 81)=false:=by simp;omega
  have HL:=hid (letters_no C h0 hlet)
  clear hr hlet
  have HP:=hid hP;clear hP
  have hs':s.size≤1000000000000000:=by omega
  obtain ⟨bA,bC,bR,bO⟩:=esc_blocks w s p 150 32 189
  have A0:=hid bA;have C0:=hid bC;have O0:=hid bO
  have R0:=hid (show Rd _ (w.heap.size+1+1) s p [.int .i64 p] 189 from bR)
  have B0:=hid (esc_below w s p)
  have hl:=hT.lt
  have T0:=hid ((((hT.alloc (.cells #[.int .i64 0,.int .i32 0,.slice none 0 0,.int .i64 0] 150)).alloc (.cells #[.int .i64 0,.int .i64 0,.int .i64 0] 32)).alloc (.cells #[.string s,.int .i64 p,.int .i64 p] 189)).alloc (.cells #[.int .i64 0,.int .i32 0,.slice none 0 0,.int .i64 0] 150))
  clear hT
  clear bA bC bR bO
  go_enter Tryz.func103, Tryz.ntmps103
  go_wp2_with fail
  refine wp_scope_jumps 0 (escJ s p ((Q:Int)) w) (fun _ _=>0) rfl ?_ ?_
  · go_wp2_with fail
    refine (scan_has_yes _ _ ⟨#[92]⟩ p _ _ _ R0.out (by omega) hs' c0).mono ?_
    rintro e w1 ⟨rfl,hR,hG⟩
    have A1:=hid (A0.out.grown hG (ne_some (by omega)));have C1:=hid (C0.out.grown hG (ne_some (by omega)));have O1:=hid (O0.out.grown hG (ne_some (by omega)))
    have T1:=hid (T0.out.grown hG (by omega) (by omega))
    have R1:=hid hR;have B1:=hid (below_next B0.out (Nat.le_refl _) hG (fun k e=>by cases e;omega));clear hR hG
    go_wp2_with fail
    refine (HN.out _ _ _ _ R1.out T1.out).mono ?_
    rintro e w2 ⟨rfl,hR,hG⟩
    have A2:=hid (A1.out.grown hG (ne_some (by omega)));have C2:=hid (C1.out.grown hG (ne_some (by omega)));have O2:=hid (O1.out.grown hG (ne_some (by omega)))
    have T2:=hid (T1.out.grown hG (by omega) (by omega))
    have R2:=hid hR;have B2:=hid (below_next B1.out (Nat.le_refl _) hG (fun k e=>by cases e;omega));clear hR hG
    have g1:=Rd.c1 R2.out
    go_wp2_with fail
    refine (Tryz.strings_IndexByte _ _ _).mono ?_
    rintro e w3 ⟨rfl,rfl⟩
    rw [HL.out]
    go_wp2_with fail
    refine (classes_Perl (min C 127) _).mono ?_
    rintro e w4 ⟨v,out,rfl,p1,p2,p3,p4⟩
    rw [HP.out] at p2 ⊢
    obtain ⟨sa,sc,rfl,hr,_⟩:=p1.ranges (by omega)
    have HLD:=hid p1;have HST:=hid p2;have HLN:=hid p3
    have hG:=grownBy_below p4 (some (w.heap.size+1+1));have hR:=Blk.below R2.out p4 R2.out.lt
    have hz2:=hid B2.out.size;have hz1:=hid R2.out.lt;have hz0:=hid O2.out.lt
    clear hr p1 p2 p3 p4
    have A4:=hid (A2.out.grown hG (ne_some (by omega)));have C4:=hid (C2.out.grown hG (ne_some (by omega)));have O4:=hid (O2.out.grown hG (ne_some (by omega)))
    have R4:=hid (show Rd _ _ _ _ _ _ from hR);have B4:=hid (below_next B2.out (Nat.le_refl _) hG (fun k e=>by cases e;omega));clear hR hG
    go_wp2_with fail
    go_step3
    exact ⟨rfl,escJ_intro rfl A4.out C4.out B4.out⟩
  · rintro a wc ⟨u,rfl,hA,hC,hB⟩
    have A9:=hid hA;have C9:=hid hC;have B9:=hid hB
    clear hA hC hB
    have a0:=Blk.cell A9.out (j:=0) rfl;have a1:=Blk.cell A9.out (j:=1) rfl;have a2:=Blk.cell A9.out (j:=2) rfl;have a3:=Blk.cell A9.out (j:=3) rfl
    have b0:=A9.out.frozen 0;have b1:=A9.out.frozen 1;have b2:=A9.out.frozen 2;have b3:=A9.out.frozen 3
    have d0':=Blk.cell C9.out (j:=0) rfl;have d1':=Blk.cell C9.out (j:=1) rfl;have d2':=Blk.cell C9.out (j:=2) rfl
    have d0:=C9.out.frozen 0;have d1:=C9.out.frozen 1;have d2:=C9.out.frozen 2
    unfold escAct
    go_wp2_with fail
    rw [jump_ret2]
    refine bodyPost_ret (v:=.tuple #[.agg #[.int .i64 0,.int .i32 0,.slice none 0 0,.int .i64 0],.int .i64 0,.agg #[.int .i64 61,.int .i64 p,.int .i64 (Q:Int)]]) ?_ rfl ⟨rfl,?_⟩
    · simp [results,Tryz.results103,go_sem,a0,a1,a2,a3,d0',d1',d2']
    · exact (((((((B9.out.setCell (by simp) _).setCell (by simp) _).setCell (by simp) _).setCell (by simp) _).setCell (by simp) _).setCell (by simp) _).setCell (by simp) _)
theorem escape_pnone3 (s:ByteArray) (p:Nat) (w:World) (hs:s.size≤140737488355328) (hT:Tabs w) (hp:p+2≤s.size) (c0:stands s p [92]=true) (C:Int) (Q:Nat) (hC:nextC s (p+1)=C) (hQ:nextW s (p+1)=Q) (h0:0≤C) (hr:97≤C∧C≤122) (hlet:(C≠97∧C≠102∧C≠110∧C≠114∧C≠116∧C≠118)) (hne:C≠120∧C≠112∧C≠80∧C≠65∧C≠122∧C≠98∧C≠66∧C≠81) (hP:perlSpec (min C 127)=none) :
    Calls Tryz.prog 103 #[.string s,.int .i64 p,.bool true] w fun e w'=>
      e = .returned (.tuple #[.agg #[.int .i64 0,.int .i32 0,.slice none 0 0,.int .i64 0],.int .i64 0,.agg #[.int .i64 61,.int .i64 p,.int .i64 (Q:Int)]])∧Below w.heap.size w w':=by
  have HN:=hid (show ∀ W b rest t,Rd W b s (p+1) rest t→Tabs W→Calls Tryz.prog 130 #[.pointer (some ⟨b,0,none⟩)] W fun e w'=>e = .returned (.int .i32 C)∧Rd w' b s Q rest t∧W.grownBy w' (some b) from fun W b rest t hW hT=>by rw [← hQ,← hC];exact scan_next b s (p+1) rest t W hW hT (by omega) (by omega))
  clear hC hQ
  have e0:(C == -1)=false:=by simp;omega
  have f0:32 < C:=by omega
  have f0b:decide (32 < C)=true:=by simp;omega
  have f1:C < 127:=by omega
  have f1b:decide (C < 127)=true:=by simp;omega
  have f2:48≤C:=by omega
  have f2b:decide (48≤C)=true:=by simp;omega
  have f3:¬ C≤57:=by omega
  have f3b:decide (C≤57)=false:=by simp;omega
  have f4:97≤C:=by omega
  have f4b:decide (97≤C)=true:=by simp;omega
  have f5:C≤122:=by omega
  have f5b:decide (C≤122)=true:=by simp;omega
  have f6:65≤C:=by omega
  have f6b:decide (65≤C)=true:=by simp;omega
  have f7:¬ C≤90:=by omega
  have f7b:decide (C≤90)=false:=by simp;omega
  have n120:(C == 120)=false:=by simp;omega
  have n112:(C == 112)=false:=by simp;omega
  have n80:(C == 80)=false:=by simp;omega
  have n65:(C == 65)=false:=by simp;omega
  have n122:(C == 122)=false:=by simp;omega
  have n98:(C == 98)=false:=by simp;omega
  have n66:(C == 66)=false:=by simp;omega
  have n81:(C == 81)=false:=by simp;omega
  have HL:=hid (letters_no C h0 hlet)
  clear hr hlet hne
  have HP:=hid hP;clear hP
  have hs':s.size≤1000000000000000:=by omega
  obtain ⟨bA,bC,bR,bO⟩:=esc_blocks w s p 150 32 189
  have A0:=hid bA;have C0:=hid bC;have O0:=hid bO
  have R0:=hid (show Rd _ (w.heap.size+1+1) s p [.int .i64 p] 189 from bR)
  have B0:=hid (esc_below w s p)
  have hl:=hT.lt
  have T0:=hid ((((hT.alloc (.cells #[.int .i64 0,.int .i32 0,.slice none 0 0,.int .i64 0] 150)).alloc (.cells #[.int .i64 0,.int .i64 0,.int .i64 0] 32)).alloc (.cells #[.string s,.int .i64 p,.int .i64 p] 189)).alloc (.cells #[.int .i64 0,.int .i32 0,.slice none 0 0,.int .i64 0] 150))
  clear hT
  clear bA bC bR bO
  go_enter Tryz.func103, Tryz.ntmps103
  go_wp2_with fail
  refine wp_scope_jumps 0 (escJ s p ((Q:Int)) w) (fun _ _=>0) rfl ?_ ?_
  · go_wp2_with fail
    refine (scan_has_yes _ _ ⟨#[92]⟩ p _ _ _ R0.out (by omega) hs' c0).mono ?_
    rintro e w1 ⟨rfl,hR,hG⟩
    have A1:=hid (A0.out.grown hG (ne_some (by omega)));have C1:=hid (C0.out.grown hG (ne_some (by omega)));have O1:=hid (O0.out.grown hG (ne_some (by omega)))
    have T1:=hid (T0.out.grown hG (by omega) (by omega))
    have R1:=hid hR;have B1:=hid (below_next B0.out (Nat.le_refl _) hG (fun k e=>by cases e;omega));clear hR hG
    go_wp2_with fail
    refine (HN.out _ _ _ _ R1.out T1.out).mono ?_
    rintro e w2 ⟨rfl,hR,hG⟩
    have A2:=hid (A1.out.grown hG (ne_some (by omega)));have C2:=hid (C1.out.grown hG (ne_some (by omega)));have O2:=hid (O1.out.grown hG (ne_some (by omega)))
    have T2:=hid (T1.out.grown hG (by omega) (by omega))
    have R2:=hid hR;have B2:=hid (below_next B1.out (Nat.le_refl _) hG (fun k e=>by cases e;omega));clear hR hG
    have g1:=Rd.c1 R2.out
    go_wp2_with fail
    refine (Tryz.strings_IndexByte _ _ _).mono ?_
    rintro e w3 ⟨rfl,rfl⟩
    rw [HL.out]
    go_wp2_with fail
    refine (classes_Perl (min C 127) _).mono ?_
    rintro e w4 ⟨v,out,rfl,p1,p2,p3,p4⟩
    rw [HP.out] at p2 ⊢
    obtain ⟨sa,sc,rfl,hr,_⟩:=p1.ranges (by omega)
    have HLD:=hid p1;have HST:=hid p2;have HLN:=hid p3
    have hG:=grownBy_below p4 (some (w.heap.size+1+1));have hR:=Blk.below R2.out p4 R2.out.lt
    have hz2:=hid B2.out.size;have hz1:=hid R2.out.lt;have hz0:=hid O2.out.lt
    clear hr p1 p2 p3 p4
    have A4:=hid (A2.out.grown hG (ne_some (by omega)));have C4:=hid (C2.out.grown hG (ne_some (by omega)));have O4:=hid (O2.out.grown hG (ne_some (by omega)))
    have R4:=hid (show Rd _ _ _ _ _ _ from hR);have B4:=hid (below_next B2.out (Nat.le_refl _) hG (fun k e=>by cases e;omega));clear hR hG
    go_wp2_with fail
    go_step3
    exact ⟨rfl,escJ_intro rfl A4.out C4.out B4.out⟩
  · rintro a wc ⟨u,rfl,hA,hC,hB⟩
    have A9:=hid hA;have C9:=hid hC;have B9:=hid hB
    clear hA hC hB
    have a0:=Blk.cell A9.out (j:=0) rfl;have a1:=Blk.cell A9.out (j:=1) rfl;have a2:=Blk.cell A9.out (j:=2) rfl;have a3:=Blk.cell A9.out (j:=3) rfl
    have b0:=A9.out.frozen 0;have b1:=A9.out.frozen 1;have b2:=A9.out.frozen 2;have b3:=A9.out.frozen 3
    have d0':=Blk.cell C9.out (j:=0) rfl;have d1':=Blk.cell C9.out (j:=1) rfl;have d2':=Blk.cell C9.out (j:=2) rfl
    have d0:=C9.out.frozen 0;have d1:=C9.out.frozen 1;have d2:=C9.out.frozen 2
    unfold escAct
    go_wp2_with fail
    rw [jump_ret2]
    refine bodyPost_ret (v:=.tuple #[.agg #[.int .i64 0,.int .i32 0,.slice none 0 0,.int .i64 0],.int .i64 0,.agg #[.int .i64 61,.int .i64 p,.int .i64 (Q:Int)]]) ?_ rfl ⟨rfl,?_⟩
    · simp [results,Tryz.results103,go_sem,a0,a1,a2,a3,d0',d1',d2']
    · exact (((((((B9.out.setCell (by simp) _).setCell (by simp) _).setCell (by simp) _).setCell (by simp) _).setCell (by simp) _).setCell (by simp) _).setCell (by simp) _)
theorem escape_pnone4 (s:ByteArray) (p:Nat) (w:World) (hs:s.size≤140737488355328) (hT:Tabs w) (hp:p+2≤s.size) (c0:stands s p [92]=true) (C:Int) (Q:Nat) (hC:nextC s (p+1)=C) (hQ:nextW s (p+1)=Q) (h0:0≤C) (hr:65≤C∧C≤90) (hlet:(C≠97∧C≠102∧C≠110∧C≠114∧C≠116∧C≠118)) (hne:C≠120∧C≠112∧C≠80∧C≠65∧C≠122∧C≠98∧C≠66∧C≠81) (hP:perlSpec (min C 127)=none) :
    Calls Tryz.prog 103 #[.string s,.int .i64 p,.bool true] w fun e w'=>
      e = .returned (.tuple #[.agg #[.int .i64 0,.int .i32 0,.slice none 0 0,.int .i64 0],.int .i64 0,.agg #[.int .i64 61,.int .i64 p,.int .i64 (Q:Int)]])∧Below w.heap.size w w':=by
  have HN:=hid (show ∀ W b rest t,Rd W b s (p+1) rest t→Tabs W→Calls Tryz.prog 130 #[.pointer (some ⟨b,0,none⟩)] W fun e w'=>e = .returned (.int .i32 C)∧Rd w' b s Q rest t∧W.grownBy w' (some b) from fun W b rest t hW hT=>by rw [← hQ,← hC];exact scan_next b s (p+1) rest t W hW hT (by omega) (by omega))
  clear hC hQ
  have e0:(C == -1)=false:=by simp;omega
  have f0:32 < C:=by omega
  have f0b:decide (32 < C)=true:=by simp;omega
  have f1:C < 127:=by omega
  have f1b:decide (C < 127)=true:=by simp;omega
  have f2:48≤C:=by omega
  have f2b:decide (48≤C)=true:=by simp;omega
  have f3:¬ C≤57:=by omega
  have f3b:decide (C≤57)=false:=by simp;omega
  have f4:¬ 97≤C:=by omega
  have f4b:decide (97≤C)=false:=by simp;omega
  have f5:C≤122:=by omega
  have f5b:decide (C≤122)=true:=by simp;omega
  have f6:65≤C:=by omega
  have f6b:decide (65≤C)=true:=by simp;omega
  have f7:C≤90:=by omega
  have f7b:decide (C≤90)=true:=by simp;omega
  have n120:(C == 120)=false:=by simp;omega
  have n112:(C == 112)=false:=by simp;omega
  have n80:(C == 80)=false:=by simp;omega
  have n65:(C == 65)=false:=by simp;omega
  have n122:(C == 122)=false:=by simp;omega
  have n98:(C == 98)=false:=by simp;omega
  have n66:(C == 66)=false:=by simp;omega
  have n81:(C == 81)=false:=by simp;omega
  have HL:=hid (letters_no C h0 hlet)
  clear hr hlet hne
  have HP:=hid hP;clear hP
  have hs':s.size≤1000000000000000:=by omega
  obtain ⟨bA,bC,bR,bO⟩:=esc_blocks w s p 150 32 189
  have A0:=hid bA;have C0:=hid bC;have O0:=hid bO
  have R0:=hid (show Rd _ (w.heap.size+1+1) s p [.int .i64 p] 189 from bR)
  have B0:=hid (esc_below w s p)
  have hl:=hT.lt
  have T0:=hid ((((hT.alloc (.cells #[.int .i64 0,.int .i32 0,.slice none 0 0,.int .i64 0] 150)).alloc (.cells #[.int .i64 0,.int .i64 0,.int .i64 0] 32)).alloc (.cells #[.string s,.int .i64 p,.int .i64 p] 189)).alloc (.cells #[.int .i64 0,.int .i32 0,.slice none 0 0,.int .i64 0] 150))
  clear hT
  clear bA bC bR bO
  go_enter Tryz.func103, Tryz.ntmps103
  go_wp2_with fail
  refine wp_scope_jumps 0 (escJ s p ((Q:Int)) w) (fun _ _=>0) rfl ?_ ?_
  · go_wp2_with fail
    refine (scan_has_yes _ _ ⟨#[92]⟩ p _ _ _ R0.out (by omega) hs' c0).mono ?_
    rintro e w1 ⟨rfl,hR,hG⟩
    have A1:=hid (A0.out.grown hG (ne_some (by omega)));have C1:=hid (C0.out.grown hG (ne_some (by omega)));have O1:=hid (O0.out.grown hG (ne_some (by omega)))
    have T1:=hid (T0.out.grown hG (by omega) (by omega))
    have R1:=hid hR;have B1:=hid (below_next B0.out (Nat.le_refl _) hG (fun k e=>by cases e;omega));clear hR hG
    go_wp2_with fail
    refine (HN.out _ _ _ _ R1.out T1.out).mono ?_
    rintro e w2 ⟨rfl,hR,hG⟩
    have A2:=hid (A1.out.grown hG (ne_some (by omega)));have C2:=hid (C1.out.grown hG (ne_some (by omega)));have O2:=hid (O1.out.grown hG (ne_some (by omega)))
    have T2:=hid (T1.out.grown hG (by omega) (by omega))
    have R2:=hid hR;have B2:=hid (below_next B1.out (Nat.le_refl _) hG (fun k e=>by cases e;omega));clear hR hG
    have g1:=Rd.c1 R2.out
    go_wp2_with fail
    refine (Tryz.strings_IndexByte _ _ _).mono ?_
    rintro e w3 ⟨rfl,rfl⟩
    rw [HL.out]
    go_wp2_with fail
    refine (classes_Perl (min C 127) _).mono ?_
    rintro e w4 ⟨v,out,rfl,p1,p2,p3,p4⟩
    rw [HP.out] at p2 ⊢
    obtain ⟨sa,sc,rfl,hr,_⟩:=p1.ranges (by omega)
    have HLD:=hid p1;have HST:=hid p2;have HLN:=hid p3
    have hG:=grownBy_below p4 (some (w.heap.size+1+1));have hR:=Blk.below R2.out p4 R2.out.lt
    have hz2:=hid B2.out.size;have hz1:=hid R2.out.lt;have hz0:=hid O2.out.lt
    clear hr p1 p2 p3 p4
    have A4:=hid (A2.out.grown hG (ne_some (by omega)));have C4:=hid (C2.out.grown hG (ne_some (by omega)));have O4:=hid (O2.out.grown hG (ne_some (by omega)))
    have R4:=hid (show Rd _ _ _ _ _ _ from hR);have B4:=hid (below_next B2.out (Nat.le_refl _) hG (fun k e=>by cases e;omega));clear hR hG
    go_wp2_with fail
    go_step3
    exact ⟨rfl,escJ_intro rfl A4.out C4.out B4.out⟩
  · rintro a wc ⟨u,rfl,hA,hC,hB⟩
    have A9:=hid hA;have C9:=hid hC;have B9:=hid hB
    clear hA hC hB
    have a0:=Blk.cell A9.out (j:=0) rfl;have a1:=Blk.cell A9.out (j:=1) rfl;have a2:=Blk.cell A9.out (j:=2) rfl;have a3:=Blk.cell A9.out (j:=3) rfl
    have b0:=A9.out.frozen 0;have b1:=A9.out.frozen 1;have b2:=A9.out.frozen 2;have b3:=A9.out.frozen 3
    have d0':=Blk.cell C9.out (j:=0) rfl;have d1':=Blk.cell C9.out (j:=1) rfl;have d2':=Blk.cell C9.out (j:=2) rfl
    have d0:=C9.out.frozen 0;have d1:=C9.out.frozen 1;have d2:=C9.out.frozen 2
    unfold escAct
    go_wp2_with fail
    rw [jump_ret2]
    refine bodyPost_ret (v:=.tuple #[.agg #[.int .i64 0,.int .i32 0,.slice none 0 0,.int .i64 0],.int .i64 0,.agg #[.int .i64 61,.int .i64 p,.int .i64 (Q:Int)]]) ?_ rfl ⟨rfl,?_⟩
    · simp [results,Tryz.results103,go_sem,a0,a1,a2,a3,d0',d1',d2']
    · exact (((((((B9.out.setCell (by simp) _).setCell (by simp) _).setCell (by simp) _).setCell (by simp) _).setCell (by simp) _).setCell (by simp) _).setCell (by simp) _)
theorem escape_pset3 (s:ByteArray) (p:Nat) (w:World) (hs:s.size≤140737488355328) (hT:Tabs w) (hp:p+2≤s.size) (c0:stands s p [92]=true) (C:Int) (Q:Nat) (hC:nextC s (p+1)=C) (hQ:nextW s (p+1)=Q) (h0:0≤C) (hr:97≤C∧C≤122) (hlet:(C≠97∧C≠102∧C≠110∧C≠114∧C≠116∧C≠118)) (hne:C≠120∧C≠112∧C≠80∧C≠65∧C≠122∧C≠98∧C≠66∧C≠81) (f:Int→Bool) (hP:perlSpec (min C 127)=some f) :
    Calls Tryz.prog 103 #[.string s,.int .i64 p,.bool true] w (EscSet w f Q):=by
  have HN:=hid (show ∀ W b rest t,Rd W b s (p+1) rest t→Tabs W→Calls Tryz.prog 130 #[.pointer (some ⟨b,0,none⟩)] W fun e w'=>e = .returned (.int .i32 C)∧Rd w' b s Q rest t∧W.grownBy w' (some b) from fun W b rest t hW hT=>by rw [← hQ,← hC];exact scan_next b s (p+1) rest t W hW hT (by omega) (by omega))
  clear hC hQ
  have e0:(C == -1)=false:=by simp;omega
  have f0:32 < C:=by omega
  have f0b:decide (32 < C)=true:=by simp;omega
  have f1:C < 127:=by omega
  have f1b:decide (C < 127)=true:=by simp;omega
  have f2:48≤C:=by omega
  have f2b:decide (48≤C)=true:=by simp;omega
  have f3:¬ C≤57:=by omega
  have f3b:decide (C≤57)=false:=by simp;omega
  have f4:97≤C:=by omega
  have f4b:decide (97≤C)=true:=by simp;omega
  have f5:C≤122:=by omega
  have f5b:decide (C≤122)=true:=by simp;omega
  have f6:65≤C:=by omega
  have f6b:decide (65≤C)=true:=by simp;omega
  have f7:¬ C≤90:=by omega
  have f7b:decide (C≤90)=false:=by simp;omega
  have n120:(C == 120)=false:=by simp;omega
  have n112:(C == 112)=false:=by simp;omega
  have n80:(C == 80)=false:=by simp;omega
  have n65:(C == 65)=false:=by simp;omega
  have n122:(C == 122)=false:=by simp;omega
  have n98:(C == 98)=false:=by simp;omega
  have n66:(C == 66)=false:=by simp;omega
  have n81:(C == 81)=false:=by simp;omega
  have HL:=hid (letters_no C h0 hlet)
  clear hr hlet hne
  have HP:=hid hP;clear hP
  have hs':s.size≤1000000000000000:=by omega
  obtain ⟨bA,bC,bR,bO⟩:=esc_blocks w s p 150 32 189
  have A0:=hid bA;have C0:=hid bC;have O0:=hid bO
  have R0:=hid (show Rd _ (w.heap.size+1+1) s p [.int .i64 p] 189 from bR)
  have B0:=hid (esc_below w s p)
  have hl:=hT.lt
  have T0:=hid ((((hT.alloc (.cells #[.int .i64 0,.int .i32 0,.slice none 0 0,.int .i64 0] 150)).alloc (.cells #[.int .i64 0,.int .i64 0,.int .i64 0] 32)).alloc (.cells #[.string s,.int .i64 p,.int .i64 p] 189)).alloc (.cells #[.int .i64 0,.int .i32 0,.slice none 0 0,.int .i64 0] 150))
  clear hT
  clear bA bC bR bO
  go_enter Tryz.func103, Tryz.ntmps103
  go_wp2_with fail
  go_step3
  go_wp2_with fail
  refine (scan_has_yes _ _ ⟨#[92]⟩ p _ _ _ R0.out (by omega) hs' c0).mono ?_
  rintro e w1 ⟨rfl,hR,hG⟩
  have A1:=hid (A0.out.grown hG (ne_some (by omega)));have C1:=hid (C0.out.grown hG (ne_some (by omega)));have O1:=hid (O0.out.grown hG (ne_some (by omega)))
  have T1:=hid (T0.out.grown hG (by omega) (by omega))
  have R1:=hid hR;have B1:=hid (below_next B0.out (Nat.le_refl _) hG (fun k e=>by cases e;omega));clear hR hG
  go_wp2_with fail
  refine (HN.out _ _ _ _ R1.out T1.out).mono ?_
  rintro e w2 ⟨rfl,hR,hG⟩
  have A2:=hid (A1.out.grown hG (ne_some (by omega)));have C2:=hid (C1.out.grown hG (ne_some (by omega)));have O2:=hid (O1.out.grown hG (ne_some (by omega)))
  have T2:=hid (T1.out.grown hG (by omega) (by omega))
  have R2:=hid hR;have B2:=hid (below_next B1.out (Nat.le_refl _) hG (fun k e=>by cases e;omega));clear hR hG
  have g1:=Rd.c1 R2.out
  go_wp2_with fail
  refine (Tryz.strings_IndexByte _ _ _).mono ?_
  rintro e w3 ⟨rfl,rfl⟩
  rw [HL.out]
  go_wp2_with fail
  refine (classes_Perl (min C 127) _).mono ?_
  rintro e w4 ⟨v,out,rfl,p1,p2,p3,p4⟩
  rw [HP.out] at p2 ⊢
  obtain ⟨sa,sc,rfl,hr,_⟩:=p1.ranges (by omega)
  have HLD:=hid p1;have HST:=hid p2;have HLN:=hid p3
  have hG:=grownBy_below p4 (some (w.heap.size+1+1));have hR:=Blk.below R2.out p4 R2.out.lt
  have hz2:=hid B2.out.size;have hz1:=hid R2.out.lt;have hz0:=hid O2.out.lt
  clear hr p1 p2 p3 p4
  have A4:=hid (A2.out.grown hG (ne_some (by omega)));have C4:=hid (C2.out.grown hG (ne_some (by omega)));have O4:=hid (O2.out.grown hG (ne_some (by omega)))
  have R4:=hid (show Rd _ _ _ _ _ _ from hR);have B4:=hid (below_next B2.out (Nat.le_refl _) hG (fun k e=>by cases e;omega));clear hR hG
  have o0:=Blk.cell O4.out (j:=0) rfl;have o1:=Blk.cell O4.out (j:=1) rfl;have o2:=Blk.cell O4.out (j:=2) rfl;have o3:=Blk.cell O4.out (j:=3) rfl
  have p0:=O4.out.frozen 0;have p1:=O4.out.frozen 1;have p2:=O4.out.frozen 2;have p3:=O4.out.frozen 3
  go_wp2_with fail
  obtain ⟨W5,hW5⟩:∃ W5,W5=World.set4 w4 (w.heap.size+1+1+1) (.int .i64 2) (.int .i32 0) (.slice sa out.length sc) (.int .i64 0):=⟨_,rfl⟩
  have O5:=O4.out.set4 (.int .i64 2) (.int .i32 0) (.slice sa out.length sc) (.int .i64 0)
  have A5:=A4.out.set4_other (b:=w.heap.size+1+1+1) (by omega) (.int .i64 2) (.int .i32 0) (.slice sa out.length sc) (.int .i64 0)
  have C5:=C4.out.set4_other (b:=w.heap.size+1+1+1) (by omega) (.int .i64 2) (.int .i32 0) (.slice sa out.length sc) (.int .i64 0)
  have R5:=Blk.set4_other (b:=w.heap.size+1+1+1) R4.out (by omega) (.int .i64 2) (.int .i32 0) (.slice sa out.length sc) (.int .i64 0)
  have G5:=grownBy_set4 w4 (w.heap.size+1+1+1) (.int .i64 2) (.int .i32 0) (.slice sa out.length sc) (.int .i64 0)
  change Code.wp _ _ _ _ (World.set4 w4 (w.heap.size+1+1+1) (.int .i64 2) (.int .i32 0) (.slice sa out.length sc) (.int .i64 0))
  rw [← hW5] at O5 A5 C5 R5 G5 ⊢
  clear hW5 o0 o1 o2 o3 p0 p1 p2 p3
  clear g1
  have o0:=Blk.cell O5 (j:=0) rfl;have o1:=Blk.cell O5 (j:=1) rfl;have o2:=Blk.cell O5 (j:=2) rfl;have o3:=Blk.cell O5 (j:=3) rfl
  have r1:=Blk.cell R5 (j:=1) rfl
  have a0:=Blk.cell A5 (j:=0) rfl;have a1:=Blk.cell A5 (j:=1) rfl;have a2:=Blk.cell A5 (j:=2) rfl;have a3:=Blk.cell A5 (j:=3) rfl
  have b0:=A5.frozen 0;have b1:=A5.frozen 1;have b2:=A5.frozen 2;have b3:=A5.frozen 3
  have d0':=Blk.cell C5 (j:=0) rfl;have d1':=Blk.cell C5 (j:=1) rfl;have d2':=Blk.cell C5 (j:=2) rfl
  have d0:=C5.frozen 0;have d1:=C5.frozen 1;have d2:=C5.frozen 2
  have HO5:=hid O5;have HA5:=hid A5;have HC5:=hid C5;have HR5:=hid R5;have HG5:=hid G5
  have B5:=hid (below_next B4.out (Nat.le_refl _) G5 (fun k e=>by cases e;omega))
  clear O5 A5 C5 R5 G5
  go_region
  go_wp2_with fail
  rw [Exit.noGoto_ret]
  have HL5:=hid (show World.ownsRow W5 w3.heap.size _ 2 _ _ _ from HLD.out.kept HG5.out (own_ne HLD.out (by have:=hz0.out;omega)))
  refine bodyPost_ret (v:=.tuple #[.agg #[.int .i64 2,.int .i32 0,.slice sa out.length sc,.int .i64 0],.int .i64 Q,.agg #[.int .i64 0,.int .i64 0,.int .i64 0]]) ?_ rfl ⟨_,out,rfl,?_,HST.out,HLN.out,?_⟩
  · simp [results,Tryz.results103,go_sem,a0,a1,a2,a3,d0',d1',d2']
  · have l1:=hz0.out
    refine Joins.ownsRow_le ?_ hz2.out
    refine ownsRow_drew ?_
    exact (ownsRow_setCell (ownsRow_setCell (ownsRow_setCell (ownsRow_setCell (ownsRow_setCell (ownsRow_setCell (ownsRow_setCell HL5.out (by omega) _ _) (by omega) _ _) (by omega) _ _) (by omega) _ _) (by omega) _ _) (by omega) _ _) (by omega) _ _)
  · exact (((((((B5.out.setCell (by simp) _).setCell (by simp) _).setCell (by simp) _).setCell (by simp) _).setCell (by simp) _).setCell (by simp) _).setCell (by simp) _).drew
theorem escape_pset4 (s:ByteArray) (p:Nat) (w:World) (hs:s.size≤140737488355328) (hT:Tabs w) (hp:p+2≤s.size) (c0:stands s p [92]=true) (C:Int) (Q:Nat) (hC:nextC s (p+1)=C) (hQ:nextW s (p+1)=Q) (h0:0≤C) (hr:65≤C∧C≤90) (hlet:(C≠97∧C≠102∧C≠110∧C≠114∧C≠116∧C≠118)) (hne:C≠120∧C≠112∧C≠80∧C≠65∧C≠122∧C≠98∧C≠66∧C≠81) (f:Int→Bool) (hP:perlSpec (min C 127)=some f) :
    Calls Tryz.prog 103 #[.string s,.int .i64 p,.bool true] w (EscSet w f Q):=by
  have HN:=hid (show ∀ W b rest t,Rd W b s (p+1) rest t→Tabs W→Calls Tryz.prog 130 #[.pointer (some ⟨b,0,none⟩)] W fun e w'=>e = .returned (.int .i32 C)∧Rd w' b s Q rest t∧W.grownBy w' (some b) from fun W b rest t hW hT=>by rw [← hQ,← hC];exact scan_next b s (p+1) rest t W hW hT (by omega) (by omega))
  clear hC hQ
  have e0:(C == -1)=false:=by simp;omega
  have f0:32 < C:=by omega
  have f0b:decide (32 < C)=true:=by simp;omega
  have f1:C < 127:=by omega
  have f1b:decide (C < 127)=true:=by simp;omega
  have f2:48≤C:=by omega
  have f2b:decide (48≤C)=true:=by simp;omega
  have f3:¬ C≤57:=by omega
  have f3b:decide (C≤57)=false:=by simp;omega
  have f4:¬ 97≤C:=by omega
  have f4b:decide (97≤C)=false:=by simp;omega
  have f5:C≤122:=by omega
  have f5b:decide (C≤122)=true:=by simp;omega
  have f6:65≤C:=by omega
  have f6b:decide (65≤C)=true:=by simp;omega
  have f7:C≤90:=by omega
  have f7b:decide (C≤90)=true:=by simp;omega
  have n120:(C == 120)=false:=by simp;omega
  have n112:(C == 112)=false:=by simp;omega
  have n80:(C == 80)=false:=by simp;omega
  have n65:(C == 65)=false:=by simp;omega
  have n122:(C == 122)=false:=by simp;omega
  have n98:(C == 98)=false:=by simp;omega
  have n66:(C == 66)=false:=by simp;omega
  have n81:(C == 81)=false:=by simp;omega
  have HL:=hid (letters_no C h0 hlet)
  clear hr hlet hne
  have HP:=hid hP;clear hP
  have hs':s.size≤1000000000000000:=by omega
  obtain ⟨bA,bC,bR,bO⟩:=esc_blocks w s p 150 32 189
  have A0:=hid bA;have C0:=hid bC;have O0:=hid bO
  have R0:=hid (show Rd _ (w.heap.size+1+1) s p [.int .i64 p] 189 from bR)
  have B0:=hid (esc_below w s p)
  have hl:=hT.lt
  have T0:=hid ((((hT.alloc (.cells #[.int .i64 0,.int .i32 0,.slice none 0 0,.int .i64 0] 150)).alloc (.cells #[.int .i64 0,.int .i64 0,.int .i64 0] 32)).alloc (.cells #[.string s,.int .i64 p,.int .i64 p] 189)).alloc (.cells #[.int .i64 0,.int .i32 0,.slice none 0 0,.int .i64 0] 150))
  clear hT
  clear bA bC bR bO
  go_enter Tryz.func103, Tryz.ntmps103
  go_wp2_with fail
  go_step3
  go_wp2_with fail
  refine (scan_has_yes _ _ ⟨#[92]⟩ p _ _ _ R0.out (by omega) hs' c0).mono ?_
  rintro e w1 ⟨rfl,hR,hG⟩
  have A1:=hid (A0.out.grown hG (ne_some (by omega)));have C1:=hid (C0.out.grown hG (ne_some (by omega)));have O1:=hid (O0.out.grown hG (ne_some (by omega)))
  have T1:=hid (T0.out.grown hG (by omega) (by omega))
  have R1:=hid hR;have B1:=hid (below_next B0.out (Nat.le_refl _) hG (fun k e=>by cases e;omega));clear hR hG
  go_wp2_with fail
  refine (HN.out _ _ _ _ R1.out T1.out).mono ?_
  rintro e w2 ⟨rfl,hR,hG⟩
  have A2:=hid (A1.out.grown hG (ne_some (by omega)));have C2:=hid (C1.out.grown hG (ne_some (by omega)));have O2:=hid (O1.out.grown hG (ne_some (by omega)))
  have T2:=hid (T1.out.grown hG (by omega) (by omega))
  have R2:=hid hR;have B2:=hid (below_next B1.out (Nat.le_refl _) hG (fun k e=>by cases e;omega));clear hR hG
  have g1:=Rd.c1 R2.out
  go_wp2_with fail
  refine (Tryz.strings_IndexByte _ _ _).mono ?_
  rintro e w3 ⟨rfl,rfl⟩
  rw [HL.out]
  go_wp2_with fail
  refine (classes_Perl (min C 127) _).mono ?_
  rintro e w4 ⟨v,out,rfl,p1,p2,p3,p4⟩
  rw [HP.out] at p2 ⊢
  obtain ⟨sa,sc,rfl,hr,_⟩:=p1.ranges (by omega)
  have HLD:=hid p1;have HST:=hid p2;have HLN:=hid p3
  have hG:=grownBy_below p4 (some (w.heap.size+1+1));have hR:=Blk.below R2.out p4 R2.out.lt
  have hz2:=hid B2.out.size;have hz1:=hid R2.out.lt;have hz0:=hid O2.out.lt
  clear hr p1 p2 p3 p4
  have A4:=hid (A2.out.grown hG (ne_some (by omega)));have C4:=hid (C2.out.grown hG (ne_some (by omega)));have O4:=hid (O2.out.grown hG (ne_some (by omega)))
  have R4:=hid (show Rd _ _ _ _ _ _ from hR);have B4:=hid (below_next B2.out (Nat.le_refl _) hG (fun k e=>by cases e;omega));clear hR hG
  have o0:=Blk.cell O4.out (j:=0) rfl;have o1:=Blk.cell O4.out (j:=1) rfl;have o2:=Blk.cell O4.out (j:=2) rfl;have o3:=Blk.cell O4.out (j:=3) rfl
  have p0:=O4.out.frozen 0;have p1:=O4.out.frozen 1;have p2:=O4.out.frozen 2;have p3:=O4.out.frozen 3
  go_wp2_with fail
  obtain ⟨W5,hW5⟩:∃ W5,W5=World.set4 w4 (w.heap.size+1+1+1) (.int .i64 2) (.int .i32 0) (.slice sa out.length sc) (.int .i64 0):=⟨_,rfl⟩
  have O5:=O4.out.set4 (.int .i64 2) (.int .i32 0) (.slice sa out.length sc) (.int .i64 0)
  have A5:=A4.out.set4_other (b:=w.heap.size+1+1+1) (by omega) (.int .i64 2) (.int .i32 0) (.slice sa out.length sc) (.int .i64 0)
  have C5:=C4.out.set4_other (b:=w.heap.size+1+1+1) (by omega) (.int .i64 2) (.int .i32 0) (.slice sa out.length sc) (.int .i64 0)
  have R5:=Blk.set4_other (b:=w.heap.size+1+1+1) R4.out (by omega) (.int .i64 2) (.int .i32 0) (.slice sa out.length sc) (.int .i64 0)
  have G5:=grownBy_set4 w4 (w.heap.size+1+1+1) (.int .i64 2) (.int .i32 0) (.slice sa out.length sc) (.int .i64 0)
  change Code.wp _ _ _ _ (World.set4 w4 (w.heap.size+1+1+1) (.int .i64 2) (.int .i32 0) (.slice sa out.length sc) (.int .i64 0))
  rw [← hW5] at O5 A5 C5 R5 G5 ⊢
  clear hW5 o0 o1 o2 o3 p0 p1 p2 p3
  clear g1
  have o0:=Blk.cell O5 (j:=0) rfl;have o1:=Blk.cell O5 (j:=1) rfl;have o2:=Blk.cell O5 (j:=2) rfl;have o3:=Blk.cell O5 (j:=3) rfl
  have r1:=Blk.cell R5 (j:=1) rfl
  have a0:=Blk.cell A5 (j:=0) rfl;have a1:=Blk.cell A5 (j:=1) rfl;have a2:=Blk.cell A5 (j:=2) rfl;have a3:=Blk.cell A5 (j:=3) rfl
  have b0:=A5.frozen 0;have b1:=A5.frozen 1;have b2:=A5.frozen 2;have b3:=A5.frozen 3
  have d0':=Blk.cell C5 (j:=0) rfl;have d1':=Blk.cell C5 (j:=1) rfl;have d2':=Blk.cell C5 (j:=2) rfl
  have d0:=C5.frozen 0;have d1:=C5.frozen 1;have d2:=C5.frozen 2
  have HO5:=hid O5;have HA5:=hid A5;have HC5:=hid C5;have HR5:=hid R5;have HG5:=hid G5
  have B5:=hid (below_next B4.out (Nat.le_refl _) G5 (fun k e=>by cases e;omega))
  clear O5 A5 C5 R5 G5
  go_region
  go_wp2_with fail
  rw [Exit.noGoto_ret]
  have HL5:=hid (show World.ownsRow W5 w3.heap.size _ 2 _ _ _ from HLD.out.kept HG5.out (own_ne HLD.out (by have:=hz0.out;omega)))
  refine bodyPost_ret (v:=.tuple #[.agg #[.int .i64 2,.int .i32 0,.slice sa out.length sc,.int .i64 0],.int .i64 Q,.agg #[.int .i64 0,.int .i64 0,.int .i64 0]]) ?_ rfl ⟨_,out,rfl,?_,HST.out,HLN.out,?_⟩
  · simp [results,Tryz.results103,go_sem,a0,a1,a2,a3,d0',d1',d2']
  · have l1:=hz0.out
    refine Joins.ownsRow_le ?_ hz2.out
    refine ownsRow_drew ?_
    exact (ownsRow_setCell (ownsRow_setCell (ownsRow_setCell (ownsRow_setCell (ownsRow_setCell (ownsRow_setCell (ownsRow_setCell HL5.out (by omega) _ _) (by omega) _ _) (by omega) _ _) (by omega) _ _) (by omega) _ _) (by omega) _ _) (by omega) _ _)
  · exact (((((((B5.out.setCell (by simp) _).setCell (by simp) _).setCell (by simp) _).setCell (by simp) _).setCell (by simp) _).setCell (by simp) _).setCell (by simp) _).drew
end Go.Proofs.YtnhnldmldnhaoaaGreatDoor
