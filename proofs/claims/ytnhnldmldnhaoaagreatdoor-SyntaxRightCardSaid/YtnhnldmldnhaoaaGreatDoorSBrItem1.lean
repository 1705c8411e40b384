/- The reader of layer 7: an item at the end of the text. -/
import Derived.Test.YtnhnldmldnhaoaaGreatDoorSBrText
set_option maxRecDepth 100000
set_option maxHeartbeats 16000000
open Go.Lib (hid)
namespace Go.Proofs.YtnhnldmldnhaoaaGreatDoor
open Go Go.RowKit Go.Proofs Go.Shelf
theorem item_end (b:Nat) (s:ByteArray) (p:Nat) (fr:Int) (perl:Bool) (w:World) (h:BrR w b s p fr perl) (hp:p=s.size) (hn:namedP s p=none) :
    Calls Tryz.prog 108 #[.pointer (some ⟨b,0,none⟩)] w fun e w'=>e=wrongE 71 fr s.size∧w.grownBy w' (some b):=by
  have HR:=hid h
  have c1:=Rd.c1 h
  clear h
  go_enter Tryz.func108, Tryz.ntmps108
  go_wp2_with fail
  refine (named_no b s p fr perl _ HR.out (by omega) hn).mono ?_
  rintro e w1 ⟨rfl,hR,hG⟩
  have R1:=hid hR;have G1:=hid hG;clear hR hG c1
  go_wp2_with fail
  refine (one_end b s p fr perl _ R1.out hp).mono ?_
  rintro e w2 ⟨rfl,hG⟩
  exact ⟨rfl,rfl,grownBy_trans G1.out hG⟩
end Go.Proofs.YtnhnldmldnhaoaaGreatDoor
namespace Go.Proofs.YtnhnldmldnhaoaaGreatDoor
open Go Go.RowKit Go.Proofs Go.Shelf
theorem item_last (b:Nat) (s:ByteArray) (p:Nat) (fr:Int) (perl:Bool) (w:World) (h:BrR w b s p fr perl) (hp:p < s.size) (hn:namedP s p=none) (r a:Int) (q:Nat)
    (HO:∀ W,BrR W b s p fr perl→w.grownBy W (some b)→Calls Tryz.prog 140 #[.pointer (some ⟨b,0,none⟩)] W (OneOut W b s fr perl (.lit 1 r a q))) (hq:q≤s.size) (hl:s.size≤q+1) :
    Calls Tryz.prog 108 #[.pointer (some ⟨b,0,none⟩)] w (ItemOut w b s fr perl (.ok (fun c=>decide (r≤c) && decide (c≤r)) q)):=by
  have HR:=hid h
  have HO':=hid HO;clear HO
  have hbt:=hid h.lt
  have c1:=Rd.c1 h
  have hz:(tail s q).size≤1:=by rw [tail_size];omega
  have hz':¬ (1:Int) < ((tail s q).size:Int):=by omega
  clear h
  go_enter Tryz.func108, Tryz.ntmps108
  go_wp2_with fail
  refine (named_no b s p fr perl _ HR.out (by omega) hn).mono ?_
  rintro e w1 ⟨rfl,hR,hG⟩
  have R1:=hid hR;have G1:=hid hG;clear hR hG c1
  go_wp2_with fail
  refine (HO'.out _ R1.out G1.out).mono ?_
  rintro e w2 ⟨hG,rfl,hR⟩
  have R2:=hid (show BrR w2 b s q fr perl from hR);have G2:=hid (grownBy_trans G1.out hG);clear hR hG
  unfold escV
  go_wp2_with fail
  refine (br_rest b s q _ _ _ ((R2.out.alloc _).alloc _) hq).mono ?_
  rintro e w3 ⟨rfl,hR,hB⟩
  have K0:=hid (Blk.below ((Blk.new w2 [.int .i64 1,.int .i32 r,.slice none 0 0,.int .i64 a] 150).alloc _) hB (by simp;omega))
  have K1:=hid (Blk.below (Blk.new (w2.alloc (.cells #[.int .i64 1,.int .i32 r,.slice none 0 0,.int .i64 a] 150)) [.int .i64 1,.int .i32 r,.slice none 0 0,.int .i64 a] 150) hB (by simp))
  have R3:=hid hR;have B3:=hid hB;clear hR hB
  have k0:=Blk.cell K0.out (j:=0) rfl;have k1:=Blk.cell K0.out (j:=1) rfl
  have m0:w3.cell? ⟨w2.heap.size+1,0,none⟩=some (.int .i64 1):=by have:=Blk.cell K1.out (j:=0) rfl;simpa using this
  have m1:w3.cell? ⟨w2.heap.size+1,1,none⟩=some (.int .i32 r):=by have:=Blk.cell K1.out (j:=1) rfl;simpa using this
  go_wp2_with fail
  refine bodyPost_ret (v:=.slice (some ⟨w3.heap.size,0,none⟩) 1 1) ?_ rfl ⟨?_,?_⟩
  · simp [results,Tryz.results108]
  · exact grownBy_trans G2.out (grownBy_trans (grownBy_trans (grownBy_trans (grownBy_alloc _ _ _) (grownBy_alloc _ _ _)) (grownBy_below B3.out _)) (grownBy_alloc _ _ _))
  · refine ⟨_,[(r,r)],rfl,?_,fun c _ _=>by simp [memR],by simp,Blk.alloc R3.out _⟩
    have h1:=G2.out.size;have h2:=B3.out.size
    exact Joins.ownsRow_le (Laid.lit w3 [(r,r)] (flatR [(r,r)]).toArray rfl (by show 1≤maxLen;decide)) (by simp at h2;omega)
end Go.Proofs.YtnhnldmldnhaoaaGreatDoor
namespace Go.Proofs.YtnhnldmldnhaoaaGreatDoor
open Go Go.RowKit Go.Proofs Go.Shelf
theorem item_shut (b:Nat) (s:ByteArray) (p:Nat) (fr:Int) (perl:Bool) (w:World) (h:BrR w b s p fr perl) (hp:p < s.size) (hn:namedP s p=none) (r a:Int) (q:Nat)
    (HO:∀ W,BrR W b s p fr perl→w.grownBy W (some b)→Calls Tryz.prog 140 #[.pointer (some ⟨b,0,none⟩)] W (OneOut W b s fr perl (.lit 1 r a q))) (hq:q≤s.size) (hl:q+1 < s.size) (h93:stands s (q+1) [93]=true) :
    Calls Tryz.prog 108 #[.pointer (some ⟨b,0,none⟩)] w (ItemOut w b s fr perl (.ok (fun c=>decide (r≤c) && decide (c≤r)) q)):=by
  have HR:=hid h
  have HO':=hid HO;clear HO
  have hbt:=hid h.lt
  have c1:=Rd.c1 h
  have hz:1 < (tail s q).size:=tail_pos 1 hl
  have hz':(1:Int) < ((tail s q).size:Int):=by omega
  have h93':((((tail s q)[1]'hz).toNat:Int) == 93)=true:=(tail_is 1 93 hl).trans h93
  have h93n:((((tail s q)[1]'hz).toNat:Int) != 93)=false:=by rw [bne,h93'];rfl
  clear h
  go_enter Tryz.func108, Tryz.ntmps108
  go_wp2_with fail
  refine (named_no b s p fr perl _ HR.out (by omega) hn).mono ?_
  rintro e w1 ⟨rfl,hR,hG⟩
  have R1:=hid hR;have G1:=hid hG;clear hR hG c1
  go_wp2_with fail
  refine (HO'.out _ R1.out G1.out).mono ?_
  rintro e w2 ⟨hG,rfl,hR⟩
  have R2:=hid (show BrR w2 b s q fr perl from hR);have G2:=hid (grownBy_trans G1.out hG);clear hR hG
  unfold escV
  go_wp2_with fail
  refine (br_rest b s q _ _ _ ((R2.out.alloc _).alloc _) hq).mono ?_
  rintro e w3 ⟨rfl,hR,hB⟩
  have K0:=hid (Blk.below ((Blk.new w2 [.int .i64 1,.int .i32 r,.slice none 0 0,.int .i64 a] 150).alloc _) hB (by simp;omega))
  have K1:=hid (Blk.below (Blk.new (w2.alloc (.cells #[.int .i64 1,.int .i32 r,.slice none 0 0,.int .i64 a] 150)) [.int .i64 1,.int .i32 r,.slice none 0 0,.int .i64 a] 150) hB (by simp))
  have R3:=hid hR;have B3:=hid hB;clear hR hB
  have k0:=Blk.cell K0.out (j:=0) rfl;have k1:=Blk.cell K0.out (j:=1) rfl
  have m0:w3.cell? ⟨w2.heap.size+1,0,none⟩=some (.int .i64 1):=by have:=Blk.cell K1.out (j:=0) rfl;simpa using this
  have m1:w3.cell? ⟨w2.heap.size+1,1,none⟩=some (.int .i32 r):=by have:=Blk.cell K1.out (j:=1) rfl;simpa using this
  go_wp2_with fail
  refine (br_rest b s q _ _ _ R3.out hq).mono ?_
  rintro e w4 ⟨rfl,hR,hB⟩
  have M0:=hid (Blk.below K0.out hB K0.out.lt);have M1:=hid (Blk.below K1.out hB K1.out.lt)
  have R4:=hid hR;have B4:=hid (below_then B3.out hB);clear hR hB k0 k1 m0 m1
  have k0:=Blk.cell M0.out (j:=0) rfl;have k1:=Blk.cell M0.out (j:=1) rfl
  have m0:w4.cell? ⟨w2.heap.size+1,0,none⟩=some (.int .i64 1):=by have:=Blk.cell M1.out (j:=0) rfl;simpa using this
  have m1:w4.cell? ⟨w2.heap.size+1,1,none⟩=some (.int .i32 r):=by have:=Blk.cell M1.out (j:=1) rfl;simpa using this
  go_wp2_with fail
  refine bodyPost_ret (v:=.slice (some ⟨w4.heap.size,0,none⟩) 1 1) ?_ rfl ⟨?_,?_⟩
  · simp [results,Tryz.results108]
  · exact grownBy_trans G2.out (grownBy_trans (grownBy_trans (grownBy_trans (grownBy_alloc _ _ _) (grownBy_alloc _ _ _)) (grownBy_below B4.out _)) (grownBy_alloc _ _ _))
  · refine ⟨_,[(r,r)],rfl,?_,fun c _ _=>by simp [memR],by simp,Blk.alloc R4.out _⟩
    have h1:=G2.out.size;have h2:=B4.out.size
    exact Joins.ownsRow_le (Laid.lit w4 [(r,r)] (flatR [(r,r)]).toArray rfl (by show 1≤maxLen;decide)) (by simp at h2;omega)
end Go.Proofs.YtnhnldmldnhaoaaGreatDoor
namespace Go.Proofs.YtnhnldmldnhaoaaGreatDoor
open Go Go.RowKit Go.Proofs Go.Shelf
theorem item_alone (b:Nat) (s:ByteArray) (p:Nat) (fr:Int) (perl:Bool) (w:World) (h:BrR w b s p fr perl) (hp:p < s.size) (hn:namedP s p=none) (r a:Int) (q:Nat)
    (HO:∀ W,BrR W b s p fr perl→w.grownBy W (some b)→Calls Tryz.prog 140 #[.pointer (some ⟨b,0,none⟩)] W (OneOut W b s fr perl (.lit 1 r a q))) (hq:q≤s.size) (hl:q+1 < s.size) (h93:stands s (q+1) [93]=false) (h45:stands s q [45]=false) :
    Calls Tryz.prog 108 #[.pointer (some ⟨b,0,none⟩)] w (ItemOut w b s fr perl (.ok (fun c=>decide (r≤c) && decide (c≤r)) q)):=by
  have HR:=hid h
  have HO':=hid HO;clear HO
  have hbt:=hid h.lt
  have c1:=Rd.c1 h
  have hz:1 < (tail s q).size:=tail_pos 1 hl
  have hz':(1:Int) < ((tail s q).size:Int):=by omega
  have h93':((((tail s q)[1]'hz).toNat:Int) == 93)=false:=(tail_is 1 93 hl).trans h93
  have h93n:((((tail s q)[1]'hz).toNat:Int) != 93)=true:=by rw [bne,h93'];rfl
  clear h
  go_enter Tryz.func108, Tryz.ntmps108
  go_wp2_with fail
  refine (named_no b s p fr perl _ HR.out (by omega) hn).mono ?_
  rintro e w1 ⟨rfl,hR,hG⟩
  have R1:=hid hR;have G1:=hid hG;clear hR hG c1
  go_wp2_with fail
  refine (HO'.out _ R1.out G1.out).mono ?_
  rintro e w2 ⟨hG,rfl,hR⟩
  have R2:=hid (show BrR w2 b s q fr perl from hR);have G2:=hid (grownBy_trans G1.out hG);clear hR hG
  unfold escV
  go_wp2_with fail
  refine (br_rest b s q _ _ _ ((R2.out.alloc _).alloc _) hq).mono ?_
  rintro e w3 ⟨rfl,hR,hB⟩
  have K0:=hid (Blk.below ((Blk.new w2 [.int .i64 1,.int .i32 r,.slice none 0 0,.int .i64 a] 150).alloc _) hB (by simp;omega))
  have K1:=hid (Blk.below (Blk.new (w2.alloc (.cells #[.int .i64 1,.int .i32 r,.slice none 0 0,.int .i64 a] 150)) [.int .i64 1,.int .i32 r,.slice none 0 0,.int .i64 a] 150) hB (by simp))
  have R3:=hid hR;have B3:=hid hB;clear hR hB
  have k0:=Blk.cell K0.out (j:=0) rfl;have k1:=Blk.cell K0.out (j:=1) rfl
  have m0:w3.cell? ⟨w2.heap.size+1,0,none⟩=some (.int .i64 1):=by have:=Blk.cell K1.out (j:=0) rfl;simpa using this
  have m1:w3.cell? ⟨w2.heap.size+1,1,none⟩=some (.int .i32 r):=by have:=Blk.cell K1.out (j:=1) rfl;simpa using this
  go_wp2_with fail
  refine (br_rest b s q _ _ _ R3.out hq).mono ?_
  rintro e w4 ⟨rfl,hR,hB⟩
  have M0:=hid (Blk.below K0.out hB K0.out.lt);have M1:=hid (Blk.below K1.out hB K1.out.lt)
  have R4:=hid hR;have B4:=hid (below_then B3.out hB);clear hR hB k0 k1 m0 m1
  have k0:=Blk.cell M0.out (j:=0) rfl;have k1:=Blk.cell M0.out (j:=1) rfl
  have m0:w4.cell? ⟨w2.heap.size+1,0,none⟩=some (.int .i64 1):=by have:=Blk.cell M1.out (j:=0) rfl;simpa using this
  have m1:w4.cell? ⟨w2.heap.size+1,1,none⟩=some (.int .i32 r):=by have:=Blk.cell M1.out (j:=1) rfl;simpa using this
  go_wp2_with fail
  refine (br_has_no b s ⟨#[45]⟩ q _ _ _ R4.out hq h45).mono ?_
  rintro e w5 ⟨rfl,hR,hG⟩
  have hbw:=hbt.out;have hgs:=G2.out.size;have hbs:=B4.out.size
  have N0:=hid (M0.out.grown hG (ne_some (by omega)));have N1:=hid (M1.out.grown hG (ne_some (by simp;omega)))
  have R5:=hid hR;have G5:=hid hG;clear hR hG k0 k1 m0 m1 hbw hgs hbs
  have k0:=Blk.cell N0.out (j:=0) rfl;have k1:=Blk.cell N0.out (j:=1) rfl
  have m0:w5.cell? ⟨w2.heap.size+1,0,none⟩=some (.int .i64 1):=by have:=Blk.cell N1.out (j:=0) rfl;simpa using this
  have m1:w5.cell? ⟨w2.heap.size+1,1,none⟩=some (.int .i32 r):=by have:=Blk.cell N1.out (j:=1) rfl;simpa using this
  go_wp2_with fail
  refine bodyPost_ret (v:=.slice (some ⟨w5.heap.size,0,none⟩) 1 1) ?_ rfl ⟨?_,?_⟩
  · simp [results,Tryz.results108]
  · exact grownBy_trans G2.out (grownBy_trans (grownBy_trans (grownBy_trans (grownBy_alloc _ _ _) (grownBy_alloc _ _ _)) (grownBy_trans (grownBy_below B4.out _) G5.out)) (grownBy_alloc _ _ _))
  · refine ⟨_,[(r,r)],rfl,?_,fun c _ _=>by simp [memR],by simp,Blk.alloc R5.out _⟩
    have h1:=G2.out.size;have h2:=B4.out.size;have h3:=G5.out.size
    exact Joins.ownsRow_le (Laid.lit w5 [(r,r)] (flatR [(r,r)]).toArray rfl (by show 1≤maxLen;decide)) (by simp at h2;omega)
end Go.Proofs.YtnhnldmldnhaoaaGreatDoor
namespace Go.Proofs.YtnhnldmldnhaoaaGreatDoor
open Go Go.RowKit Go.Proofs Go.Shelf
theorem item_wrong (b:Nat) (s:ByteArray) (p:Nat) (fr:Int) (perl:Bool) (w:World) (h:BrR w b s p fr perl) (hp:p < s.size) (hn:namedP s p=none) (x f t:Int) (HO:∀ W,BrR W b s p fr perl→w.grownBy W (some b)→Calls Tryz.prog 140 #[.pointer (some ⟨b,0,none⟩)] W (OneOut W b s fr perl (.wrong x f t))) :
    Calls Tryz.prog 108 #[.pointer (some ⟨b,0,none⟩)] w (ItemOut w b s fr perl (.wrong x f t)):=by
  have HR:=hid h
  have HO':=hid HO;clear HO
  have hbt:=hid h.lt
  have c1:=Rd.c1 h
  clear h
  go_enter Tryz.func108, Tryz.ntmps108
  go_wp2_with fail
  refine (named_no b s p fr perl _ HR.out (by omega) hn).mono ?_
  rintro e w1 ⟨rfl,hR,hG⟩
  have R1:=hid hR;have G1:=hid hG;clear hR hG c1
  go_wp2_with fail
  refine (HO'.out _ R1.out G1.out).mono ?_
  rintro e w2 ⟨hG,rfl⟩
  exact ⟨rfl,grownBy_trans G1.out hG,rfl⟩
theorem item_set (b:Nat) (s:ByteArray) (p:Nat) (fr:Int) (perl:Bool) (w:World) (h:BrR w b s p fr perl) (hp:p < s.size) (hn:namedP s p=none) (f:Int→Bool) (q:Int) (HO:∀ W,BrR W b s p fr perl→w.grownBy W (some b)→Calls Tryz.prog 140 #[.pointer (some ⟨b,0,none⟩)] W (OneOut W b s fr perl (.set f q))) :
    Calls Tryz.prog 108 #[.pointer (some ⟨b,0,none⟩)] w (ItemOut w b s fr perl (.ok f q.toNat)):=by
  have HR:=hid h
  have HO':=hid HO;clear HO
  have hbt:=hid h.lt
  have c1:=Rd.c1 h
  clear h
  go_enter Tryz.func108, Tryz.ntmps108
  go_wp2_with fail
  refine (named_no b s p fr perl _ HR.out (by omega) hn).mono ?_
  rintro e w1 ⟨rfl,hR,hG⟩
  have R1:=hid hR;have G1:=hid hG;clear hR hG c1
  go_wp2_with fail
  refine (HO'.out _ R1.out G1.out).mono ?_
  rintro e w2 ⟨hG,v,out,rfl,hL,hI,hN,hR⟩
  obtain ⟨sa,sc,rfl,_,_⟩:=Laid.ranges hL (by omega)
  have R2:=hid (show BrR w2 b s q.toNat fr perl from hR);have G2:=hid (grownBy_trans G1.out hG);have HL:=hid hL;have HI:=hid hI;have HN:=hid hN;have Z:=hid G1.out.size;clear hR hG hL hI hN
  unfold escV
  go_wp2_with fail
  refine bodyPost_ret (v:=.slice sa out.length sc) ?_ rfl ⟨?_,_,out,rfl,?_,?_,HN.out,?_⟩
  · simp [results,Tryz.results108]
  · exact grownBy_trans G2.out (grownBy_alloc _ _ _)
  · exact World.ownsRow.alloc (Joins.ownsRow_le HL.out Z.out) _
  · intro c h0 h1;rw [HI.out.2 c];simp [h0,h1]
  · exact Blk.alloc R2.out _
theorem item_kind (b:Nat) (s:ByteArray) (p:Nat) (fr:Int) (perl:Bool) (w:World) (h:BrR w b s p fr perl) (hp:p < s.size) (hn:namedP s p=none) (k r a q:Int) (Q:Nat) (hQ:q=Q) (hk1:k≠1) (hk2:k≠2) (HO:∀ W,BrR W b s p fr perl→w.grownBy W (some b)→Calls Tryz.prog 140 #[.pointer (some ⟨b,0,none⟩)] W (OneOut W b s fr perl (.lit k r a q))) :
    Calls Tryz.prog 108 #[.pointer (some ⟨b,0,none⟩)] w (ItemOut w b s fr perl (.wrong 72 p q)):=by
  subst hQ
  have HR:=hid h
  have HO':=hid HO;clear HO
  have hbt:=hid h.lt
  have c1:=Rd.c1 h
  have k1:(k == 1)=false:=by simpa using hk1
  have k2:(k == 2)=false:=by simpa using hk2
  have k3:(k != 1)=true:=by simpa using hk1
  clear hk1 hk2
  clear h
  go_enter Tryz.func108, Tryz.ntmps108
  go_wp2_with fail
  refine (named_no b s p fr perl _ HR.out (by omega) hn).mono ?_
  rintro e w1 ⟨rfl,hR,hG⟩
  have R1:=hid hR;have G1:=hid hG;clear hR hG c1
  go_wp2_with fail
  refine (HO'.out _ R1.out G1.out).mono ?_
  rintro e w2 ⟨hG,rfl,hR⟩
  have R2:=hid (show BrR w2 b s Q fr perl from hR);have G2:=hid (grownBy_trans G1.out hG);clear hR hG
  have g1:(w2.alloc (.cells #[.int .i64 k,.int .i32 r,.slice none 0 0,.int .i64 a] 150)).cell? ⟨b,1,none⟩=some (.int .i64 Q):=Rd.c1 (Blk.alloc R2.out _)
  unfold escV
  go_wp2_with fail
  refine (br_stop _ _ _ _).mono ?_
  rintro e w9 ⟨rfl,rfl⟩
  exact ⟨rfl,grownBy_trans G2.out (grownBy_alloc _ _ _),rfl⟩
end Go.Proofs.YtnhnldmldnhaoaaGreatDoor
namespace Go.Proofs.YtnhnldmldnhaoaaGreatDoor
open Go Go.RowKit Go.Proofs Go.Shelf
theorem range_wrong (b:Nat) (s:ByteArray) (p:Nat) (fr:Int) (perl:Bool) (w:World) (h:BrR w b s p fr perl) (hp:p < s.size) (hn:namedP s p=none) (hs:s.size≤1000000000000000) (r a:Int) (q:Nat) (HO:∀ W,BrR W b s p fr perl→w.grownBy W (some b)→Calls Tryz.prog 140 #[.pointer (some ⟨b,0,none⟩)] W (OneOut W b s fr perl (.lit 1 r a q))) (hq:q≤s.size) (hl:q+1 < s.size) (h93:stands s (q+1) [93]=false) (h45:stands s q [45]=true) (x f t:Int) (HO2:∀ W,BrR W b s (q+1) fr perl→w.grownBy W (some b)→Calls Tryz.prog 140 #[.pointer (some ⟨b,0,none⟩)] W (OneOut W b s fr perl (.wrong x f t))) :
    Calls Tryz.prog 108 #[.pointer (some ⟨b,0,none⟩)] w (ItemOut w b s fr perl (.wrong x f t)):=by
  have HR:=hid h
  have HO':=hid HO;clear HO
  have hbt:=hid h.lt
  have c1:=Rd.c1 h
  have HO2':=hid HO2;clear HO2
  have hz:1 < (tail s q).size:=tail_pos 1 hl
  have hz':(1:Int) < ((tail s q).size:Int):=by omega
  have h93':((((tail s q)[1]'hz).toNat:Int) == 93)=false:=(tail_is 1 93 hl).trans h93
  have h93n:((((tail s q)[1]'hz).toNat:Int) != 93)=true:=by rw [bne,h93'];rfl
  clear h
  go_enter Tryz.func108, Tryz.ntmps108
  go_wp2_with fail
  refine (named_no b s p fr perl _ HR.out (by omega) hn).mono ?_
  rintro e w1 ⟨rfl,hR,hG⟩
  have R1:=hid hR;have G1:=hid hG;clear hR hG c1
  go_wp2_with fail
  refine (HO'.out _ R1.out G1.out).mono ?_
  rintro e w2 ⟨hG,rfl,hR⟩
  have R2:=hid (show BrR w2 b s q fr perl from hR);have G2:=hid (grownBy_trans G1.out hG);clear hR hG
  unfold escV
  go_wp2_with fail
  refine (br_rest b s q _ _ _ ((R2.out.alloc _).alloc _) hq).mono ?_
  rintro e w3 ⟨rfl,hR,hB⟩
  have K0:=hid (Blk.below ((Blk.new w2 [.int .i64 1,.int .i32 r,.slice none 0 0,.int .i64 a] 150).alloc _) hB (by simp;omega))
  have K1:=hid (Blk.below (Blk.new (w2.alloc (.cells #[.int .i64 1,.int .i32 r,.slice none 0 0,.int .i64 a] 150)) [.int .i64 1,.int .i32 r,.slice none 0 0,.int .i64 a] 150) hB (by simp))
  have R3:=hid hR;have B3:=hid hB;clear hR hB
  go_wp2_with fail
  refine (br_rest b s q _ _ _ R3.out hq).mono ?_
  rintro e w4 ⟨rfl,hR,hB⟩
  have M0:=hid (Blk.below K0.out hB K0.out.lt);have M1:=hid (Blk.below K1.out hB K1.out.lt)
  have R4:=hid hR;have B4:=hid (below_then B3.out hB);clear hR hB
  go_wp2_with fail
  refine (br_has_yes b s ⟨#[45]⟩ q _ _ _ R4.out hq hs h45).mono ?_
  rintro e w5 ⟨rfl,hR,hG⟩
  have hbw:=hbt.out;have hgs:=G2.out.size;have hbs:=B4.out.size
  have N0:=hid (M0.out.grown hG (ne_some (by omega)));have N1:=hid (M1.out.grown hG (ne_some (by simp;omega)))
  have R5:=hid (show BrR w5 b s (q+1) fr perl from hR);have G5:=hid (grownBy_trans G2.out (grownBy_trans (grownBy_trans (grownBy_trans (grownBy_alloc _ _ _) (grownBy_alloc _ _ _)) (grownBy_below B4.out _)) hG));clear hR hG hbw hgs hbs
  go_wp2_with fail
  refine (HO2'.out _ R5.out G5.out).mono ?_
  rintro e w6 ⟨hG,rfl⟩
  exact ⟨rfl,grownBy_trans G5.out hG,rfl⟩
theorem range_set (b:Nat) (s:ByteArray) (p:Nat) (fr:Int) (perl:Bool) (w:World) (h:BrR w b s p fr perl) (hp:p < s.size) (hn:namedP s p=none) (hs:s.size≤1000000000000000) (r a:Int) (q:Nat) (HO:∀ W,BrR W b s p fr perl→w.grownBy W (some b)→Calls Tryz.prog 140 #[.pointer (some ⟨b,0,none⟩)] W (OneOut W b s fr perl (.lit 1 r a q))) (hq:q≤s.size) (hl:q+1 < s.size) (h93:stands s (q+1) [93]=false) (h45:stands s q [45]=true) (f:Int→Bool) (q2:Int) (Q2:Nat) (hQ2:q2=Q2) (HO2:∀ W,BrR W b s (q+1) fr perl→w.grownBy W (some b)→Calls Tryz.prog 140 #[.pointer (some ⟨b,0,none⟩)] W (OneOut W b s fr perl (.set f q2))) :
    Calls Tryz.prog 108 #[.pointer (some ⟨b,0,none⟩)] w (ItemOut w b s fr perl (.wrong 72 p q2)):=by
  subst hQ2
  have HR:=hid h
  have HO':=hid HO;clear HO
  have hbt:=hid h.lt
  have c1:=Rd.c1 h
  have HO2':=hid HO2;clear HO2
  have hz:1 < (tail s q).size:=tail_pos 1 hl
  have hz':(1:Int) < ((tail s q).size:Int):=by omega
  have h93':((((tail s q)[1]'hz).toNat:Int) == 93)=false:=(tail_is 1 93 hl).trans h93
  have h93n:((((tail s q)[1]'hz).toNat:Int) != 93)=true:=by rw [bne,h93'];rfl
  clear h
  go_enter Tryz.func108, Tryz.ntmps108
  go_wp2_with fail
  refine (named_no b s p fr perl _ HR.out (by omega) hn).mono ?_
  rintro e w1 ⟨rfl,hR,hG⟩
  have R1:=hid hR;have G1:=hid hG;clear hR hG c1
  go_wp2_with fail
  refine (HO'.out _ R1.out G1.out).mono ?_
  rintro e w2 ⟨hG,rfl,hR⟩
  have R2:=hid (show BrR w2 b s q fr perl from hR);have G2:=hid (grownBy_trans G1.out hG);clear hR hG
  unfold escV
  go_wp2_with fail
  refine (br_rest b s q _ _ _ ((R2.out.alloc _).alloc _) hq).mono ?_
  rintro e w3 ⟨rfl,hR,hB⟩
  have K0:=hid (Blk.below ((Blk.new w2 [.int .i64 1,.int .i32 r,.slice none 0 0,.int .i64 a] 150).alloc _) hB (by simp;omega))
  have K1:=hid (Blk.below (Blk.new (w2.alloc (.cells #[.int .i64 1,.int .i32 r,.slice none 0 0,.int .i64 a] 150)) [.int .i64 1,.int .i32 r,.slice none 0 0,.int .i64 a] 150) hB (by simp))
  have R3:=hid hR;have B3:=hid hB;clear hR hB
  go_wp2_with fail
  refine (br_rest b s q _ _ _ R3.out hq).mono ?_
  rintro e w4 ⟨rfl,hR,hB⟩
  have M0:=hid (Blk.below K0.out hB K0.out.lt);have M1:=hid (Blk.below K1.out hB K1.out.lt)
  have R4:=hid hR;have B4:=hid (below_then B3.out hB);clear hR hB
  go_wp2_with fail
  refine (br_has_yes b s ⟨#[45]⟩ q _ _ _ R4.out hq hs h45).mono ?_
  rintro e w5 ⟨rfl,hR,hG⟩
  have hbw:=hbt.out;have hgs:=G2.out.size;have hbs:=B4.out.size
  have N0:=hid (M0.out.grown hG (ne_some (by omega)));have N1:=hid (M1.out.grown hG (ne_some (by simp;omega)))
  have R5:=hid (show BrR w5 b s (q+1) fr perl from hR);have G5:=hid (grownBy_trans G2.out (grownBy_trans (grownBy_trans (grownBy_trans (grownBy_alloc _ _ _) (grownBy_alloc _ _ _)) (grownBy_below B4.out _)) hG));clear hR hG hbw hgs hbs
  go_wp2_with fail
  refine (HO2'.out _ R5.out G5.out).mono ?_
  rintro e w6 ⟨hG,v,out,rfl,hL,hI,hN,hR⟩
  obtain ⟨sa,sc,rfl,_,_⟩:=Laid.ranges hL (by omega)
  clear hL hI hN
  have hbw:=hbt.out;have hgs:=G2.out.size
  have P0:=hid (N0.out.grown hG (ne_some (by omega)));have P1:=hid (N1.out.grown hG (ne_some (by simp;omega)))
  have R6:=hid (show BrR w6 b s Q2 fr perl from hR);have G6:=hid (grownBy_trans G5.out hG);have Z6:=hid (show w.heap.size≤w2.heap.size from hgs)
  have x0:w2.heap.size≠b:=by omega
  have x1:w2.heap.size+1≠b:=by omega
  have x2:b≠w2.heap.size:=by omega
  have x3:b≠w2.heap.size+1:=by omega
  clear hR hG hbw hgs
  have k0:=Blk.cell P0.out (j:=0) rfl;have k1:=Blk.cell P0.out (j:=1) rfl
  have m0:w6.cell? ⟨w2.heap.size+1,0,none⟩=some (.int .i64 1):=by have:=Blk.cell P1.out (j:=0) rfl;simpa using this
  have m1:w6.cell? ⟨w2.heap.size+1,1,none⟩=some (.int .i32 r):=by have:=Blk.cell P1.out (j:=1) rfl;simpa using this
  have m2:w6.cell? ⟨w2.heap.size+1,2,none⟩=some (.slice none 0 0):=by have:=Blk.cell P1.out (j:=2) rfl;simpa using this
  have m3:w6.cell? ⟨w2.heap.size+1,3,none⟩=some (.int .i64 a):=by have:=Blk.cell P1.out (j:=3) rfl;simpa using this
  have p0:w6.frozen? ⟨w2.heap.size+1,0,none⟩=false:=by have:=P1.out.frozen 0;simpa using this
  have p1:w6.frozen? ⟨w2.heap.size+1,1,none⟩=false:=by have:=P1.out.frozen 1;simpa using this
  have p2:w6.frozen? ⟨w2.heap.size+1,2,none⟩=false:=by have:=P1.out.frozen 2;simpa using this
  have p3:w6.frozen? ⟨w2.heap.size+1,3,none⟩=false:=by have:=P1.out.frozen 3;simpa using this
  have c6:=Rd.c1 R6.out
  unfold escV
  go_wp2_with fail
  refine (br_stop _ _ _ _).mono ?_
  rintro e w9 ⟨rfl,rfl⟩
  refine ⟨rfl,grownBy_new4 (k:=w2.heap.size+1) G6.out (by have:=Z6.out;omega) _ _ _ _,rfl⟩
theorem range_kind (b:Nat) (s:ByteArray) (p:Nat) (fr:Int) (perl:Bool) (w:World) (h:BrR w b s p fr perl) (hp:p < s.size) (hn:namedP s p=none) (hs:s.size≤1000000000000000) (r a:Int) (q:Nat) (HO:∀ W,BrR W b s p fr perl→w.grownBy W (some b)→Calls Tryz.prog 140 #[.pointer (some ⟨b,0,none⟩)] W (OneOut W b s fr perl (.lit 1 r a q))) (hq:q≤s.size) (hl:q+1 < s.size) (h93:stands s (q+1) [93]=false) (h45:stands s q [45]=true) (k2 r2 a2 q2:Int) (Q2:Nat) (hQ2:q2=Q2) (hk:k2≠1) (HO2:∀ W,BrR W b s (q+1) fr perl→w.grownBy W (some b)→Calls Tryz.prog 140 #[.pointer (some ⟨b,0,none⟩)] W (OneOut W b s fr perl (.lit k2 r2 a2 q2))) :
    Calls Tryz.prog 108 #[.pointer (some ⟨b,0,none⟩)] w (ItemOut w b s fr perl (.wrong 72 p q2)):=by
  subst hQ2
  have k3:(k2 != 1)=true:=by simpa using hk
  clear hk
  have HR:=hid h
  have HO':=hid HO;clear HO
  have hbt:=hid h.lt
  have c1:=Rd.c1 h
  have HO2':=hid HO2;clear HO2
  have hz:1 < (tail s q).size:=tail_pos 1 hl
  have hz':(1:Int) < ((tail s q).size:Int):=by omega
  have h93':((((tail s q)[1]'hz).toNat:Int) == 93)=false:=(tail_is 1 93 hl).trans h93
  have h93n:((((tail s q)[1]'hz).toNat:Int) != 93)=true:=by rw [bne,h93'];rfl
  clear h
  go_enter Tryz.func108, Tryz.ntmps108
  go_wp2_with fail
  refine (named_no b s p fr perl _ HR.out (by omega) hn).mono ?_
  rintro e w1 ⟨rfl,hR,hG⟩
  have R1:=hid hR;have G1:=hid hG;clear hR hG c1
  go_wp2_with fail
  refine (HO'.out _ R1.out G1.out).mono ?_
  rintro e w2 ⟨hG,rfl,hR⟩
  have R2:=hid (show BrR w2 b s q fr perl from hR);have G2:=hid (grownBy_trans G1.out hG);clear hR hG
  unfold escV
  go_wp2_with fail
  refine (br_rest b s q _ _ _ ((R2.out.alloc _).alloc _) hq).mono ?_
  rintro e w3 ⟨rfl,hR,hB⟩
  have K0:=hid (Blk.below ((Blk.new w2 [.int .i64 1,.int .i32 r,.slice none 0 0,.int .i64 a] 150).alloc _) hB (by simp;omega))
  have K1:=hid (Blk.below (Blk.new (w2.alloc (.cells #[.int .i64 1,.int .i32 r,.slice none 0 0,.int .i64 a] 150)) [.int .i64 1,.int .i32 r,.slice none 0 0,.int .i64 a] 150) hB (by simp))
  have R3:=hid hR;have B3:=hid hB;clear hR hB
  go_wp2_with fail
  refine (br_rest b s q _ _ _ R3.out hq).mono ?_
  rintro e w4 ⟨rfl,hR,hB⟩
  have M0:=hid (Blk.below K0.out hB K0.out.lt);have M1:=hid (Blk.below K1.out hB K1.out.lt)
  have R4:=hid hR;have B4:=hid (below_then B3.out hB);clear hR hB
  go_wp2_with fail
  refine (br_has_yes b s ⟨#[45]⟩ q _ _ _ R4.out hq hs h45).mono ?_
  rintro e w5 ⟨rfl,hR,hG⟩
  have hbw:=hbt.out;have hgs:=G2.out.size;have hbs:=B4.out.size
  have N0:=hid (M0.out.grown hG (ne_some (by omega)));have N1:=hid (M1.out.grown hG (ne_some (by simp;omega)))
  have R5:=hid (show BrR w5 b s (q+1) fr perl from hR);have G5:=hid (grownBy_trans G2.out (grownBy_trans (grownBy_trans (grownBy_trans (grownBy_alloc _ _ _) (grownBy_alloc _ _ _)) (grownBy_below B4.out _)) hG));clear hR hG hbw hgs hbs
  go_wp2_with fail
  refine (HO2'.out _ R5.out G5.out).mono ?_
  rintro e w6 ⟨hG,rfl,hR⟩
  have hbw:=hbt.out;have hgs:=G2.out.size
  have P0:=hid (N0.out.grown hG (ne_some (by omega)));have P1:=hid (N1.out.grown hG (ne_some (by simp;omega)))
  have R6:=hid (show BrR w6 b s Q2 fr perl from hR);have G6:=hid (grownBy_trans G5.out hG);have Z6:=hid (show w.heap.size≤w2.heap.size from hgs)
  have x0:w2.heap.size≠b:=by omega
  have x1:w2.heap.size+1≠b:=by omega
  have x2:b≠w2.heap.size:=by omega
  have x3:b≠w2.heap.size+1:=by omega
  clear hR hG hbw hgs
  have k0:=Blk.cell P0.out (j:=0) rfl;have k1:=Blk.cell P0.out (j:=1) rfl
  have m0:w6.cell? ⟨w2.heap.size+1,0,none⟩=some (.int .i64 1):=by have:=Blk.cell P1.out (j:=0) rfl;simpa using this
  have m1:w6.cell? ⟨w2.heap.size+1,1,none⟩=some (.int .i32 r):=by have:=Blk.cell P1.out (j:=1) rfl;simpa using this
  have m2:w6.cell? ⟨w2.heap.size+1,2,none⟩=some (.slice none 0 0):=by have:=Blk.cell P1.out (j:=2) rfl;simpa using this
  have m3:w6.cell? ⟨w2.heap.size+1,3,none⟩=some (.int .i64 a):=by have:=Blk.cell P1.out (j:=3) rfl;simpa using this
  have p0:w6.frozen? ⟨w2.heap.size+1,0,none⟩=false:=by have:=P1.out.frozen 0;simpa using this
  have p1:w6.frozen? ⟨w2.heap.size+1,1,none⟩=false:=by have:=P1.out.frozen 1;simpa using this
  have p2:w6.frozen? ⟨w2.heap.size+1,2,none⟩=false:=by have:=P1.out.frozen 2;simpa using this
  have p3:w6.frozen? ⟨w2.heap.size+1,3,none⟩=false:=by have:=P1.out.frozen 3;simpa using this
  have c6:=Rd.c1 R6.out
  unfold escV
  go_wp2_with fail
  refine (br_stop _ _ _ _).mono ?_
  rintro e w9 ⟨rfl,rfl⟩
  refine ⟨rfl,grownBy_new4 (k:=w2.heap.size+1) G6.out (by have:=Z6.out;omega) _ _ _ _,rfl⟩
theorem range_falls (b:Nat) (s:ByteArray) (p:Nat) (fr:Int) (perl:Bool) (w:World) (h:BrR w b s p fr perl) (hp:p < s.size) (hn:namedP s p=none) (hs:s.size≤1000000000000000) (r a:Int) (q:Nat) (HO:∀ W,BrR W b s p fr perl→w.grownBy W (some b)→Calls Tryz.prog 140 #[.pointer (some ⟨b,0,none⟩)] W (OneOut W b s fr perl (.lit 1 r a q))) (hq:q≤s.size) (hl:q+1 < s.size) (h93:stands s (q+1) [93]=false) (h45:stands s q [45]=true) (r2 a2 q2:Int) (Q2:Nat) (hQ2:q2=Q2) (hr:r2 < r) (HO2:∀ W,BrR W b s (q+1) fr perl→w.grownBy W (some b)→Calls Tryz.prog 140 #[.pointer (some ⟨b,0,none⟩)] W (OneOut W b s fr perl (.lit 1 r2 a2 q2))) :
    Calls Tryz.prog 108 #[.pointer (some ⟨b,0,none⟩)] w (ItemOut w b s fr perl (.wrong 72 p q2)):=by
  subst hQ2
  have HR:=hid h
  have HO':=hid HO;clear HO
  have hbt:=hid h.lt
  have c1:=Rd.c1 h
  have HO2':=hid HO2;clear HO2
  have hz:1 < (tail s q).size:=tail_pos 1 hl
  have hz':(1:Int) < ((tail s q).size:Int):=by omega
  have h93':((((tail s q)[1]'hz).toNat:Int) == 93)=false:=(tail_is 1 93 hl).trans h93
  have h93n:((((tail s q)[1]'hz).toNat:Int) != 93)=true:=by rw [bne,h93'];rfl
  clear h
  go_enter Tryz.func108, Tryz.ntmps108
  go_wp2_with fail
  refine (named_no b s p fr perl _ HR.out (by omega) hn).mono ?_
  rintro e w1 ⟨rfl,hR,hG⟩
  have R1:=hid hR;have G1:=hid hG;clear hR hG c1
  go_wp2_with fail
  refine (HO'.out _ R1.out G1.out).mono ?_
  rintro e w2 ⟨hG,rfl,hR⟩
  have R2:=hid (show BrR w2 b s q fr perl from hR);have G2:=hid (grownBy_trans G1.out hG);clear hR hG
  unfold escV
  go_wp2_with fail
  refine (br_rest b s q _ _ _ ((R2.out.alloc _).alloc _) hq).mono ?_
  rintro e w3 ⟨rfl,hR,hB⟩
  have K0:=hid (Blk.below ((Blk.new w2 [.int .i64 1,.int .i32 r,.slice none 0 0,.int .i64 a] 150).alloc _) hB (by simp;omega))
  have K1:=hid (Blk.below (Blk.new (w2.alloc (.cells #[.int .i64 1,.int .i32 r,.slice none 0 0,.int .i64 a] 150)) [.int .i64 1,.int .i32 r,.slice none 0 0,.int .i64 a] 150) hB (by simp))
  have R3:=hid hR;have B3:=hid hB;clear hR hB
  go_wp2_with fail
  refine (br_rest b s q _ _ _ R3.out hq).mono ?_
  rintro e w4 ⟨rfl,hR,hB⟩
  have M0:=hid (Blk.below K0.out hB K0.out.lt);have M1:=hid (Blk.below K1.out hB K1.out.lt)
  have R4:=hid hR;have B4:=hid (below_then B3.out hB);clear hR hB
  go_wp2_with fail
  refine (br_has_yes b s ⟨#[45]⟩ q _ _ _ R4.out hq hs h45).mono ?_
  rintro e w5 ⟨rfl,hR,hG⟩
  have hbw:=hbt.out;have hgs:=G2.out.size;have hbs:=B4.out.size
  have N0:=hid (M0.out.grown hG (ne_some (by omega)));have N1:=hid (M1.out.grown hG (ne_some (by simp;omega)))
  have R5:=hid (show BrR w5 b s (q+1) fr perl from hR);have G5:=hid (grownBy_trans G2.out (grownBy_trans (grownBy_trans (grownBy_trans (grownBy_alloc _ _ _) (grownBy_alloc _ _ _)) (grownBy_below B4.out _)) hG));clear hR hG hbw hgs hbs
  go_wp2_with fail
  refine (HO2'.out _ R5.out G5.out).mono ?_
  rintro e w6 ⟨hG,rfl,hR⟩
  have hbw:=hbt.out;have hgs:=G2.out.size
  have P0:=hid (N0.out.grown hG (ne_some (by omega)));have P1:=hid (N1.out.grown hG (ne_some (by simp;omega)))
  have R6:=hid (show BrR w6 b s Q2 fr perl from hR);have G6:=hid (grownBy_trans G5.out hG);have Z6:=hid (show w.heap.size≤w2.heap.size from hgs)
  have x0:w2.heap.size≠b:=by omega
  have x1:w2.heap.size+1≠b:=by omega
  have x2:b≠w2.heap.size:=by omega
  have x3:b≠w2.heap.size+1:=by omega
  clear hR hG hbw hgs
  have k0:=Blk.cell P0.out (j:=0) rfl;have k1:=Blk.cell P0.out (j:=1) rfl
  have m0:w6.cell? ⟨w2.heap.size+1,0,none⟩=some (.int .i64 1):=by have:=Blk.cell P1.out (j:=0) rfl;simpa using this
  have m1:w6.cell? ⟨w2.heap.size+1,1,none⟩=some (.int .i32 r):=by have:=Blk.cell P1.out (j:=1) rfl;simpa using this
  have m2:w6.cell? ⟨w2.heap.size+1,2,none⟩=some (.slice none 0 0):=by have:=Blk.cell P1.out (j:=2) rfl;simpa using this
  have m3:w6.cell? ⟨w2.heap.size+1,3,none⟩=some (.int .i64 a):=by have:=Blk.cell P1.out (j:=3) rfl;simpa using this
  have p0:w6.frozen? ⟨w2.heap.size+1,0,none⟩=false:=by have:=P1.out.frozen 0;simpa using this
  have p1:w6.frozen? ⟨w2.heap.size+1,1,none⟩=false:=by have:=P1.out.frozen 1;simpa using this
  have p2:w6.frozen? ⟨w2.heap.size+1,2,none⟩=false:=by have:=P1.out.frozen 2;simpa using this
  have p3:w6.frozen? ⟨w2.heap.size+1,3,none⟩=false:=by have:=P1.out.frozen 3;simpa using this
  have c6:=Rd.c1 R6.out
  unfold escV
  go_wp2_with fail
  refine (br_stop _ _ _ _).mono ?_
  rintro e w9 ⟨rfl,rfl⟩
  refine ⟨rfl,grownBy_new4 (k:=w2.heap.size+1) G6.out (by have:=Z6.out;omega) _ _ _ _,rfl⟩
theorem range_right (b:Nat) (s:ByteArray) (p:Nat) (fr:Int) (perl:Bool) (w:World) (h:BrR w b s p fr perl) (hp:p < s.size) (hn:namedP s p=none) (hs:s.size≤1000000000000000) (r a:Int) (q:Nat) (HO:∀ W,BrR W b s p fr perl→w.grownBy W (some b)→Calls Tryz.prog 140 #[.pointer (some ⟨b,0,none⟩)] W (OneOut W b s fr perl (.lit 1 r a q))) (hq:q≤s.size) (hl:q+1 < s.size) (h93:stands s (q+1) [93]=false) (h45:stands s q [45]=true) (r2 a2 q2:Int) (Q2:Nat) (hQ2:q2=Q2) (hr:¬ r2 < r) (HO2:∀ W,BrR W b s (q+1) fr perl→w.grownBy W (some b)→Calls Tryz.prog 140 #[.pointer (some ⟨b,0,none⟩)] W (OneOut W b s fr perl (.lit 1 r2 a2 q2))) :
    Calls Tryz.prog 108 #[.pointer (some ⟨b,0,none⟩)] w (ItemOut w b s fr perl (.ok (fun c=>decide (r≤c) && decide (c≤r2)) Q2)):=by
  subst hQ2
  have HR:=hid h
  have HO':=hid HO;clear HO
  have hbt:=hid h.lt
  have c1:=Rd.c1 h
  have HO2':=hid HO2;clear HO2
  have hz:1 < (tail s q).size:=tail_pos 1 hl
  have hz':(1:Int) < ((tail s q).size:Int):=by omega
  have h93':((((tail s q)[1]'hz).toNat:Int) == 93)=false:=(tail_is 1 93 hl).trans h93
  have h93n:((((tail s q)[1]'hz).toNat:Int) != 93)=true:=by rw [bne,h93'];rfl
  clear h
  go_enter Tryz.func108, Tryz.ntmps108
  go_wp2_with fail
  refine (named_no b s p fr perl _ HR.out (by omega) hn).mono ?_
  rintro e w1 ⟨rfl,hR,hG⟩
  have R1:=hid hR;have G1:=hid hG;clear hR hG c1
  go_wp2_with fail
  refine (HO'.out _ R1.out G1.out).mono ?_
  rintro e w2 ⟨hG,rfl,hR⟩
  have R2:=hid (show BrR w2 b s q fr perl from hR);have G2:=hid (grownBy_trans G1.out hG);clear hR hG
  unfold escV
  go_wp2_with fail
  refine (br_rest b s q _ _ _ ((R2.out.alloc _).alloc _) hq).mono ?_
  rintro e w3 ⟨rfl,hR,hB⟩
  have K0:=hid (Blk.below ((Blk.new w2 [.int .i64 1,.int .i32 r,.slice none 0 0,.int .i64 a] 150).alloc _) hB (by simp;omega))
  have K1:=hid (Blk.below (Blk.new (w2.alloc (.cells #[.int .i64 1,.int .i32 r,.slice none 0 0,.int .i64 a] 150)) [.int .i64 1,.int .i32 r,.slice none 0 0,.int .i64 a] 150) hB (by simp))
  have R3:=hid hR;have B3:=hid hB;clear hR hB
  go_wp2_with fail
  refine (br_rest b s q _ _ _ R3.out hq).mono ?_
  rintro e w4 ⟨rfl,hR,hB⟩
  have M0:=hid (Blk.below K0.out hB K0.out.lt);have M1:=hid (Blk.below K1.out hB K1.out.lt)
  have R4:=hid hR;have B4:=hid (below_then B3.out hB);clear hR hB
  go_wp2_with fail
  refine (br_has_yes b s ⟨#[45]⟩ q _ _ _ R4.out hq hs h45).mono ?_
  rintro e w5 ⟨rfl,hR,hG⟩
  have hbw:=hbt.out;have hgs:=G2.out.size;have hbs:=B4.out.size
  have N0:=hid (M0.out.grown hG (ne_some (by omega)));have N1:=hid (M1.out.grown hG (ne_some (by simp;omega)))
  have R5:=hid (show BrR w5 b s (q+1) fr perl from hR);have G5:=hid (grownBy_trans G2.out (grownBy_trans (grownBy_trans (grownBy_trans (grownBy_alloc _ _ _) (grownBy_alloc _ _ _)) (grownBy_below B4.out _)) hG));clear hR hG hbw hgs hbs
  go_wp2_with fail
  refine (HO2'.out _ R5.out G5.out).mono ?_
  rintro e w6 ⟨hG,rfl,hR⟩
  have hbw:=hbt.out;have hgs:=G2.out.size
  have P0:=hid (N0.out.grown hG (ne_some (by omega)));have P1:=hid (N1.out.grown hG (ne_some (by simp;omega)))
  have R6:=hid (show BrR w6 b s Q2 fr perl from hR);have G6:=hid (grownBy_trans G5.out hG);have Z6:=hid (show w.heap.size≤w2.heap.size from hgs)
  have x0:w2.heap.size≠b:=by omega
  have x1:w2.heap.size+1≠b:=by omega
  have x2:b≠w2.heap.size:=by omega
  have x3:b≠w2.heap.size+1:=by omega
  clear hR hG hbw hgs
  have k0:=Blk.cell P0.out (j:=0) rfl;have k1:=Blk.cell P0.out (j:=1) rfl
  have m0:w6.cell? ⟨w2.heap.size+1,0,none⟩=some (.int .i64 1):=by have:=Blk.cell P1.out (j:=0) rfl;simpa using this
  have m1:w6.cell? ⟨w2.heap.size+1,1,none⟩=some (.int .i32 r):=by have:=Blk.cell P1.out (j:=1) rfl;simpa using this
  have m2:w6.cell? ⟨w2.heap.size+1,2,none⟩=some (.slice none 0 0):=by have:=Blk.cell P1.out (j:=2) rfl;simpa using this
  have m3:w6.cell? ⟨w2.heap.size+1,3,none⟩=some (.int .i64 a):=by have:=Blk.cell P1.out (j:=3) rfl;simpa using this
  have p0:w6.frozen? ⟨w2.heap.size+1,0,none⟩=false:=by have:=P1.out.frozen 0;simpa using this
  have p1:w6.frozen? ⟨w2.heap.size+1,1,none⟩=false:=by have:=P1.out.frozen 1;simpa using this
  have p2:w6.frozen? ⟨w2.heap.size+1,2,none⟩=false:=by have:=P1.out.frozen 2;simpa using this
  have p3:w6.frozen? ⟨w2.heap.size+1,3,none⟩=false:=by have:=P1.out.frozen 3;simpa using this
  have c6:=Rd.c1 R6.out
  unfold escV
  go_wp2_with fail
  refine bodyPost_ret (v:=.slice (some ⟨w6.heap.size,0,none⟩) 1 1) ?_ rfl ⟨?_,_,[(r,r2)],rfl,?_,fun c _ _=>by simp [memR],by simp,?_⟩
  · simp [results,Tryz.results108]
  · exact grownBy_trans (grownBy_new4 (k:=w2.heap.size+1) G6.out (by have:=Z6.out;omega) _ _ _ _) (grownBy_alloc _ _ _)
  · have h1:=G6.out.size
    have hzz:(World.set4 w6 (w2.heap.size+1) (.int .i64 1) (.int .i32 r2) (.slice none 0 0) (.int .i64 a2)).heap.size=w6.heap.size:=by simp [World.set4,World.setCell]
    have L:=Laid.lit (World.set4 w6 (w2.heap.size+1) (.int .i64 1) (.int .i32 r2) (.slice none 0 0) (.int .i64 a2)) [(r,r2)] (flatR [(r,r2)]).toArray rfl (by show 1≤maxLen;decide)
    unfold Laid at L ⊢
    rw [hzz] at L
    exact Joins.ownsRow_le L h1
  · exact Blk.alloc (Blk.set4_other (b:=w2.heap.size+1) R6.out x3 _ _ _ _) _
end Go.Proofs.YtnhnldmldnhaoaaGreatDoor
