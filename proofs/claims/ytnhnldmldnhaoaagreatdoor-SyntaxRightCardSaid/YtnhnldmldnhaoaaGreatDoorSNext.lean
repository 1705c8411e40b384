/- The reader's next rune, at any byte. Flags: one bit laid, another asked. -/
import Derived.Test.YtnhnldmldnhaoaaGreatDoorSScan1
import Derived.Laws.RangeAny
import Derived.Lib.TrimU
import Derived.Shelf.Strings.MapAny
import Derived.Shelf.Unicode.DecodeLastEight
import Derived.Test.YtnhnldmldnhaoaaGreatDoorSBase
import Derived.Test.YtnhnldmldnhaoaaGreatDoorSThose
import Derived.RegionDies
import Derived.Test.YtnhnldmldnhaoaaGreatDoorSSpans
import Derived.Maps.AppendAt
set_option maxRecDepth 100000
set_option maxHeartbeats 16000000
open Go.Lib (hid)
namespace Go.Proofs.YtnhnldmldnhaoaaGreatDoor
open Go Go.RowKit Go.Proofs
abbrev Tabs (w:World):Prop:=Lib.Utf8Tabs 0 1 w
theorem cell_lt {w:World} {b j:Nat} {v:Value} (h:w.cell? ⟨b,j,none⟩=some v):b < w.heap.size:=by
  rcases Nat.lt_or_ge b w.heap.size with h' | h'
  · exact h'
  · simp [World.cell?,Array.getElem?_eq_none h'] at h
theorem Tabs.lt {w:World} (h:Tabs w):0 < w.heap.size∧1 < w.heap.size:=
  ⟨cell_lt (h.1 0 (by omega)),cell_lt (h.2 0 (by omega)).1⟩
theorem Tabs.of_blocks {w w':World} (h:Tabs w) (h0:w'.heap[0]? = w.heap[0]?) (h1:w'.heap[1]? = w.heap[1]?):Tabs w':=by
  refine ⟨fun c hc=>?_,fun i hi=>?_⟩
  · rw [← h.1 c hc];simp only [World.cell?,h0]
  · rw [← (h.2 i hi).1,← (h.2 i hi).2];simp only [World.cell?,h1];exact ⟨trivial,trivial⟩
theorem Tabs.below {w w':World} (h:Tabs w) (hb:Below w.heap.size w w'):Tabs w':=h.of_blocks (hb.block _ h.lt.1) (hb.block _ h.lt.2)
theorem Tabs.grown {w w':World} {b:Nat} (h:Tabs w) (hg:w.grownBy w' (some b)) (h0:0≠b) (h1:1≠b):Tabs w':=
  h.of_blocks (hg.block _ h.lt.1 (ne_some h0)) (hg.block _ h.lt.2 (ne_some h1))
theorem Tabs.alloc {w:World} (h:Tabs w) (o:Obj):Tabs (w.alloc o):=h.of_blocks (Below.heap_alloc w o _ h.lt.1) (Below.heap_alloc w o _ h.lt.2)
theorem Tabs.drewN {w:World} (h:Tabs w) (n:Nat):Tabs (w.drewN n):=h
def nextC (s:ByteArray) (p:Nat):Int:=if p < s.size then ((Utf8.decode s p).1:Int) else -1
def nextW (s:ByteArray) (p:Nat):Nat:=if p < s.size then p+(Utf8.decode s p).2 else p
theorem decode_le_size (s:ByteArray) (p:Nat) (h:p < s.size):p+(Utf8.decode s p).2≤s.size:=by
  have:=Lib.decodeGo_le_size (s.extract p s.size)
  rw [Lib.decodeGo_extract s p h] at this
  simp at this
  omega
theorem nextW_le (s:ByteArray) (p:Nat) (h:p≤s.size):nextW s p≤s.size:=by
  unfold nextW;split
  · exact decode_le_size s p (by assumption)
  · exact h
theorem nextC_le (s:ByteArray) (p:Nat) : -1≤nextC s p∧nextC s p≤1114111:=by
  unfold nextC;split
  · have:=Lib.rune_le s p;omega
  · omega
theorem nextC_ascii (s:ByteArray) (p:Nat) (h:p < s.size) (hx:(s[p]'h).toNat < 128):nextC s p=(s[p]'h).toNat∧nextW s p=p+1:=by
  unfold nextC nextW
  rw [if_pos h,if_pos h,Go.decode_ascii s p h hx];exact ⟨rfl,rfl⟩
theorem nextC_high (s:ByteArray) (p:Nat) (h:p < s.size) (hx:128≤(s[p]'h).toNat):128≤nextC s p:=by
  unfold nextC
  rw [if_pos h]
  have:=(Go.decode_high s p h hx).1
  omega
theorem nextC_end (s:ByteArray) (p:Nat) (h:s.size≤p):nextC s p = -1∧nextW s p=p:=by
  unfold nextC nextW
  rw [if_neg (by omega),if_neg (by omega)];exact ⟨rfl,rfl⟩
theorem nextC_small (s:ByteArray) (p:Nat) (h0:0≤nextC s p) (h1:nextC s p < 128):∃ h:p < s.size,nextC s p=(s[p]'h).toNat∧nextW s p=p+1∧(s[p]'h).toNat < 128:=by
  by_cases h:p < s.size
  · by_cases hx:(s[p]'h).toNat < 128
    · exact ⟨h,(nextC_ascii s p h hx).1,(nextC_ascii s p h hx).2,hx⟩
    · have:=nextC_high s p h (by omega);omega
  · have:=(nextC_end s p (by omega)).1;omega
theorem decodeGo_tail (s:ByteArray) (p:Nat) (h:p < s.size):Lib.decodeGo (tail s p)=Utf8.decode s p:=Lib.decodeGo_extract s p h
theorem scan_next (b:Nat) (s:ByteArray) (p:Nat) (rest:List Value) (t:TypeId) (w:World) (h:Rd w b s p rest t) (hT:Tabs w) (hp:p≤s.size) (hs:s.size≤1000000000000000) :
    Calls Tryz.prog 130 #[.pointer (some ⟨b,0,none⟩)] w fun e w'=>e = .returned (.int .i32 (nextC s p))∧Rd w' b s (nextW s p) rest t∧w.grownBy w' (some b):=by
  have HR:=hid h
  have HT:=hid hT
  have h0:=h.c0
  have h1:=h.c1
  clear h hT
  by_cases hlt:p < s.size
  · have hd:decide ((s.size:Int)≤(p:Int))=false:=by simp;omega
    have HF:=hid (show nextC s p=((Utf8.decode s p).1:Int)∧nextW s p=p+(Utf8.decode s p).2 by unfold nextC nextW;rw [if_pos hlt,if_pos hlt];exact ⟨rfl,rfl⟩)
    have hle:=decode_le_size s p hlt
    go_enter Tryz.func130, Tryz.ntmps130
    go_wp2_with fail
    go_quiet (fail)
    go_wp2_with fail
    refine (scan_rest b s p rest t _ (Blk.drewN HR.out _) (by omega)).mono ?_
    rintro e w1 ⟨rfl,hR,hB⟩
    have T1:=hid (Tabs.below (w:=w.drewN nq) HT.out hB)
    have R1:=hid hR;have HB:=hid hB;clear hR hB
    go_wp2_with fail
    refine (Tryz.utf8_DecodeRuneInString _ _ T1.out).mono ?_
    rintro e w2 ⟨rfl,hB⟩
    rw [decodeGo_tail s p hlt]
    have R2:=hid (Rd.below R1.out hB R1.out.lt)
    have HB2:=hid (below_then HB.out hB);clear hB
    have g1:=Rd.c1 R2.out
    have f1:=Rd.f1 R2.out
    clear h0 h1
    go_wp2_with fail
    go_ret
    refine ⟨by rw [HF.out.1];rfl,?_,grownBy_trans (grownBy_trans (grownBy_drewN w nq _) (grownBy_below HB2.out _)) (grownBy_setCell _ _ _ _)⟩
    rw [HF.out.2,← Int.natCast_add]
    exact Rd.move R2.out _
  · have hd:decide ((s.size:Int)≤(p:Int))=true:=by simp;omega
    have HF:=hid (nextC_end s p (by omega))
    go_enter Tryz.func130, Tryz.ntmps130
    go_wp2_with fail
    go_quiet (fail)
    go_wp2_with fail
    go_ret
    refine ⟨by rw [HF.out.1];rfl,?_,grownBy_drewN w _ _⟩
    rw [HF.out.2]
    exact Blk.drewN HR.out _
end Go.Proofs.YtnhnldmldnhaoaaGreatDoor
namespace Go.Proofs.YtnhnldmldnhaoaaGreatDoor
open Go Go.RowKit Go.Proofs
def onB (f c:Int):Bool:=bits BinOp.and IntKind.i64 f c != 0
end Go.Proofs.YtnhnldmldnhaoaaGreatDoor
namespace Go.Proofs.YtnhnldmldnhaoaaGreatDoor
open Go Go.RowKit Go.Proofs Go.Shelf
abbrev SyR (w:World) (b:Nat) (s:ByteArray) (f:Int) (p:Nat) (nv:Value):Prop:=Blk w b [.int .i64 f,.string s,.int .i64 p,nv] 52
abbrev synV (e f t:Int):Value:=.agg #[.int .i64 e,.int .i64 f,.int .i64 t]
abbrev synE (e f t:Int):Ending:=.panicked [{ v:=.iface 32 (synV e f t),recovered:=false }]
theorem syn_stop (e f t:Int) (w:World):Calls Tryz.prog 20 #[.int .i64 e,.int .i64 f,.int .i64 t] w fun en w'=>en=synE e f t∧w'=w:=by
  go_enter Tryz.func20, Tryz.ntmps20
  go_wp2
  exact ⟨rfl,rfl,rfl⟩
theorem syn_on (f c:Int) (w:World):Calls Tryz.prog 32 #[.agg #[.int .i64 f],.int .i64 c] w fun e w'=>e = .returned (.bool (onB f c))∧Below w.heap.size w w':=by
  go_enter Tryz.func32, Tryz.ntmps32
  go_wp2_with fail
  go_ret
  exact ⟨rfl,(Below.refl _ w).alloc (Nat.le_refl _) _⟩
theorem syn_check_ok (f t:Int) (w:World):Calls Tryz.prog 80 #[synV 0 f t] w fun e w'=>e = .returned (.tuple #[])∧Below w.heap.size w w':=by
  go_enter Tryz.func80, Tryz.ntmps80
  go_wp2_with fail
  refine ⟨rfl,.tuple #[],?_,rfl,(Below.refl _ w).alloc (Nat.le_refl _) _⟩
  simp [results,Tryz.results80]
theorem syn_check_bad (e f t:Int) (he:e≠0) (w:World):Calls Tryz.prog 80 #[synV e f t] w fun en w'=>en=synE e f t∧Below w.heap.size w w':=by
  have he':(e != 0)=true:=by simpa using he
  go_enter Tryz.func80, Tryz.ntmps80
  go_wp2_with fail
  exact ⟨rfl,rfl,(Below.refl _ w).alloc (Nat.le_refl _) _⟩
theorem syn_rest_q (b:Nat) (s:ByteArray) (f:Int) (p:Nat) (nv:Value) (w:World) (h:SyR w b s f p nv) (hp:p≤s.size) :
    Calls Tryz.prog 36 #[.pointer (some ⟨b,0,none⟩)] w fun e w'=>e = .returned (.string (tail s p))∧∃ n,w'=w.drewN n:=by
  have h1:=Blk.cell h (j:=1) rfl
  have h2:=Blk.cell h (j:=2) rfl
  clear h
  have hq:(p:Int)≤(s.size:Int):=by omega
  go_enter Tryz.func36, Tryz.ntmps36
  go_wp2_with fail
  go_quiet (fail)
  go_wp2_with fail
  go_ret
  exact ⟨rfl,_,rfl⟩
theorem syn_rest (b:Nat) (s:ByteArray) (f:Int) (p:Nat) (nv:Value) (w:World) (h:SyR w b s f p nv) (hp:p≤s.size) :
    Calls Tryz.prog 36 #[.pointer (some ⟨b,0,none⟩)] w fun e w'=>e = .returned (.string (tail s p))∧SyR w' b s f p nv∧Below w.heap.size w w':=
  (syn_rest_q b s f p nv w h hp).mono fun _ _ ⟨he,n,hw⟩=>⟨he,by rw [hw];exact Blk.drewN h n,by rw [hw];exact below_drewN (Below.refl _ _) n⟩
theorem syn_has (b:Nat) (s t:ByteArray) (f:Int) (p:Nat) (nv:Value) (w:World) (h:SyR w b s f p nv) (hp:p≤s.size) (hs:s.size≤1000000000000000) :
    Calls Tryz.prog 48 #[.pointer (some ⟨b,0,none⟩),.string t] w fun e w'=>e = .returned (.bool (stands s p t.data.toList))∧SyR w' b s f (if stands s p t.data.toList=true then p+t.size else p) nv∧w.grownBy w' (some b):=by
  have HR:=hid h;clear h
  cases hy:stands s p t.data.toList with
  | true=>
    have hl:=stands_le hp hy
    have HY:=hid hy;clear hy
    go_enter Tryz.func48, Tryz.ntmps48
    go_wp2_with fail
    refine (syn_rest b s f p nv _ HR.out hp).mono ?_
    rintro e w1 ⟨rfl,hR,hB⟩
    have HR1:=hid hR;have HB:=hid hB;clear hR hB
    go_wp2_with fail
    refine (Tryz.strings_HasPrefix _ _ _).mono ?_
    rintro e w1 ⟨rfl,rfl⟩
    rw [tail_toList,show Lib.hasPrefix (List.drop p s.data.toList) t.data.toList=true from HY.out]
    have h2:=Blk.cell HR1.out (j:=2) rfl
    have f2:=HR1.out.frozen 2
    go_wp2_with fail
    go_ret
    refine ⟨rfl,?_,grownBy_trans (grownBy_below HB.out _) (grownBy_setCell _ _ _ _)⟩
    rw [← Int.natCast_add]
    exact Blk.set HR1.out 2 _
  | false=>
    have HY:=hid hy;clear hy
    go_enter Tryz.func48, Tryz.ntmps48
    go_wp2_with fail
    refine (syn_rest b s f p nv _ HR.out hp).mono ?_
    rintro e w1 ⟨rfl,hR,hB⟩
    have HR1:=hid hR;have HB:=hid hB;clear hR hB
    go_wp2_with fail
    refine (Tryz.strings_HasPrefix _ _ _).mono ?_
    rintro e w1 ⟨rfl,rfl⟩
    rw [tail_toList,show Lib.hasPrefix (List.drop p s.data.toList) t.data.toList=false from HY.out]
    go_wp2_with fail
    go_ret
    exact ⟨rfl,by simpa using HR1.out,grownBy_below HB.out _⟩
theorem syn_tail_nil {s:ByteArray} {p:Nat} (h:s.size≤p):tail s p=⟨#[]⟩:=by
  apply ByteArray.ext
  apply Array.toList_inj.1
  rw [tail_toList,List.drop_eq_nil_of_le (by simpa using h)]
theorem syn_tail_some {s:ByteArray} {p:Nat} (h:p < s.size):(tail s p).toList.isEmpty=false:=by
  rw [ByteArray.toList_eq,tail_toList]
  exact List.isEmpty_eq_false_iff.2 (fun e=>by have:=congrArg List.length e;simp at this;omega)
theorem syn_next (b:Nat) (s:ByteArray) (f:Int) (p:Nat) (nv:Value) (w:World) (h:SyR w b s f p nv) (hT:Tabs w) (hp:p≤s.size) :
    Calls Tryz.prog 60 #[.pointer (some ⟨b,0,none⟩)] w fun e w'=>e = .returned (.int .i32 (nextC s p))∧SyR w' b s f p nv∧Below w.heap.size w w':=by
  have HR:=hid h;have HT:=hid hT;clear h hT
  by_cases hlt:p < s.size
  · have ht:=syn_tail_some hlt
    have hc:nextC s p=((Utf8.decode s p).1:Int):=by unfold nextC;rw [if_pos hlt]
    have HC:=hid hc;clear hc
    go_enter Tryz.func60, Tryz.ntmps60
    go_wp2_with fail
    refine (syn_rest b s f p nv _ HR.out hp).mono ?_
    rintro e w1 ⟨rfl,hR,hB⟩
    have R1:=hid hR;have T1:=hid (HT.out.below hB);have B1:=hid hB;clear hR hB
    go_wp2_with fail
    refine (syn_rest b s f p nv _ R1.out hp).mono ?_
    rintro e w2 ⟨rfl,hR,hB⟩
    have R2:=hid hR;have T2:=hid (T1.out.below hB);have B2:=hid (below_then B1.out hB);clear hR hB
    go_wp2_with fail
    refine (Tryz.utf8_DecodeRuneInString _ _ T2.out).mono ?_
    rintro e w4 ⟨rfl,hB⟩
    rw [decodeGo_tail s p hlt]
    have R4:=hid (Blk.below R2.out hB R2.out.lt);have B4:=hid (below_then B2.out hB);clear hB
    go_wp2_with fail
    go_ret
    exact ⟨by rw [HC.out];rfl,R4.out,B4.out⟩
  · have ht:=syn_tail_nil (s:=s) (p:=p) (by omega)
    have HC:=hid (nextC_end s p (by omega)).1
    go_enter Tryz.func60, Tryz.ntmps60
    go_wp2_with fail
    refine (syn_rest b s f p nv _ HR.out hp).mono ?_
    rintro e w1 ⟨rfl,hR,hB⟩
    have R1:=hid hR;have B1:=hid hB;clear hR hB
    rw [ht]
    go_wp2_with fail
    go_ret
    exact ⟨by rw [HC.out];rfl,R1.out,B1.out⟩
end Go.Proofs.YtnhnldmldnhaoaaGreatDoor
namespace Go.Proofs.YtnhnldmldnhaoaaGreatDoor
open Go
def leafT (op rune:Int) (set:List (Int × Int)) (pl:Int):T:=.mk op [] rune set pl 0 ⟨#[]⟩ 0 0 false
def setT (l:List (Int × Int)):T:=if l.length=0 then leafT 1 0 [] 0 else leafT 4 0 l 0
def kidsT (op:Int) (l:List T):T:=.mk op l 0 [] 0 0 ⟨#[]⟩ 0 0 false
def catT (l:List T):T:=match l with
  | []=>leafT 2 0 [] 0
  | [t]=>t
  | l=>kidsT 11 l
def capT (k:T) (n:Nat) (name:ByteArray):T:=.mk 6 [k] 0 [] 0 n name 0 0 false
def repT (op:Int) (k:T) (mn mx:Int) (lz:Bool):T:=.mk op [k] 0 [] 0 0 ⟨#[]⟩ mn mx lz
end Go.Proofs.YtnhnldmldnhaoaaGreatDoor
namespace Go.Proofs.YtnhnldmldnhaoaaGreatDoor
open Go Go.RowKit Go.Proofs Go.Shelf
def World.set10 (w:World) (b:Nat) (v0 v1 v2 v3 v4 v5 v6 v7 v8 v9:Value):World:=((((((((((w.setCell ⟨b,0,none⟩ v0).setCell ⟨b,1,none⟩ v1).setCell ⟨b,2,none⟩ v2).setCell ⟨b,3,none⟩ v3).setCell ⟨b,4,none⟩ v4).setCell ⟨b,5,none⟩ v5).setCell ⟨b,6,none⟩ v6).setCell ⟨b,7,none⟩ v7).setCell ⟨b,8,none⟩ v8).setCell ⟨b,9,none⟩ v9)
theorem Blk.set10 {w:World} {b:Nat} {c0 c1 c2 c3 c4 c5 c6 c7 c8 c9:Value} {t:TypeId} (h:Blk w b [c0,c1,c2,c3,c4,c5,c6,c7,c8,c9] t) (v0 v1 v2 v3 v4 v5 v6 v7 v8 v9:Value):Blk (World.set10 w b v0 v1 v2 v3 v4 v5 v6 v7 v8 v9) b [v0,v1,v2,v3,v4,v5,v6,v7,v8,v9] t:=((((((((((h.set 0 v0).set 1 v1).set 2 v2).set 3 v3).set 4 v4).set 5 v5).set 6 v6).set 7 v7).set 8 v8).set 9 v9)
theorem Blk.set10_other {w:World} {b b':Nat} {cs:List Value} {t:TypeId} (h:Blk w b' cs t) (hne:b'≠b) (v0 v1 v2 v3 v4 v5 v6 v7 v8 v9:Value):Blk (World.set10 w b v0 v1 v2 v3 v4 v5 v6 v7 v8 v9) b' cs t:=((((((((((h.setCell_other (a:=⟨b,0,none⟩) hne v0).setCell_other (a:=⟨b,1,none⟩) hne v1).setCell_other (a:=⟨b,2,none⟩) hne v2).setCell_other (a:=⟨b,3,none⟩) hne v3).setCell_other (a:=⟨b,4,none⟩) hne v4).setCell_other (a:=⟨b,5,none⟩) hne v5).setCell_other (a:=⟨b,6,none⟩) hne v6).setCell_other (a:=⟨b,7,none⟩) hne v7).setCell_other (a:=⟨b,8,none⟩) hne v8).setCell_other (a:=⟨b,9,none⟩) hne v9)
theorem set10_block (w:World) (b:Nat) (v0 v1 v2 v3 v4 v5 v6 v7 v8 v9:Value) (k:Nat) (hk:k≠b):(World.set10 w b v0 v1 v2 v3 v4 v5 v6 v7 v8 v9).heap[k]? = w.heap[k]?:=by
  unfold World.set10
  iterate 10 rw [Below.heap_setCell _ _ _ k (by exact hk)]
theorem grownBy_set10 (w:World) (b:Nat) (v0 v1 v2 v3 v4 v5 v6 v7 v8 v9:Value):w.grownBy (World.set10 w b v0 v1 v2 v3 v4 v5 v6 v7 v8 v9) (some b):=by
  unfold World.set10
  exact grownBy_trans (grownBy_trans (grownBy_trans (grownBy_trans (grownBy_trans (grownBy_trans (grownBy_trans (grownBy_trans (grownBy_trans (grownBy_setCell _ _ _ _) (grownBy_setCell _ _ _ _)) (grownBy_setCell _ _ _ _)) (grownBy_setCell _ _ _ _)) (grownBy_setCell _ _ _ _)) (grownBy_setCell _ _ _ _)) (grownBy_setCell _ _ _ _)) (grownBy_setCell _ _ _ _)) (grownBy_setCell _ _ _ _)) (grownBy_setCell _ _ _ _)
theorem grownBy_new10 {a b:World} {row:Option Nat} (h:a.grownBy b row) {k:Nat} (hk:a.heap.size≤k) (v0 v1 v2 v3 v4 v5 v6 v7 v8 v9:Value):a.grownBy (World.set10 b k v0 v1 v2 v3 v4 v5 v6 v7 v8 v9) row:=
  have g:=grownBy_set10 b k v0 v1 v2 v3 v4 v5 v6 v7 v8 v9
  ⟨g.os.trans h.os,g.tape.trans h.tape,g.output.trans h.output,Nat.le_trans h.size g.size,fun i hi hne=>(set10_block b k _ _ _ _ _ _ _ _ _ _ i (by omega)).trans (h.block i hi hne)⟩
structure Ten (w:World) (k:Nat) (v0 v1 v2 v3 v4 v5 v6 v7 v8 v9:Value):Prop where
  c0:w.cell? ⟨k,0,none⟩=some v0
  c1:w.cell? ⟨k,1,none⟩=some v1
  c2:w.cell? ⟨k,2,none⟩=some v2
  c3:w.cell? ⟨k,3,none⟩=some v3
  c4:w.cell? ⟨k,4,none⟩=some v4
  c5:w.cell? ⟨k,5,none⟩=some v5
  c6:w.cell? ⟨k,6,none⟩=some v6
  c7:w.cell? ⟨k,7,none⟩=some v7
  c8:w.cell? ⟨k,8,none⟩=some v8
  c9:w.cell? ⟨k,9,none⟩=some v9
  f0:w.frozen? ⟨k,0,none⟩=false
  f1:w.frozen? ⟨k,1,none⟩=false
  f2:w.frozen? ⟨k,2,none⟩=false
  f3:w.frozen? ⟨k,3,none⟩=false
  f4:w.frozen? ⟨k,4,none⟩=false
  f5:w.frozen? ⟨k,5,none⟩=false
  f6:w.frozen? ⟨k,6,none⟩=false
  f7:w.frozen? ⟨k,7,none⟩=false
  f8:w.frozen? ⟨k,8,none⟩=false
  f9:w.frozen? ⟨k,9,none⟩=false
theorem Blk.ten {w:World} {b:Nat} {v0 v1 v2 v3 v4 v5 v6 v7 v8 v9:Value} {t:TypeId} (h:Blk w b [v0,v1,v2,v3,v4,v5,v6,v7,v8,v9] t):Ten w b v0 v1 v2 v3 v4 v5 v6 v7 v8 v9:=
  ⟨Blk.cell h (j:=0) rfl,Blk.cell h (j:=1) rfl,Blk.cell h (j:=2) rfl,Blk.cell h (j:=3) rfl,Blk.cell h (j:=4) rfl,Blk.cell h (j:=5) rfl,Blk.cell h (j:=6) rfl,Blk.cell h (j:=7) rfl,Blk.cell h (j:=8) rfl,Blk.cell h (j:=9) rfl,h.frozen 0,h.frozen 1,h.frozen 2,h.frozen 3,h.frozen 4,h.frozen 5,h.frozen 6,h.frozen 7,h.frozen 8,h.frozen 9⟩
abbrev zero10:List Value:=[.int .i64 0,.slice none 0 0,.int .i32 0,.slice none 0 0,.int .i64 0,.int .i64 0,.string ⟨#[]⟩,.int .i64 0,.int .i64 0,.bool false]
def leafC (op rune:Int) (sa:Option Addr) (sn sc:Nat) (pl:Int):List Value:=[.int .i64 op,.slice none 0 0,.int .i32 rune,.slice sa sn sc,.int .i64 pl,.int .i64 0,.string ⟨#[]⟩,.int .i64 0,.int .i64 0,.bool false]
theorem kids_none {w:World} {ok:Nat→Prop}:KidsS w ok [] none 0 0:=⟨rfl,⟨Nat.le_refl _,Nat.zero_le _⟩,.inl rfl⟩
theorem set_none {w:World} {ok:Nat→Prop}:SetF w ok [] none 0 0:=⟨rfl,⟨Nat.le_refl _,Nat.zero_le _⟩,.inl rfl⟩
theorem leafC_tree {w:World} {ok:Nat→Prop} {op rune pl:Int} {rs:List (Int × Int)} {sa:Option Addr} {sn sc:Nat} (h:SetF w ok rs sa sn sc):TreeF w ok (leafT op rune rs pl) (leafC op rune sa sn sc pl):=TreeF.mk kids_none h
theorem leafC_none {w:World} {ok:Nat→Prop} {op rune pl:Int}:TreeF w ok (leafT op rune [] pl) (leafC op rune none 0 0 pl):=leafC_tree set_none
theorem syn_set_no (sa:Option Addr) (c:Nat) (w:World) :
    Calls Tryz.prog 59 #[.slice sa 0 c] w fun e w'=>e = .returned (.agg (leafC 1 0 none 0 0 0).toArray)∧Below w.heap.size w w':=by
  go_enter Tryz.func59, Tryz.ntmps59
  go_wp2_with fail
  refine ⟨rfl,.agg (leafC 1 0 none 0 0 0).toArray,?_,rfl,(Below.refl _ w).alloc (Nat.le_refl _) _⟩
  simp [results,Tryz.results59,go_sem,leafC]
theorem syn_set_some (sa:Option Addr) (n c:Nat) (hn:((n:Int) == 0)=false) (w:World) :
    Calls Tryz.prog 59 #[.slice sa n c] w fun e w'=>e = .returned (.agg (leafC 4 0 sa n c 0).toArray)∧Below w.heap.size w w':=by
  go_enter Tryz.func59, Tryz.ntmps59
  go_wp2_with fail
  refine ⟨rfl,.agg (leafC 4 0 sa n c 0).toArray,?_,rfl,(Below.refl _ w).alloc (Nat.le_refl _) _⟩
  simp [results,Tryz.results59,go_sem,leafC]
theorem syn_set (rs:List (Int × Int)) (sa:Option Addr) (n c:Nat) (ok:Nat→Prop) (w:World) (h:SetF w ok rs sa n c) (hok:∀ k,ok k→k < w.heap.size) :
    Calls Tryz.prog 59 #[.slice sa n c] w fun e w'=>∃ cs,e = .returned (.agg cs.toArray)∧TreeF w' ok (setT rs) cs∧Below w.heap.size w w':=by
  obtain rfl:=h.1
  by_cases h0:rs.length=0
  · rw [h0]
    refine (syn_set_no sa c w).mono ?_
    rintro e w' ⟨rfl,hB⟩
    refine ⟨_,rfl,?_,hB⟩
    unfold setT
    rw [if_pos h0]
    exact leafC_none
  · refine (syn_set_some sa rs.length c (by simpa using h0) w).mono ?_
    rintro e w' ⟨rfl,hB⟩
    refine ⟨_,rfl,?_,hB⟩
    unfold setT
    rw [if_neg h0]
    exact leafC_tree (h.turned (fun k hk=>hB.block k (hok k hk)) (fun _ h=>h))
def kidsC (op:Int) (a:Option Addr) (n c:Nat):List Value:=[.int .i64 op,.slice a n c,.int .i32 0,.slice none 0 0,.int .i64 0,.int .i64 0,.string ⟨#[]⟩,.int .i64 0,.int .i64 0,.bool false]
theorem kidsC_tree {w:World} {ok:Nat→Prop} {op:Int} {l:List T} {a:Option Addr} {n c:Nat} (h:KidsS w ok l a n c):TreeF w ok (kidsT op l) (kidsC op a n c):=TreeF.mk h set_none
theorem KidsS.turned {w w':World} {ok ok':Nat→Prop} {l:List T} {a:Option Addr} {n c:Nat} (h:KidsS w ok l a n c) (hb:∀ b,ok b→w'.heap[b]? = w.heap[b]?) (hk:∀ b,ok b→ok' b):KidsS w' ok' l a n c:=by
  obtain ⟨h1,h2,h3⟩:=h
  refine ⟨h1,h2,?_⟩
  rcases h3 with h3 | ⟨b,o,e,hb',hr⟩
  · exact .inl h3
  · exact .inr ⟨b,o,e,hk b hb',hr.turned hb hk (hb b hb')⟩
theorem syn_cat_no (a:Option Addr) (c:Nat) (w:World) :
    Calls Tryz.prog 33 #[.slice a 0 c] w fun e w'=>e = .returned (.agg (leafC 2 0 none 0 0 0).toArray)∧Below w.heap.size w w':=by
  go_enter Tryz.func33, Tryz.ntmps33
  go_wp2_with fail
  refine ⟨rfl,.agg (leafC 2 0 none 0 0 0).toArray,?_,rfl,(Below.refl _ w).alloc (Nat.le_refl _) _⟩
  simp [results,Tryz.results33,go_sem,leafC]
theorem syn_cat_one (b o c:Nat) (w:World) (op:Int) (ka:Option Addr) (kn kc:Nat) (rune:Int) (sa:Option Addr) (sn sc:Nat) (pl cap:Int) (name:ByteArray) (mn mx:Int) (lz:Bool) (hb:b < w.heap.size) (h:RowAt w b o [.int .i64 op,.slice ka kn kc,.int .i32 rune,.slice sa sn sc,.int .i64 pl,.int .i64 cap,.string name,.int .i64 mn,.int .i64 mx,.bool lz]) :
    Calls Tryz.prog 33 #[.slice (some ⟨b,o,none⟩) 1 c] w fun e w'=>e = .returned (.agg #[.int .i64 op,.slice ka kn kc,.int .i32 rune,.slice sa sn sc,.int .i64 pl,.int .i64 cap,.string name,.int .i64 mn,.int .i64 mx,.bool lz])∧Below w.heap.size w w':=by
  have hr':=(RowAt.turned h (Below.heap_alloc w (.cells #[.int .i64 0,.slice none 0 0,.int .i32 0,.slice none 0 0,.int .i64 0,.int .i64 0,.string ⟨#[]⟩,.int .i64 0,.int .i64 0,.bool false] 29) b hb)).ten
  obtain ⟨g0,g1,g2,g3,g4,g5,g6,g7,g8,g9⟩:=hr'
  clear h
  go_enter Tryz.func33, Tryz.ntmps33
  go_wp2_with fail
  refine ⟨rfl,.agg #[.int .i64 op,.slice ka kn kc,.int .i32 rune,.slice sa sn sc,.int .i64 pl,.int .i64 cap,.string name,.int .i64 mn,.int .i64 mx,.bool lz],?_,rfl,(Below.refl _ w).alloc (Nat.le_refl _) _⟩
  simp [results,Tryz.results33,go_sem]
theorem syn_cat_more (a:Option Addr) (n c:Nat) (h0:((n:Int) == 0)=false) (h1:((n:Int) == 1)=false) (w:World) :
    Calls Tryz.prog 33 #[.slice a n c] w fun e w'=>e = .returned (.agg (kidsC 11 a n c).toArray)∧Below w.heap.size w w':=by
  go_enter Tryz.func33, Tryz.ntmps33
  go_wp2_with fail
  refine ⟨rfl,.agg (kidsC 11 a n c).toArray,?_,rfl,(Below.refl _ w).alloc (Nat.le_refl _) _⟩
  simp [results,Tryz.results33,go_sem,kidsC]
theorem syn_cat (l:List T) (a:Option Addr) (n c:Nat) (ok:Nat→Prop) (w:World) (h:KidsS w ok l a n c) (hok:∀ k,ok k→k < w.heap.size) :
    Calls Tryz.prog 33 #[.slice a n c] w fun e w'=>∃ cs,e = .returned (.agg cs.toArray)∧TreeF w' ok (catT l) cs∧Below w.heap.size w w':=by
  obtain rfl:=h.1
  match l,h with
  | [],h=>
    refine (syn_cat_no a c w).mono ?_
    rintro e w' ⟨rfl,hB⟩
    exact ⟨_,rfl,leafC_none,hB⟩
  | [t],h=>
    obtain ⟨b,o,rfl,hb,hk⟩:=h.2.2.resolve_left (by simp)
    obtain ⟨⟨cs,ht,hr⟩,_⟩:=KidsF.cons.1 hk
    obtain ⟨op,ka,kn,kc,rune,sa,sn,sc,pl,cap,name,mn,mx,lz,rfl⟩:=ht.form
    refine (syn_cat_one b o c w op ka kn kc rune sa sn sc pl cap name mn mx lz (hok b hb) hr).mono ?_
    rintro e w' ⟨rfl,hB⟩
    exact ⟨_,rfl,ht.turned (fun k hk=>hB.block k (hok k hk)) (fun _ h=>h),hB⟩
  | x :: y :: r,h=>
    refine (syn_cat_more a _ c (by simp;omega) (by simp;omega) w).mono ?_
    rintro e w' ⟨rfl,hB⟩
    exact ⟨_,rfl,kidsC_tree (h.turned (fun k hk=>hB.block k (hok k hk)) (fun _ h=>h)),hB⟩
end Go.Proofs.YtnhnldmldnhaoaaGreatDoor
namespace Go.Proofs.YtnhnldmldnhaoaaGreatDoor
open Go Go.RowKit Go.Proofs Go.Shelf
theorem infoTree:(Tryz.prog.info? 29).map (fun i=>(i.zero,i.size,i.bytes))=some (some (.agg zero10.toArray),10,120):=by kernel_rfl
abbrev Fresh (w w':World) (k:Nat):Prop:=w.heap.size≤k∧k < w'.heap.size
def ListOut (w w':World) (ts:List T) (v:Value):Prop:=∃ xs,w'.ownsRow w.heap.size 29 10 v ts.length xs∧TreesF w' (fun k=>Fresh w w' k∧v.ownBlock≠some k) ts xs
theorem row_one {W:World} {cs:List Value} (hl:cs.length=10) {base:Nat} (hb:base≤W.heap.size):(W.alloc (.cells cs.toArray 29)).ownsRow base 29 10 (.slice (some ⟨W.heap.size,0,none⟩) 1 1) 1 cs:=
  ⟨by rw [hl],.inr ⟨W.heap.size,1,_,rfl,hb,World.alloc_heap_new W _,Nat.le_refl _,by decide,by simpa using hl,by rw [List.take_of_length_le (by simp [hl])]⟩⟩
theorem list_one {w W:World} {t:T} {cs:List Value} (h:TreeF W (fun k=>Fresh w W k) t cs) (hb:Below w.heap.size w W):ListOut w (W.alloc (.cells cs.toArray 29)) [t] (.slice (some ⟨W.heap.size,0,none⟩) 1 1):=
  ⟨cs,row_one h.length hb.size,TreesF.single (h.turned (fun k hk=>Below.heap_alloc W _ k hk.2) (fun k hk=>⟨⟨hk.1,by rw [World.size_alloc];have:=hk.2;omega⟩,fun e=>by have e2:W.heap.size=k:=Option.some.inj e;have:=hk.2;omega⟩))⟩
theorem syn_place (b:Nat) (s:ByteArray) (f:Int) (p:Nat) (nv:Value) (line whole:Int) (w:World) (h:SyR w b s f p nv) :
    Calls Tryz.prog 83 #[.pointer (some ⟨b,0,none⟩),.int .i64 line,.int .i64 whole] w fun e w'=>∃ v,e = .returned v∧ListOut w w' [leafT 5 0 [] (if onB f 4=true then line else whole)] v∧Below w.heap.size w w':=by
  have g0:=Blk.cell h (j:=0) rfl
  clear h
  obtain ⟨V,hV⟩:∃ V,V=(if onB f 4=true then line else whole):=⟨_,rfl⟩
  rw [← hV]
  have HV:=hid hV
  clear hV
  go_enter Tryz.func83, Tryz.ntmps83
  go_wp2_with fail
  refine (syn_on f 4 _).mono ?_
  rintro e w1 ⟨rfl,hB⟩
  have B1:=hid hB
  clear hB g0
  have hmm:onB f 4=true∨onB f 4=false:=by cases onB f 4 <;> simp
  rcases hmm with hm | hm
  · rw [hm]
    obtain rfl:V=line:=by rw [HV.out,if_pos hm]
    go_wp2_with fail
    go_ret
    exact ⟨_,rfl,list_one (cs:=leafC 5 0 none 0 0 V) leafC_none B1.out,B1.out.alloc B1.out.size _⟩
  · rw [hm]
    obtain rfl:V=whole:=by rw [HV.out,if_neg (by simp [hm])]
    go_wp2_with fail
    go_ret
    exact ⟨_,rfl,list_one (cs:=leafC 5 0 none 0 0 V) leafC_none B1.out,B1.out.alloc B1.out.size _⟩
def RowF (W:World) (base:Nat) (av:Nat→Prop) (ts:List T) (v:Value) (xs:List Value):Prop:=
  W.ownsRow base 29 10 v ts.length xs∧TreesF W (fun k=>(base≤k∧k < W.heap.size∧¬ av k)∧v.ownBlock≠some k) ts xs∧∀ k,v.ownBlock=some k→¬ av k
theorem RowF.nil (W:World) (base:Nat) (av:Nat→Prop):RowF W base av [] (.slice none 0 0) []:=⟨World.ownsRow_nil _ _ _ _,rfl,fun _ h=>by cases h⟩
theorem ownsRow_kept {w w':World} {base:Nat} {e:TypeId} {sz n:Nat} {v:Value} {xs:List Value} (h:w.ownsRow base e sz v n xs) (hb:∀ g,v.ownBlock=some g→w'.heap[g]? = w.heap[g]?):w'.ownsRow base e sz v n xs:=by
  obtain ⟨h1,h2⟩:=h
  refine ⟨h1,?_⟩
  rcases h2 with h2 | ⟨g,cap,cur,rfl,hb',hgg,hr⟩
  · exact .inl h2
  · refine .inr ⟨g,cap,cur,rfl,hb',?_,hr⟩
    rw [hb g rfl];exact hgg
theorem RowF.keep {W W':World} {base:Nat} {av av':Nat→Prop} {ts:List T} {v:Value} {xs:List Value} (h:RowF W base av ts v xs) (hz:W.heap.size≤W'.heap.size)
    (hk:∀ k,base≤k→k < W.heap.size→¬ av k→W'.heap[k]? = W.heap[k]?∧¬ av' k):RowF W' base av' ts v xs:=by
  obtain ⟨h1,h2,h3⟩:=h
  have hl:=h1.lt
  refine ⟨ownsRow_kept h1 fun g hg=>(hk g (hl g hg).1 (hl g hg).2 (h3 g hg)).1,h2.turned (fun k hok=>(hk k hok.1.1 hok.1.2.1 hok.1.2.2).1) (fun k hok=>⟨⟨hok.1.1,Nat.lt_of_lt_of_le hok.1.2.1 hz,(hk k hok.1.1 hok.1.2.1 hok.1.2.2).2⟩,hok.2⟩),fun k hk'=>(hk k (hl k hk').1 (hl k hk').2 (h3 k hk')).2⟩
theorem RowF.below {W W':World} {base:Nat} {av:Nat→Prop} {ts:List T} {v:Value} {xs:List Value} (h:RowF W base av ts v xs) (hb:Below W.heap.size W W'):RowF W' base av ts v xs:=
  h.keep hb.size fun k _ hk ha=>⟨hb.block k hk,ha⟩
theorem RowF.push {W W':World} {base:Nat} {av:Nat→Prop} {ts us:List T} {v v':Value} {xs ys:List Value} (h:RowF W base av ts v xs) (hu:TreesF W (fun k=>(base≤k∧k < W.heap.size∧¬ av k)∧v.ownBlock≠some k) us ys)
    (ho:W'.ownsRow base 29 10 v' (ts.length+us.length) (xs ++ ys)) (hg:W.grownBy W' v.ownBlock) (hat:v'.ownBlock=v.ownBlock∨v'.ownBlock=some W.heap.size) (hav:¬ av W.heap.size):RowF W' base av (ts ++ us) v' (xs ++ ys):=by
  have hne:∀ k,k < W.heap.size→v.ownBlock≠some k→v'.ownBlock≠some k:=by
    intro k hk h1 e
    rcases hat with h2 | h2
    · exact h1 (by rw [← h2];exact e)
    · rw [h2] at e;cases e;omega
  have key:∀ {l:List T} {zs:List Value},TreesF W (fun k=>(base≤k∧k < W.heap.size∧¬ av k)∧v.ownBlock≠some k) l zs→TreesF W' (fun k=>(base≤k∧k < W'.heap.size∧¬ av k)∧v'.ownBlock≠some k) l zs:=
    fun hl=>hl.turned (fun k hk=>hg.block k hk.1.2.1 (fun e=>hk.2 e.symm)) (fun k hk=>⟨⟨hk.1.1,Nat.lt_of_lt_of_le hk.1.2.1 hg.size,hk.1.2.2⟩,hne k hk.1.2.1 hk.2⟩)
  refine ⟨by rw [List.length_append];exact ho,(key h.2.1).append (key hu),fun k hk=>?_⟩
  rcases hat with h2 | h2
  · exact h.2.2 k (by rw [← h2];exact hk)
  · rw [h2] at hk;cases hk;exact hav
theorem cells_new (w:World) (cs:List Value) (t:TypeId):∀ j u,cs[j]? = some u→(w.alloc (.cells cs.toArray t)).cell? ((⟨w.heap.size,0,none⟩:Addr).add j)=some u:=by
  intro j u hj
  have e:(⟨w.heap.size,0,none⟩:Addr).add j=⟨w.heap.size,j,none⟩:=by unfold Addr.add;split <;> simp_all
  rw [e]
  exact Blk.cell (Blk.new w cs t) hj
theorem Blk.same {w w':World} {b:Nat} {cs:List Value} {t:TypeId} (h:Blk w b cs t) (e:w'.heap[b]? = w.heap[b]?):Blk w' b cs t:=by
  unfold Blk at h ⊢
  rw [e];exact h
theorem RowF.list {w W:World} {base:Nat} {av:Nat→Prop} {ts:List T} {v:Value} {xs:List Value} (h:RowF W base av ts v xs) (hb:w.heap.size≤base):ListOut w W ts v:=
  ⟨xs,Joins.ownsRow_le h.1 hb,h.2.1.turned (fun _ _=>rfl) (fun _ hk=>⟨⟨Nat.le_trans hb hk.1.1,hk.1.2.1⟩,hk.2⟩)⟩
end Go.Proofs.YtnhnldmldnhaoaaGreatDoor
namespace Go.Proofs.YtnhnldmldnhaoaaGreatDoor
open Go Go.RowKit Go.Proofs Go.Shelf
theorem not_is (n:Int) (W:World):Calls Tryz.prog 142 #[.int .i64 n] W fun e w'=>e = .returned (.bool (decide (n=0)))∧Below W.heap.size W w':=by
  go_enter Tryz.func142, Tryz.ntmps142
  go_wp2
  go_ret
  exact ⟨by by_cases h:n=0 <;> simp [h],Below.refl _ _⟩
theorem sets_Not (rs:List (Int × Int)) (sa:Option Addr) (sn sc B:Nat) (w:World) (h:RangesV w B rs sa sn sc) (hB:B≤w.heap.size) (hN:rs.length≤1000000000000) :
    Calls Tryz.prog 109 #[.slice sa sn sc] w (SetOf w (fun c=>!memR rs c) (2 * rs.length+1)):=by
  have hl:=ListsAt.one hB h 26
  have hee:Calls Tryz.prog 87 #[.slice (some ⟨w.heap.size,0,none⟩) 1 1] (w.alloc (.cells #[.slice sa sn sc] 26)) _:=edges_any [rs] w.heap.size 1 B (w.alloc (.cells #[.slice sa sn sc] 26)) hl (by simp) (by simp;omega) (by simp) (by have:=edgesOf_length [rs];simp at this;omega)
  have HE:=hid hee;clear hee hl
  go_enter Tryz.func109, Tryz.ntmps109
  go_wp2_with fail
  refine (HE.out).mono ?_
  rintro e w1 ⟨v,es,rfl,hp,hs,hrow,hb⟩
  obtain ⟨ea,ec,rfl,hv⟩:=EdgesV.of_row hrow
  obtain ⟨s1,s2,s3,s4⟩:=swept (fun n=>decide (n=0)) [rs] es hp hs
  have hel:es.length≤4000000000000:=by have:=hp.length_eq;have h2:=edgesOf_length [rs];simp at h2;omega
  have hth:=those_any (fun n=>decide (n=0)) 142 (enters_of Tryz.func142 (by kernel_rfl) rfl) not_is es ea ec w1.heap.size w1 hv (Nat.le_refl _) s4 hel
  have HT:=hid hth
  have HS:=hid (And.intro s1 (And.intro s2 s3));have HB:=hid hb
  clear hth s1 s2 s3 s4 hp hs hrow hb hv hel
  go_wp2_with fail
  refine (HT.out).mono ?_
  rintro e w2 ⟨v,rfl,hrow2,hb2⟩
  have HR2:=hid hrow2;have HB2:=hid hb2
  clear hrow2 hb2
  go_wp2_with fail
  have hb0:Below w.heap.size w w1:=((Below.refl _ w).alloc (Nat.le_refl _) _).trans (HB.out.mono (by simp))
  go_ret
  refine ⟨v,_,rfl,?_,HS.out.1,?_,?_,hb0.trans (HB2.out.mono hb0.size)⟩
  · exact Joins.ownsRow_le HR2.out hb0.size
  · intro c;rw [HS.out.2.1];simp only [List.flatten_cons,List.flatten_nil,List.append_nil,coverN_zero]
  · have:=HS.out.2.2;simpa using this
end Go.Proofs.YtnhnldmldnhaoaaGreatDoor
namespace Go.Proofs.YtnhnldmldnhaoaaGreatDoor
open Go Go.RowKit Go.Proofs Go.Shelf
def IsSet (out:List (Int × Int)) (p:Int→Bool):Prop:=setRight out=true∧∀ c,memR out c=(decide (0≤c) && decide (c≤1114111) && p c)
theorem IsSet.unique {a b:List (Int × Int)} {p:Int→Bool} (ha:IsSet a p) (hb:IsSet b p):a=b:=set_unique ha.1 hb.1 fun c=>by rw [ha.2,hb.2]
theorem IsSet.of_right {l:List (Int × Int)} (h:setRight l=true):IsSet l (memR l):=by
  refine ⟨h,fun c=>?_⟩
  cases hx:memR l c with
  | false=>simp
  | true=>
    have:=memR_bound h hx
    rw [decide_eq_true (show 0≤c by omega),decide_eq_true this.2];rfl
theorem IsSet.congr {a:List (Int × Int)} {p q:Int→Bool} (ha:IsSet a p) (h:∀ c,0≤c→c≤1114111→p c=q c):IsSet a q:=by
  refine ⟨ha.1,fun c=>?_⟩
  rw [ha.2]
  by_cases h0:0≤c∧c≤1114111
  · rw [h c h0.1 h0.2]
  · have:(decide (0≤c) && decide (c≤1114111))=false:=by
      rw [Bool.and_eq_false_iff,decide_eq_false_iff_not,decide_eq_false_iff_not];omega
    simp [this]
theorem turned_keep (sa:Option Addr) (sn sc b5 b3:Nat) (w:World) (h5:Boxed w b5 4 (.bool false)) (h3:Boxed w b3 26 (.slice sa sn sc)) :
    Calls Tryz.prog 186 #[.pointer (some ⟨b5,0,none⟩),.pointer (some ⟨b3,0,none⟩)] w fun e w'=>e = .returned (.slice sa sn sc)∧Below w.heap.size w w':=by
  have u5:=h5.cell;have u3:=h3.cell
  clear h5 h3
  go_enter Tryz.func186, Tryz.ntmps186
  go_wp2_with fail
  go_ret
  exact ⟨rfl,Below.refl _ _⟩
theorem turned_turn (rs:List (Int × Int)) (sa:Option Addr) (sn sc b5 b3 B:Nat) (w:World) (h5:Boxed w b5 4 (.bool true)) (h3:Boxed w b3 26 (.slice sa sn sc)) (h:RangesV w B rs sa sn sc) (hB:B≤w.heap.size) (hN:rs.length≤1000000000000) :
    Calls Tryz.prog 186 #[.pointer (some ⟨b5,0,none⟩),.pointer (some ⟨b3,0,none⟩)] w (SetOf w (fun c=>!memR rs c) (2 * rs.length+1)):=by
  have u5:=h5.cell;have u3:=h3.cell
  have HN:=hid (sets_Not rs sa sn sc B w h hB hN)
  clear h5 h3 h
  go_enter Tryz.func186, Tryz.ntmps186
  go_wp2_with fail
  refine (HN.out).mono ?_
  rintro e w1 ⟨v,out,rfl,hh⟩
  have H:=hid hh;clear hh
  go_wp2_with fail
  go_ret
  exact ⟨v,out,rfl,H.out⟩
theorem turned_no (sa:Option Addr) (sn sc:Nat) (nb:Bool) (w:World) :
    Calls Tryz.prog 161 #[.slice sa sn sc,.bool false,.bool nb] w fun e w'=>e = .returned (.tuple #[.slice none 0 0,.bool false])∧Below w.heap.size w w':=by
  go_enter Tryz.func161, Tryz.ntmps161
  go_wp2_with fail
  go_ret2
  exact ⟨rfl,((Below.refl _ w).alloc (Nat.le_refl _) _).alloc (by simp) _⟩
theorem turned_boxes (w:World) (v:Value) (nb:Bool):Boxed ((w.alloc (.cells #[v] 26)).alloc (.cells #[.bool nb] 4)) w.heap.size 26 v∧Boxed ((w.alloc (.cells #[v] 26)).alloc (.cells #[.bool nb] 4)) (w.heap.size+1) 4 (.bool nb)∧
    Below w.heap.size w ((w.alloc (.cells #[v] 26)).alloc (.cells #[.bool nb] 4)):=by
  refine ⟨(Boxed.new w 26 v).alloc _,?_,((Below.refl _ w).alloc (Nat.le_refl _) _).alloc (by simp) _⟩
  have:=Boxed.new (w.alloc (.cells #[v] 26)) 4 (.bool nb)
  rw [World.size_alloc] at this;exact this
theorem turned_same (sa:Option Addr) (sn sc:Nat) (w:World) :
    Calls Tryz.prog 161 #[.slice sa sn sc,.bool true,.bool false] w fun e w'=>e = .returned (.tuple #[.slice sa sn sc,.bool true])∧Below w.heap.size w w':=by
  obtain ⟨b1,b2,b3⟩:=turned_boxes w (.slice sa sn sc) false
  have HC:=hid (turned_keep sa sn sc (w.heap.size+1) w.heap.size _ b2 b1)
  have HB:=hid b3
  clear b1 b2 b3
  go_enter Tryz.func161, Tryz.ntmps161
  go_wp2_with fail
  refine (HC.out).mono ?_
  rintro e w1 ⟨rfl,hb⟩
  have HB1:=hid hb;clear hb
  go_wp2_with fail
  go_ret2
  exact ⟨rfl,HB.out.trans (HB1.out.mono HB.out.size)⟩
def TurnR (w:World) (p:Int→Bool) (N:Nat) (e:Ending) (w':World):Prop:=
  ∃ v out,e = .returned (.tuple #[v,.bool true])∧Laid w w' out v∧IsSet out p∧out.length≤N∧Below w.heap.size w w'
theorem turned_not (rs:List (Int × Int)) (sa:Option Addr) (sn sc B:Nat) (w:World) (h:RangesV w B rs sa sn sc) (hB:B≤w.heap.size) (hN:rs.length≤1000000000000) :
    Calls Tryz.prog 161 #[.slice sa sn sc,.bool true,.bool true] w (TurnR w (fun c=>!memR rs c) (2 * rs.length+1)):=by
  obtain ⟨b1,b2,b3⟩:=turned_boxes w (.slice sa sn sc) true
  have HC:=hid (turned_turn rs sa sn sc (w.heap.size+1) w.heap.size B _ b2 b1 (h.below (b3.mono hB)) (Nat.le_trans hB b3.size) hN)
  have HB:=hid b3
  clear b1 b2 b3 h
  go_enter Tryz.func161, Tryz.ntmps161
  go_wp2_with fail
  refine (HC.out).mono ?_
  rintro e w1 ⟨v,out,rfl,h1,h2,h3,h4,h5⟩
  have H:=hid (And.intro h1 (And.intro h2 (And.intro h3 (And.intro h4 h5))))
  clear h1 h2 h3 h4 h5
  go_wp2_with fail
  go_ret2
  obtain ⟨h1,h2,h3,h4,h5⟩:=H.out
  exact ⟨v,out,rfl,Joins.ownsRow_le h1 HB.out.size,⟨h2,h3⟩,h4,HB.out.trans (h5.mono HB.out.size)⟩
theorem dot_all (w:World):Calls Tryz.prog 82 #[.bool true] w (SetOf w (fun _=>true) 1):=by
  have HN:=hid (sets_Not [] none 0 0 w.heap.size w (RangesV.nil w _) (Nat.le_refl _) (by simp))
  go_enter Tryz.func82, Tryz.ntmps82
  go_wp2_with fail
  refine (HN.out).mono ?_
  rintro e w1 ⟨v,out,rfl,h1,h2,h3,h4,h5⟩
  have H:=hid (And.intro h1 (And.intro h2 (And.intro h3 (And.intro h4 h5))))
  clear h1 h2 h3 h4 h5
  go_wp2_with fail
  go_ret
  obtain ⟨h1,h2,h3,h4,h5⟩:=H.out
  exact ⟨v,out,rfl,h1,h2,fun c=>by rw [h3];simp [memR],by simpa using h4,h5⟩
theorem dot_line (w:World):Calls Tryz.prog 82 #[.bool false] w (SetOf w (fun c=>decide (c≠10)) 3):=by
  have hr:RangesAt (w.alloc (.cells (flatR [(10,10)]).toArray 61)) [(10,10)] w.heap.size 0:=RangesAt.of_cells _ 0 fun j hj=>⟨by rw [Nat.zero_add];exact (Blk.new w (flatR [(10,10)]) 61).cell (flatR_get _ j hj).1,by rw [Nat.zero_add];exact (Blk.new w (flatR [(10,10)]) 61).cell (flatR_get _ j hj).2⟩
  have hb:=(Below.refl w.heap.size w).alloc (Nat.le_refl _) (.cells (flatR [(10,10)]).toArray 61)
  have HN:=hid (sets_Not [(10,10)] (some ⟨w.heap.size,0,none⟩) 1 1 (w.heap.size+1) _ ⟨rfl,⟨Nat.le_refl _,by omega⟩,.inr ⟨_,_,rfl,by omega,hr⟩⟩ (by simp) (by simp))
  have HB:=hid hb
  clear hr hb
  go_enter Tryz.func82, Tryz.ntmps82
  go_wp2_with fail
  refine (HN.out).mono ?_
  rintro e w1 ⟨v,out,rfl,h1,h2,h3,h4,h5⟩
  have H:=hid (And.intro h1 (And.intro h2 (And.intro h3 (And.intro h4 h5))))
  clear h1 h2 h3 h4 h5
  go_wp2_with fail
  go_ret
  obtain ⟨h1,h2,h3,h4,h5⟩:=H.out
  refine ⟨v,out,rfl,Joins.ownsRow_le h1 HB.out.size,h2,fun c=>?_,by simpa using h4,HB.out.trans (h5.mono HB.out.size)⟩
  rw [h3]
  congr 1
  simp only [memR,List.any_cons,List.any_nil,Bool.or_false]
  rw [Bool.eq_iff_iff];simp;omega
end Go.Proofs.YtnhnldmldnhaoaaGreatDoor
