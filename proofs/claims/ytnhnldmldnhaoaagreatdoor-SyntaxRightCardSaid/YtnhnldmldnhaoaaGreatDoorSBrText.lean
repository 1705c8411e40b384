/- The reader of layer 7: what is left, what is next. -/
import Derived.Test.YtnhnldmldnhaoaaGreatDoorSScan1
import Derived.Test.YtnhnldmldnhaoaaGreatDoorSEscGo
import Derived.RegionDies
import Derived.Deep.RegionHeld3
set_option maxRecDepth 100000
set_option maxHeartbeats 16000000
open Go.Lib (hid)
namespace Go.Proofs.YtnhnldmldnhaoaaGreatDoor
open Go Go.RowKit Go.Proofs
theorem br_rest_q (b:Nat) (s:ByteArray) (p:Nat) (rest:List Value) (t:TypeId) (w:World) (h:Rd w b s p rest t) (hp:p≤s.size) :
    Calls Tryz.prog 138 #[.pointer (some ⟨b,0,none⟩)] w fun e w'=>e = .returned (.string (tail s p))∧∃ n,w'=w.drewN n:=by
  have h0:=h.c0
  have h1:=h.c1
  clear h
  have hq:(p:Int)≤(s.size:Int):=by omega
  go_enter Tryz.func138, Tryz.ntmps138
  go_wp2_with fail
  go_quiet (fail)
  go_wp2_with fail
  go_ret
  exact ⟨rfl,_,rfl⟩
theorem br_rest (b:Nat) (s:ByteArray) (p:Nat) (rest:List Value) (t:TypeId) (w:World) (h:Rd w b s p rest t) (hp:p≤s.size) :
    Calls Tryz.prog 138 #[.pointer (some ⟨b,0,none⟩)] w fun e w'=>e = .returned (.string (tail s p))∧Rd w' b s p rest t∧Below w.heap.size w w':=
  (br_rest_q b s p rest t w h hp).mono fun _ _ ⟨he,n,hw⟩=>⟨he,by rw [hw];exact Blk.drewN h n,by rw [hw];exact below_drewN (Below.refl _ _) n⟩
theorem br_has_yes (b:Nat) (s p:ByteArray) (i:Nat) (rest:List Value) (t:TypeId) (w:World) (h:Rd w b s i rest t) (hi:i≤s.size) (hs:s.size≤1000000000000000)
    (hy:stands s i p.data.toList=true) :
    Calls Tryz.prog 106 #[.pointer (some ⟨b,0,none⟩),.string p] w fun e w'=>e = .returned (.bool true)∧Rd w' b s (i+p.size) rest t∧w.grownBy w' (some b):=by
  have hp:=stands_le hi hy
  have HY:=hid hy;clear hy
  have HR:=hid h;clear h
  go_enter Tryz.func106, Tryz.ntmps106
  go_wp2_with fail
  refine (br_rest b s i rest t _ HR.out hi).mono ?_
  rintro e w1 ⟨rfl,hR,hB⟩
  have HR1:=hid hR;clear hR
  have HB:=hid hB;clear hB
  go_wp2_with fail
  refine (Tryz.strings_HasPrefix _ _ _).mono ?_
  rintro e w1 ⟨rfl,rfl⟩
  rw [tail_toList,show Lib.hasPrefix (List.drop i s.data.toList) p.data.toList=true from HY.out]
  have h1:=HR1.out.c1
  have f1:=HR1.out.f1
  go_wp2_with fail
  go_ret
  refine ⟨rfl,?_,grownBy_trans (grownBy_below HB.out _) (grownBy_setCell _ _ _ _)⟩
  rw [← Int.natCast_add]
  exact Rd.move HR1.out _
theorem br_has_no (b:Nat) (s p:ByteArray) (i:Nat) (rest:List Value) (t:TypeId) (w:World) (h:Rd w b s i rest t) (hi:i≤s.size)
    (hy:stands s i p.data.toList=false) :
    Calls Tryz.prog 106 #[.pointer (some ⟨b,0,none⟩),.string p] w fun e w'=>e = .returned (.bool false)∧Rd w' b s i rest t∧w.grownBy w' (some b):=by
  have HY:=hid hy;clear hy
  have HR:=hid h;clear h
  go_enter Tryz.func106, Tryz.ntmps106
  go_wp2_with fail
  refine (br_rest b s i rest t _ HR.out hi).mono ?_
  rintro e w1 ⟨rfl,hR,hB⟩
  have HR1:=hid hR;clear hR
  have HB:=hid hB;clear hB
  go_wp2_with fail
  refine (Tryz.strings_HasPrefix _ _ _).mono ?_
  rintro e w1 ⟨rfl,rfl⟩
  rw [tail_toList,show Lib.hasPrefix (List.drop i s.data.toList) p.data.toList=false from HY.out]
  go_wp2_with fail
  go_ret
  exact ⟨rfl,HR1.out,grownBy_below HB.out _⟩
end Go.Proofs.YtnhnldmldnhaoaaGreatDoor
namespace Go.Proofs.YtnhnldmldnhaoaaGreatDoor
open Go Go.RowKit Go.Proofs Go.Shelf
abbrev wrongV (e f t:Int):Value:=.agg #[.int .i64 e,.int .i64 f,.int .i64 t]
abbrev wrongE (e f t:Int):Ending:=.panicked [{ v:=.iface 32 (wrongV e f t),recovered:=false }]
theorem br_stop (e f t:Int) (w:World):Calls Tryz.prog 141 #[.int .i64 e,.int .i64 f,.int .i64 t] w fun en w'=>en=wrongE e f t∧w'=w:=by
  go_enter Tryz.func141, Tryz.ntmps141
  go_wp2
  exact ⟨rfl,rfl,rfl⟩
theorem tail_nil {s:ByteArray} {p:Nat} (h:s.size≤p):tail s p=⟨#[]⟩:=by
  apply ByteArray.ext
  apply Array.toList_inj.1
  rw [tail_toList,List.drop_eq_nil_of_le (by simpa using h)]
abbrev BrR (w:World) (b:Nat) (s:ByteArray) (p:Nat) (fr:Int) (perl:Bool):Prop:=Rd w b s p [.int .i64 fr,.bool perl] 159
theorem one_end (b:Nat) (s:ByteArray) (p:Nat) (fr:Int) (perl:Bool) (w:World) (h:BrR w b s p fr perl) (hp:p=s.size) :
    Calls Tryz.prog 140 #[.pointer (some ⟨b,0,none⟩)] w fun e w'=>e=wrongE 71 fr s.size∧w.grownBy w' (some b):=by
  have HR:=hid (show BrR (w.alloc (.cells #[.int .i64 0,.int .i32 0,.slice none 0 0,.int .i64 0] 150)) b s p fr perl from Blk.alloc h _)
  have ht:=tail_nil (s:=s) (p:=p) (by omega)
  clear h
  go_enter Tryz.func140, Tryz.ntmps140
  go_wp2_with fail
  refine (br_rest b s p _ _ _ HR.out (by omega)).mono ?_
  rintro e w1 ⟨rfl,hR,hB⟩
  have R1:=hid hR;have B1:=hid hB;clear hR hB
  rw [ht]
  have g0:=Rd.c0 R1.out
  have g1:w1.cell? ⟨b,2,none⟩=some (.int .i64 fr):=Blk.cell R1.out rfl
  go_wp2_with fail
  go_region_dies
  all_goals
    go_at_call 141
    refine (br_stop _ _ _ _).mono ?_
    rintro e w9 ⟨rfl,rfl⟩
    exact ⟨rfl,rfl,grownBy_trans (grownBy_alloc w _ _) (grownBy_trans (grownBy_below B1.out _) (grownBy_drew _ _))⟩
end Go.Proofs.YtnhnldmldnhaoaaGreatDoor
namespace Go.Proofs.YtnhnldmldnhaoaaGreatDoor
open Go Go.RowKit Go.Proofs Go.Shelf
theorem cut_toList (s:ByteArray) (p:Nat) (x:List UInt8) (h:stands s p x=true):(⟨(Lib.trimPrefix (tail s p).data.toList x).toArray⟩:ByteArray)=tail s (p+x.length):=by
  apply ByteArray.ext
  apply Array.toList_inj.1
  rw [tail_toList,tail_toList]
  unfold stands at h
  simp only [Lib.trimPrefix,h,if_true,List.drop_drop]
theorem trim_tail (s:ByteArray) (p:Nat) (cs:List UInt8):(⟨(Lib.trimLeftS (tail s p).data.toList cs).toArray⟩:ByteArray)=tail s (p+(runP s p cs).length):=by
  apply ByteArray.ext
  apply Array.toList_inj.1
  rw [tail_toList,tail_toList]
  unfold Lib.trimLeftS runP
  have h:=List.takeWhile_append_dropWhile (p:=fun x=>cs.contains x) (l:=s.data.toList.drop p)
  have h2:(s.data.toList.drop p).drop ((s.data.toList.drop p).takeWhile (fun x=>cs.contains x)).length=(s.data.toList.drop p).dropWhile (fun x=>cs.contains x):=by
    conv=>lhs;arg 2;rw [← h]
    exact List.drop_left
  rw [List.drop_drop] at h2
  simpa using h2.symm
theorem nmL_ascii:∀ (j:Nat) (c:UInt8),nmL[j]? = some c→c.toNat < 128:=by
  intro j c h
  have hm:=List.mem_of_getElem? h
  exact (show ∀ c ∈ nmL,c.toNat < 128 by decide) c hm
theorem named_not (b:Nat) (s:ByteArray) (p:Nat) (fr:Int) (perl:Bool) (w:World) (h:BrR w b s p fr perl) (hp:p≤s.size) (hn:stands s p [91,58]=false) :
    Calls Tryz.prog 139 #[.pointer (some ⟨b,0,none⟩)] w fun e w'=>e = .returned (.tuple #[.slice none 0 0,.bool false])∧BrR w' b s p fr perl∧w.grownBy w' (some b):=by
  have HR:=hid h
  have HN:=hid hn
  clear h hn
  go_enter Tryz.func139, Tryz.ntmps139
  go_wp2_with fail
  refine (br_rest b s p _ _ _ HR.out hp).mono ?_
  rintro e w1 ⟨rfl,hR,hB⟩
  have R1:=hid hR;have B1:=hid hB;clear hR hB
  go_wp2_with fail
  refine (Tryz.strings_CutPrefix (tail s p) ⟨#[91,58]⟩ _).mono ?_
  rintro e w2 ⟨rfl,rfl⟩
  rw [show Lib.hasPrefix (tail s p).data.toList (⟨#[91,58]⟩:ByteArray).data.toList=false by rw [tail_toList];exact HN.out]
  go_wp2_with fail
  refine (Any.strings_TrimLeft_laid Tryz.lays161 (by kernel_rfl) _ ⟨#[97,98,99,100,101,102,103,104,105,106,107,108,109,110,111,112,113,114,115,116,117,118,119,120,121,122,94]⟩ _ (by decide) nmL_ascii).mono ?_
  rintro e w3 ⟨rfl,hB⟩
  have R3:=hid (Rd.below R1.out hB R1.out.lt);have B3:=hid (below_then B1.out hB);clear hB
  go_wp2_with fail
  go_ret2
  exact ⟨rfl,R3.out,grownBy_below B3.out _⟩
theorem named_open (b:Nat) (s:ByteArray) (p:Nat) (fr:Int) (perl:Bool) (w:World) (h:BrR w b s p fr perl) (hp:p≤s.size) (hn:stands s p [91,58]=true)
    (he:stands s (p+2+(runP s (p+2) nmL).length) [58,93]=false) :
    Calls Tryz.prog 139 #[.pointer (some ⟨b,0,none⟩)] w fun e w'=>e = .returned (.tuple #[.slice none 0 0,.bool false])∧BrR w' b s p fr perl∧w.grownBy w' (some b):=by
  have HR:=hid h
  have HN:=hid hn
  have HE:=hid he
  clear h hn he
  go_enter Tryz.func139, Tryz.ntmps139
  go_wp2_with fail
  refine (br_rest b s p _ _ _ HR.out hp).mono ?_
  rintro e w1 ⟨rfl,hR,hB⟩
  have R1:=hid hR;have B1:=hid hB;clear hR hB
  go_wp2_with fail
  refine (Tryz.strings_CutPrefix (tail s p) ⟨#[91,58]⟩ _).mono ?_
  rintro e w2 ⟨rfl,rfl⟩
  rw [show Lib.hasPrefix (tail s p).data.toList (⟨#[91,58]⟩:ByteArray).data.toList=true by rw [tail_toList];exact HN.out,show (⟨#[91,58]⟩:ByteArray).data.toList=[91,58] from rfl,cut_toList s p _ HN.out]
  go_wp2_with fail
  refine (Any.strings_TrimLeft_laid Tryz.lays161 (by kernel_rfl) _ ⟨#[97,98,99,100,101,102,103,104,105,106,107,108,109,110,111,112,113,114,115,116,117,118,119,120,121,122,94]⟩ _ (by decide) nmL_ascii).mono ?_
  rintro e w3 ⟨rfl,hB⟩
  have R3:=hid (Rd.below R1.out hB R1.out.lt);have B3:=hid (below_then B1.out hB);clear hB
  rw [show (⟨#[97,98,99,100,101,102,103,104,105,106,107,108,109,110,111,112,113,114,115,116,117,118,119,120,121,122,94]⟩:ByteArray).data.toList=nmL from rfl,trim_tail]
  go_wp2_with fail
  refine (Tryz.strings_HasPrefix _ _ _).mono ?_
  rintro e w4 ⟨rfl,rfl⟩
  rw [tail_toList,show Lib.hasPrefix (List.drop (p+2+(runP s (p+2) nmL).length) s.data.toList) (⟨#[58,93]⟩:ByteArray).data.toList=false from HE.out]
  go_wp2_with fail
  go_ret2
  exact ⟨rfl,R3.out,grownBy_below B3.out _⟩
theorem named_no (b:Nat) (s:ByteArray) (p:Nat) (fr:Int) (perl:Bool) (w:World) (h:BrR w b s p fr perl) (hp:p≤s.size) (hn:namedP s p=none) :
    Calls Tryz.prog 139 #[.pointer (some ⟨b,0,none⟩)] w fun e w'=>e = .returned (.tuple #[.slice none 0 0,.bool false])∧BrR w' b s p fr perl∧w.grownBy w' (some b):=by
  unfold namedP at hn
  by_cases c1:stands s p [91,58]=true
  · rw [if_pos c1] at hn
    by_cases c2:stands s (p+2+(runP s (p+2) nmL).length) [58,93]=true
    · rw [if_pos c2] at hn;cases hn
    · exact named_open b s p fr perl w h hp c1 (Bool.eq_false_iff.2 c2)
  · exact named_not b s p fr perl w h hp (Bool.eq_false_iff.2 c1)
end Go.Proofs.YtnhnldmldnhaoaaGreatDoor
namespace Go.Proofs.YtnhnldmldnhaoaaGreatDoor
open Go Go.RowKit Go.Proofs Go.Shelf
def escV (k r:Int) (v:Value) (a:Int):Value:=.agg #[.int .i64 k,.int .i32 r,v,.int .i64 a]
def OneOut (w:World) (b:Nat) (s:ByteArray) (fr:Int) (perl:Bool) (r:EscR) (e:Ending) (w':World):Prop:=
  w.grownBy w' (some b)∧match r with
  | .wrong x f t=>e=wrongE x f t
  | .lit k r a q=>e = .returned (escV k r (.slice none 0 0) a)∧BrR w' b s q.toNat fr perl
  | .set f q=>∃ v out,e = .returned (escV 2 0 v 0)∧Laid w w' out v∧IsSet out f∧out.length≤1000∧BrR w' b s q.toNat fr perl
def ItemOut (w:World) (b:Nat) (s:ByteArray) (fr:Int) (perl:Bool) (r:ItemR) (e:Ending) (w':World):Prop:=
  w.grownBy w' (some b)∧match r with
  | .wrong x f t=>e=wrongE x f t
  | .ok f q=>∃ v out,e = .returned v∧Laid w w' out v∧(∀ c,0≤c→c≤1114111→memR out c=f c)∧out.length≤1000∧BrR w' b s q fr perl
theorem bne_of_tail {s:ByteArray} {p:Nat} (h:p < s.size):(tail s p).toList.isEmpty=false:=by
  rw [ByteArray.toList_eq,tail_toList]
  exact List.isEmpty_eq_false_iff.2 (fun e=>by have:=congrArg List.length e;simp at this;omega)
theorem tail_pos {s:ByteArray} {p:Nat} (k:Nat) (h:p+k < s.size):k < (tail s p).size:=by rw [tail_size];omega
theorem tail_at {s:ByteArray} {p:Nat} (k:Nat) (h:p+k < s.size):(tail s p)[k]'(tail_pos k h)=s[p+k]:=by
  have h1:=getElem_toList (tail s p) k (tail_pos k h)
  rw [tail_toList,List.getElem?_drop,getElem_toList s (p+k) h] at h1
  exact (Option.some.inj h1).symm
theorem tail_is {s:ByteArray} {p:Nat} (k:Nat) (c:UInt8) (h:p+k < s.size):((((tail s p)[k]'(tail_pos k h)).toNat:Int) == (c.toNat:Int))=stands s (p+k) [c]:=by
  rw [tail_at k h]
  cases hs:stands s (p+k) [c] with
  | true=>
    obtain ⟨_,e⟩:=(stands_one s (p+k) c).1 hs
    rw [e];simp
  | false=>
    rw [beq_eq_false_iff_ne]
    intro e
    have:stands s (p+k) [c]=true:=(stands_one s (p+k) c).2 ⟨h,UInt8.toNat_inj.1 (by omega)⟩
    rw [hs] at this;cases this
theorem grownBy_new {a b:World} {row:Option Nat} (h:a.grownBy b row) {k:Nat} (hk:a.heap.size≤k) (j:Nat) (v:Value):a.grownBy (b.setCell ⟨k,j,none⟩ v) row:=
  ⟨h.os,h.tape,h.output,by have:=h.size;simpa [World.setCell] using this,fun i hi hne=>(Below.heap_setCell b ⟨k,j,none⟩ v i (by show i≠k;omega)).trans (h.block i hi hne)⟩
theorem grownBy_new4 {a b:World} {row:Option Nat} (h:a.grownBy b row) {k:Nat} (hk:a.heap.size≤k) (v0 v1 v2 v3:Value):a.grownBy (World.set4 b k v0 v1 v2 v3) row:=
  grownBy_new (grownBy_new (grownBy_new (grownBy_new h hk 0 v0) hk 1 v1) hk 2 v2) hk 3 v3
theorem one_rune (b:Nat) (s:ByteArray) (p:Nat) (fr:Int) (perl:Bool) (w:World) (h:BrR w b s p fr perl) (hT:Tabs w) (hp:p < s.size) (hs:s.size≤140737488355328) (hn:stands s p [92]=false) :
    Calls Tryz.prog 140 #[.pointer (some ⟨b,0,none⟩)] w (OneOut w b s fr perl (.lit 1 (nextC s p) 0 (nextW s p))):=by
  have HR:=hid (show BrR (w.alloc (.cells #[.int .i64 0,.int .i32 0,.slice none 0 0,.int .i64 0] 150)) b s p fr perl from Blk.alloc h _)
  have HE:=hid (Blk.new w [.int .i64 0,.int .i32 0,.slice none 0 0,.int .i64 0] 150)
  have HT:=hid (hT.alloc (.cells #[.int .i64 0,.int .i32 0,.slice none 0 0,.int .i64 0] 150))
  have ht:=bne_of_tail hp
  have HF:=hid (show nextC s p=((Utf8.decode s p).1:Int)∧nextW s p=p+(Utf8.decode s p).2 by unfold nextC nextW;rw [if_pos hp,if_pos hp];exact ⟨rfl,rfl⟩)
  have hle:=decode_le_size s p hp
  have hbt:=hid h.lt
  clear h
  go_enter Tryz.func140, Tryz.ntmps140
  go_wp2_with fail
  refine (br_rest b s p _ _ _ HR.out (by omega)).mono ?_
  rintro e w1 ⟨rfl,hR,hB⟩
  have R1:=hid hR;have T1:=hid (HT.out.below hB);have E1:=hid (Blk.below HE.out hB HE.out.lt);have B1:=hid hB;clear hR hB
  go_wp2_with fail
  refine (br_rest b s p _ _ _ R1.out (by omega)).mono ?_
  rintro e w2 ⟨rfl,hR,hB⟩
  have R2:=hid hR;have T2:=hid (T1.out.below hB);have E2:=hid (Blk.below E1.out hB E1.out.lt);have B2:=hid (below_then B1.out hB);clear hR hB
  have hz:0 < (tail s p).size:=tail_pos 0 hp
  have hz':(0:Int) < ((tail s p).size:Int):=by omega
  have h92:((((tail s p)[0]'hz).toNat:Int) == 92)=false:=(tail_is 0 92 hp).trans hn
  go_wp2_with fail
  refine (br_rest b s p _ _ _ R2.out (by omega)).mono ?_
  rintro e w3 ⟨rfl,hR,hB⟩
  have R3:=hid hR;have T3:=hid (T2.out.below hB);have E3:=hid (Blk.below E2.out hB E2.out.lt);have B3:=hid (below_then B2.out hB);clear hR hB
  go_wp2_with fail
  refine (Tryz.utf8_DecodeRuneInString _ _ T3.out).mono ?_
  rintro e w4 ⟨rfl,hB⟩
  rw [decodeGo_tail s p hp]
  have R4:=hid (Rd.below R3.out hB R3.out.lt);have E4:=hid (Blk.below E3.out hB E3.out.lt);have B4:=hid (below_then B3.out hB);clear hB
  have g1:=Rd.c1 R4.out
  have f1:=Rd.f1 R4.out
  clear hz' h92
  have e0:=Blk.cell E4.out (j:=0) rfl;have e1:=Blk.cell E4.out (j:=1) rfl;have e2:=Blk.cell E4.out (j:=2) rfl;have e3:=Blk.cell E4.out (j:=3) rfl
  have p0:=E4.out.frozen 0;have p1:=E4.out.frozen 1;have p2:=E4.out.frozen 2;have p3:=E4.out.frozen 3
  have hbw:b≠w.heap.size:=by have:=hbt.out;omega
  have hwb:w.heap.size≠b:=by have:=hbt.out;omega
  go_wp2_with fail
  change bodyPost _ _ _ _ _ (World.set4 (w4.setCell ⟨b,1,none⟩ (.int .i64 (p+(Utf8.decode s p).2))) w.heap.size (.int .i64 1) (.int .i32 (Utf8.decode s p).1) (.slice none 0 0) (.int .i64 0))
  have O:=(E4.out.setCell_other (a:=⟨b,1,none⟩) hwb (.int .i64 (p+(Utf8.decode s p).2))).set4 (.int .i64 1) (.int .i32 (Utf8.decode s p).1) (.slice none 0 0) (.int .i64 0)
  have o0:=Blk.cell O (j:=0) rfl;have o1:=Blk.cell O (j:=1) rfl;have o2:=Blk.cell O (j:=2) rfl;have o3:=Blk.cell O (j:=3) rfl
  refine bodyPost_ret (v:=escV 1 (Utf8.decode s p).1 (.slice none 0 0) 0) ?_ rfl ⟨?_,?_,?_⟩
  · simp [results,Tryz.results140,go_sem,o0,o1,o2,o3,escV]
  · exact grownBy_new4 (grownBy_trans (grownBy_alloc w _ _) (grownBy_trans (grownBy_below B4.out _) (grownBy_setCell _ _ _ _))) (Nat.le_refl _) _ _ _ _
  · rw [HF.out.1]
  · rw [HF.out.2]
    exact Blk.set4_other (b:=w.heap.size) (Rd.move R4.out (p+(Utf8.decode s p).2)) hbw _ _ _ _
end Go.Proofs.YtnhnldmldnhaoaaGreatDoor
namespace Go.Proofs.YtnhnldmldnhaoaaGreatDoor
open Go Go.RowKit Go.Proofs Go.Shelf
theorem Blk.second (w:World) (o:Obj) (cs:List Value) (t:TypeId):Blk ((w.alloc o).alloc (.cells cs.toArray t)).drew (w.heap.size+1) cs t:=by
  show Blk ((w.alloc o).alloc (.cells cs.toArray t)) (w.heap.size+1) cs t
  rw [← show (w.alloc o).heap.size=w.heap.size+1 by simp]
  exact Blk.new _ _ _
theorem Blk.next (w:World) (o:Obj) (cs:List Value) (t:TypeId):Blk ((w.alloc o).alloc (.cells cs.toArray t)) (w.heap.size+1) cs t:=by
  rw [← show (w.alloc o).heap.size=w.heap.size+1 by simp]
  exact Blk.new _ _ _
theorem Blk.new4 (w:World) (a0 a1 a2 a3:Addr) (v0 v1 v2 v3:Value) {cs:List Value} {t:TypeId}:Blk (((((w.setCell a0 v0).setCell a1 v1).setCell a2 v2).setCell a3 v3).alloc (.cells cs.toArray t)) w.heap.size cs t:=by
  have h:((((w.setCell a0 v0).setCell a1 v1).setCell a2 v2).setCell a3 v3).heap.size=w.heap.size:=by simp [World.setCell]
  rw [← h]
  exact Blk.new _ _ _
theorem Blk.new3 (w:World) (a0 a1 a2:Addr) (v0 v1 v2:Value) {cs:List Value} {t:TypeId}:Blk ((((w.setCell a0 v0).setCell a1 v1).setCell a2 v2).alloc (.cells cs.toArray t)) w.heap.size cs t:=by
  have h:(((w.setCell a0 v0).setCell a1 v1).setCell a2 v2).heap.size=w.heap.size:=by simp [World.setCell]
  rw [← h]
  exact Blk.new _ _ _
theorem Blk.sets4 {w:World} {b:Nat} {c0 c1 c2 c3 v0 v1 v2 v3:Value} {t:TypeId} (h:Blk w b [c0,c1,c2,c3] t):Blk ((((w.setCell ⟨b,0,none⟩ v0).setCell ⟨b,1,none⟩ v1).setCell ⟨b,2,none⟩ v2).setCell ⟨b,3,none⟩ v3) b [v0,v1,v2,v3] t:=h.set4 v0 v1 v2 v3
theorem Blk.sets3 {w:World} {b:Nat} {c0 c1 c2 v0 v1 v2:Value} {t:TypeId} (h:Blk w b [c0,c1,c2] t):Blk (((w.setCell ⟨b,0,none⟩ v0).setCell ⟨b,1,none⟩ v1).setCell ⟨b,2,none⟩ v2) b [v0,v1,v2] t:=((h.set 0 v0).set 1 v1).set 2 v2
theorem one_lit (b:Nat) (s:ByteArray) (p:Nat) (fr:Int) (perl:Bool) (w:World) (h:BrR w b s p fr perl) (hT:Tabs w) (hp:p < s.size) (hs:s.size≤140737488355328) (hn:stands s p [92]=true) (k r a:Int) (q:Nat) (hq:escP s p perl = .lit k r a q) :
    Calls Tryz.prog 140 #[.pointer (some ⟨b,0,none⟩)] w (OneOut w b s fr perl (.lit k r a q)):=by
  have HR:=hid (show BrR (w.alloc (.cells #[.int .i64 0,.int .i32 0,.slice none 0 0,.int .i64 0] 150)) b s p fr perl from Blk.alloc h _)
  have HE:=hid (Blk.new w [.int .i64 0,.int .i32 0,.slice none 0 0,.int .i64 0] 150)
  have HT:=hid (hT.alloc (.cells #[.int .i64 0,.int .i32 0,.slice none 0 0,.int .i64 0] 150))
  have ht:=bne_of_tail hp
  have HC:=hid (fun (W:World) (hW:Tabs W)=>show Calls Tryz.prog 103 #[.string s,.int .i64 p,.bool perl] W (EscOut W (.lit k r a q)) by rw [← hq];exact scan_Escape s p perl W hW (by omega) hs)
  have hbt:=hid h.lt
  clear h hT
  go_enter Tryz.func140, Tryz.ntmps140
  go_wp2_with fail
  refine (br_rest b s p _ _ _ HR.out (by omega)).mono ?_
  rintro e w1 ⟨rfl,hR,hB⟩
  have R1:=hid hR;have T1:=hid (HT.out.below hB);have E1:=hid (Blk.below HE.out hB HE.out.lt);have B1:=hid hB;clear hR hB
  go_wp2_with fail
  refine (br_rest b s p _ _ _ R1.out (by omega)).mono ?_
  rintro e w2 ⟨rfl,hR,hB⟩
  have R2:=hid hR;have T2:=hid (T1.out.below hB);have E2:=hid (Blk.below E1.out hB E1.out.lt);have B2:=hid (below_then B1.out hB);clear hR hB
  have hz:0 < (tail s p).size:=tail_pos 0 hp
  have hz':(0:Int) < ((tail s p).size:Int):=by omega
  have h92:((((tail s p)[0]'hz).toNat:Int) == 92)=true:=(tail_is 0 92 hp).trans hn
  have c0:=Rd.c0 R2.out;have c1:=Rd.c1 R2.out
  have c3:w2.cell? ⟨b,3,none⟩=some (.bool perl):=Blk.cell R2.out rfl
  have S2:=hid (show b < w.heap.size∧w.heap.size < w2.heap.size from ⟨hbt.out,E2.out.lt⟩)
  go_wp2_with fail
  refine Code.wp_mono (Q:=fun e a' w'=>∃ x3 x5:Nat,e = .normal∧a'={ tmps:=((Value.pointer (some ⟨b,0,none⟩)) :: undef :: (Value.pointer (some ⟨w.heap.size,0,none⟩)) :: (Value.pointer (some ⟨x3,0,none⟩)) :: (Value.int .i64 q) :: (Value.pointer (some ⟨x5,0,none⟩)) :: undef :: undef :: (Value.pointer (some ⟨b,0,none⟩)) :: (Value.pointer (some ⟨b,0,none⟩)) :: (Value.pointer (some ⟨b,0,none⟩)) :: (Value.string (tail s p)) :: (Value.bool false) :: undef :: undef :: undef :: undef :: undef :: undef :: undef :: undef :: undef :: undef :: undef :: (Value.pointer (some ⟨b,0,none⟩)) :: (Value.pointer (some ⟨b,0,none⟩)) :: (Value.pointer (some ⟨b,0,none⟩)) :: (Value.string (tail s p)) :: (Value.int .u8 (((tail s p)[0]'hz).toNat:Int)) :: (Value.bool true) :: (Value.tuple #[.agg #[.int .i64 k,.int .i32 r,.slice none 0 0,.int .i64 a],.int .i64 q,.agg #[.int .i64 0,.int .i64 0,.int .i64 0]]) :: (Value.pointer (some ⟨b,0,none⟩)) :: (Value.pointer (some ⟨b,0,none⟩)) :: (Value.pointer (some ⟨b,0,none⟩)) :: (Value.pointer (some ⟨b,0,none⟩)) :: (Value.string s) :: (Value.pointer (some ⟨b,0,none⟩)) :: (Value.pointer (some ⟨b,0,none⟩)) :: (Value.pointer (some ⟨b,0,none⟩)) :: (Value.pointer (some ⟨b,1,none⟩)) :: (Value.int .i64 p) :: (Value.pointer (some ⟨b,0,none⟩)) :: (Value.pointer (some ⟨b,0,none⟩)) :: (Value.pointer (some ⟨b,3,none⟩)) :: (Value.bool perl) :: (Value.tuple #[.agg #[.int .i64 k,.int .i32 r,.slice none 0 0,.int .i64 a],.int .i64 q,.agg #[.int .i64 0,.int .i64 0,.int .i64 0]]) :: (Value.agg #[.int .i64 k,.int .i32 r,.slice none 0 0,.int .i64 a]) :: (Value.int .i64 q) :: (Value.agg #[.int .i64 0,.int .i64 0,.int .i64 0]) :: undef :: undef :: undef :: undef :: undef :: undef :: undef :: undef :: undef :: undef :: undef :: undef :: undef :: undef :: undef :: undef :: undef :: undef :: undef :: undef :: undef :: undef :: undef :: undef :: undef :: undef :: undef :: undef :: undef :: undef :: undef :: []:List Value).toArray,defers:=[] }∧w2.grownBy w' none∧Blk w' x3 [.int .i64 k,.int .i32 r,.slice none 0 0,.int .i64 a] 150∧Blk w' x5 [.int .i64 0,.int .i64 0,.int .i64 0] 32∧w2.heap.size≤x3∧w2.heap.size≤x5) ?_ ?_
  rotate_left
  · go_region_held3 (fun w'=>w'.cell? ⟨b,0,none⟩=some (.string s)∧w'.cell? ⟨b,1,none⟩=some (.int .i64 p)∧w'.cell? ⟨b,3,none⟩=some (.bool perl)) (go_keep) ((go_at_call 103;first | (refine (HC.out (w2.drew) (T2.out.below (below_grownBy (grownBy_drew _ _)))).mono ?_;rintro e w4 ⟨rfl,hB⟩;have G4:=hid (show w2.grownBy w4 none from grownBy_trans (grownBy_drew _ _) (grownBy_below hB none));have zs:w2.heap.size≤w4.heap.size:=G4.out.size;have R4:=R2.out.grown G4.out (by simp);have E4:=E2.out.grown G4.out (by simp);have g0:=Rd.c0 R4;have g3:w4.cell? ⟨b,3,none⟩=some (.bool perl):=Blk.cell R4 rfl;have g1:=Rd.c1 R4;have f1:=Rd.f1 R4;have e0:=Blk.cell E4 (j:=0) rfl;have e1:=Blk.cell E4 (j:=1) rfl;have e2:=Blk.cell E4 (j:=2) rfl;have e3:=Blk.cell E4 (j:=3) rfl;have p0:=E4.frozen 0;have p1:=E4.frozen 1;have p2:=E4.frozen 2;have p3:=E4.frozen 3;have HR4:=hid R4;have HE4:=hid E4;have hsz:=hB.size;have z:=S2.out;have:b≠w.heap.size:=(by (first | omega | (simp at hsz;omega)));have:w.heap.size≠b:=(by (first | omega | (simp at hsz;omega)));have:b≠w2.heap.size:=(by (first | omega | (simp at hsz;omega)));have:w2.heap.size≠b:=(by (first | omega | (simp at hsz;omega)));have:b≠w4.heap.size:=(by (first | omega | (simp at hsz;omega)));have:w4.heap.size≠b:=(by (first | omega | (simp at hsz;omega)));have:w.heap.size≠w2.heap.size:=(by (first | omega | (simp at hsz;omega)));have:w2.heap.size≠w.heap.size:=(by (first | omega | (simp at hsz;omega)));have:w.heap.size≠w4.heap.size:=(by (first | omega | (simp at hsz;omega)));have:w4.heap.size≠w.heap.size:=(by (first | omega | (simp at hsz;omega)));have:b≠w2.heap.size+1:=(by (first | omega | (simp at hsz;omega)));have:w2.heap.size+1≠b:=(by (first | omega | (simp at hsz;omega)));have:b≠w4.heap.size+1:=(by (first | omega | (simp at hsz;omega)));have:w4.heap.size+1≠b:=(by (first | omega | (simp at hsz;omega)));have:w.heap.size≠w2.heap.size+1:=(by (first | omega | (simp at hsz;omega)));have:w2.heap.size+1≠w.heap.size:=(by (first | omega | (simp at hsz;omega)));have:w.heap.size≠w4.heap.size+1:=(by (first | omega | (simp at hsz;omega)));have:w4.heap.size+1≠w.heap.size:=(by (first | omega | (simp at hsz;omega)));have HB4:=hid hB;clear R4 E4 hB hsz z;unfold escT) | (refine (HC.out ((w2.alloc (.cells #[.int .i64 0,.int .i32 0,.slice none 0 0,.int .i64 0] 150)).drew) (T2.out.below (below_grownBy (grownBy_trans (grownBy_alloc _ _ _) (grownBy_drew _ _))))).mono ?_;rintro e w4 ⟨rfl,hB⟩;have G4:=hid (show w2.grownBy w4 none from grownBy_trans (grownBy_trans (grownBy_alloc _ _ _) (grownBy_drew _ _)) (grownBy_below hB none));have zs:w2.heap.size≤w4.heap.size:=G4.out.size;have R4:=R2.out.grown G4.out (by simp);have E4:=E2.out.grown G4.out (by simp);have g0:=Rd.c0 R4;have g3:w4.cell? ⟨b,3,none⟩=some (.bool perl):=Blk.cell R4 rfl;have g1:=Rd.c1 R4;have f1:=Rd.f1 R4;have e0:=Blk.cell E4 (j:=0) rfl;have e1:=Blk.cell E4 (j:=1) rfl;have e2:=Blk.cell E4 (j:=2) rfl;have e3:=Blk.cell E4 (j:=3) rfl;have p0:=E4.frozen 0;have p1:=E4.frozen 1;have p2:=E4.frozen 2;have p3:=E4.frozen 3;have HR4:=hid R4;have HE4:=hid E4;have hsz:=hB.size;have z:=S2.out;have:b≠w.heap.size:=(by (first | omega | (simp at hsz;omega)));have:w.heap.size≠b:=(by (first | omega | (simp at hsz;omega)));have:b≠w2.heap.size:=(by (first | omega | (simp at hsz;omega)));have:w2.heap.size≠b:=(by (first | omega | (simp at hsz;omega)));have:b≠w4.heap.size:=(by (first | omega | (simp at hsz;omega)));have:w4.heap.size≠b:=(by (first | omega | (simp at hsz;omega)));have:w.heap.size≠w2.heap.size:=(by (first | omega | (simp at hsz;omega)));have:w2.heap.size≠w.heap.size:=(by (first | omega | (simp at hsz;omega)));have:w.heap.size≠w4.heap.size:=(by (first | omega | (simp at hsz;omega)));have:w4.heap.size≠w.heap.size:=(by (first | omega | (simp at hsz;omega)));have:b≠w2.heap.size+1:=(by (first | omega | (simp at hsz;omega)));have:w2.heap.size+1≠b:=(by (first | omega | (simp at hsz;omega)));have:b≠w4.heap.size+1:=(by (first | omega | (simp at hsz;omega)));have:w4.heap.size+1≠b:=(by (first | omega | (simp at hsz;omega)));have:w.heap.size≠w2.heap.size+1:=(by (first | omega | (simp at hsz;omega)));have:w2.heap.size+1≠w.heap.size:=(by (first | omega | (simp at hsz;omega)));have:w.heap.size≠w4.heap.size+1:=(by (first | omega | (simp at hsz;omega)));have:w4.heap.size+1≠w.heap.size:=(by (first | omega | (simp at hsz;omega)));have:w2.heap.size≠w4.heap.size:=(by (first | omega | (simp at hsz;omega)));have:w4.heap.size≠w2.heap.size:=(by (first | omega | (simp at hsz;omega)));have NA:=hid (show Blk w4 w2.heap.size [.int .i64 0,.int .i32 0,.slice none 0 0,.int .i64 0] 150 from Blk.below (w:=(w2.alloc (.cells #[.int .i64 0,.int .i32 0,.slice none 0 0,.int .i64 0] 150)).drew) (Blk.new w2 [.int .i64 0,.int .i32 0,.slice none 0 0,.int .i64 0] 150) hB (by simp));have za:=NA.out.lt;have fa0:=Blk.frozen (NA.out) 0;have cfa0:=Blk.cell (NA.out) (j:=0) rfl;have fa1:=Blk.frozen (NA.out) 1;have cfa1:=Blk.cell (NA.out) (j:=1) rfl;have fa2:=Blk.frozen (NA.out) 2;have cfa2:=Blk.cell (NA.out) (j:=2) rfl;have fa3:=Blk.frozen (NA.out) 3;have cfa3:=Blk.cell (NA.out) (j:=3) rfl;have HB4:=hid hB;clear R4 E4 hB hsz z;unfold escT) | (refine (HC.out ((w2.alloc (.cells #[.int .i64 0,.int .i64 0,.int .i64 0] 32)).drew) (T2.out.below (below_grownBy (grownBy_trans (grownBy_alloc _ _ _) (grownBy_drew _ _))))).mono ?_;rintro e w4 ⟨rfl,hB⟩;have G4:=hid (show w2.grownBy w4 none from grownBy_trans (grownBy_trans (grownBy_alloc _ _ _) (grownBy_drew _ _)) (grownBy_below hB none));have zs:w2.heap.size≤w4.heap.size:=G4.out.size;have R4:=R2.out.grown G4.out (by simp);have E4:=E2.out.grown G4.out (by simp);have g0:=Rd.c0 R4;have g3:w4.cell? ⟨b,3,none⟩=some (.bool perl):=Blk.cell R4 rfl;have g1:=Rd.c1 R4;have f1:=Rd.f1 R4;have e0:=Blk.cell E4 (j:=0) rfl;have e1:=Blk.cell E4 (j:=1) rfl;have e2:=Blk.cell E4 (j:=2) rfl;have e3:=Blk.cell E4 (j:=3) rfl;have p0:=E4.frozen 0;have p1:=E4.frozen 1;have p2:=E4.frozen 2;have p3:=E4.frozen 3;have HR4:=hid R4;have HE4:=hid E4;have hsz:=hB.size;have z:=S2.out;have:b≠w.heap.size:=(by (first | omega | (simp at hsz;omega)));have:w.heap.size≠b:=(by (first | omega | (simp at hsz;omega)));have:b≠w2.heap.size:=(by (first | omega | (simp at hsz;omega)));have:w2.heap.size≠b:=(by (first | omega | (simp at hsz;omega)));have:b≠w4.heap.size:=(by (first | omega | (simp at hsz;omega)));have:w4.heap.size≠b:=(by (first | omega | (simp at hsz;omega)));have:w.heap.size≠w2.heap.size:=(by (first | omega | (simp at hsz;omega)));have:w2.heap.size≠w.heap.size:=(by (first | omega | (simp at hsz;omega)));have:w.heap.size≠w4.heap.size:=(by (first | omega | (simp at hsz;omega)));have:w4.heap.size≠w.heap.size:=(by (first | omega | (simp at hsz;omega)));have:b≠w2.heap.size+1:=(by (first | omega | (simp at hsz;omega)));have:w2.heap.size+1≠b:=(by (first | omega | (simp at hsz;omega)));have:b≠w4.heap.size+1:=(by (first | omega | (simp at hsz;omega)));have:w4.heap.size+1≠b:=(by (first | omega | (simp at hsz;omega)));have:w.heap.size≠w2.heap.size+1:=(by (first | omega | (simp at hsz;omega)));have:w2.heap.size+1≠w.heap.size:=(by (first | omega | (simp at hsz;omega)));have:w.heap.size≠w4.heap.size+1:=(by (first | omega | (simp at hsz;omega)));have:w4.heap.size+1≠w.heap.size:=(by (first | omega | (simp at hsz;omega)));have:w2.heap.size≠w4.heap.size:=(by (first | omega | (simp at hsz;omega)));have:w4.heap.size≠w2.heap.size:=(by (first | omega | (simp at hsz;omega)));have NB:=hid (show Blk w4 w2.heap.size [.int .i64 0,.int .i64 0,.int .i64 0] 32 from Blk.below (w:=(w2.alloc (.cells #[.int .i64 0,.int .i64 0,.int .i64 0] 32)).drew) (Blk.new w2 [.int .i64 0,.int .i64 0,.int .i64 0] 32) hB (by simp));have zb:=NB.out.lt;have fb0:=Blk.frozen (NB.out) 0;have cfb0:=Blk.cell (NB.out) (j:=0) rfl;have fb1:=Blk.frozen (NB.out) 1;have cfb1:=Blk.cell (NB.out) (j:=1) rfl;have fb2:=Blk.frozen (NB.out) 2;have cfb2:=Blk.cell (NB.out) (j:=2) rfl;have HB4:=hid hB;clear R4 E4 hB hsz z;unfold escT) | (refine (HC.out (((w2.alloc (.cells #[.int .i64 0,.int .i32 0,.slice none 0 0,.int .i64 0] 150)).alloc (.cells #[.int .i64 0,.int .i64 0,.int .i64 0] 32)).drew) (T2.out.below (below_grownBy (grownBy_trans (grownBy_trans (grownBy_alloc _ _ _) (grownBy_alloc _ _ _)) (grownBy_drew _ _))))).mono ?_;rintro e w4 ⟨rfl,hB⟩;have G4:=hid (show w2.grownBy w4 none from grownBy_trans (grownBy_trans (grownBy_trans (grownBy_alloc _ _ _) (grownBy_alloc _ _ _)) (grownBy_drew _ _)) (grownBy_below hB none));have zs:w2.heap.size≤w4.heap.size:=G4.out.size;have R4:=R2.out.grown G4.out (by simp);have E4:=E2.out.grown G4.out (by simp);have g0:=Rd.c0 R4;have g3:w4.cell? ⟨b,3,none⟩=some (.bool perl):=Blk.cell R4 rfl;have g1:=Rd.c1 R4;have f1:=Rd.f1 R4;have e0:=Blk.cell E4 (j:=0) rfl;have e1:=Blk.cell E4 (j:=1) rfl;have e2:=Blk.cell E4 (j:=2) rfl;have e3:=Blk.cell E4 (j:=3) rfl;have p0:=E4.frozen 0;have p1:=E4.frozen 1;have p2:=E4.frozen 2;have p3:=E4.frozen 3;have HR4:=hid R4;have HE4:=hid E4;have hsz:=hB.size;have z:=S2.out;have:b≠w.heap.size:=(by (first | omega | (simp at hsz;omega)));have:w.heap.size≠b:=(by (first | omega | (simp at hsz;omega)));have:b≠w2.heap.size:=(by (first | omega | (simp at hsz;omega)));have:w2.heap.size≠b:=(by (first | omega | (simp at hsz;omega)));have:b≠w4.heap.size:=(by (first | omega | (simp at hsz;omega)));have:w4.heap.size≠b:=(by (first | omega | (simp at hsz;omega)));have:w.heap.size≠w2.heap.size:=(by (first | omega | (simp at hsz;omega)));have:w2.heap.size≠w.heap.size:=(by (first | omega | (simp at hsz;omega)));have:w.heap.size≠w4.heap.size:=(by (first | omega | (simp at hsz;omega)));have:w4.heap.size≠w.heap.size:=(by (first | omega | (simp at hsz;omega)));have:b≠w2.heap.size+1:=(by (first | omega | (simp at hsz;omega)));have:w2.heap.size+1≠b:=(by (first | omega | (simp at hsz;omega)));have:b≠w4.heap.size+1:=(by (first | omega | (simp at hsz;omega)));have:w4.heap.size+1≠b:=(by (first | omega | (simp at hsz;omega)));have:w.heap.size≠w2.heap.size+1:=(by (first | omega | (simp at hsz;omega)));have:w2.heap.size+1≠w.heap.size:=(by (first | omega | (simp at hsz;omega)));have:w.heap.size≠w4.heap.size+1:=(by (first | omega | (simp at hsz;omega)));have:w4.heap.size+1≠w.heap.size:=(by (first | omega | (simp at hsz;omega)));have NA:=hid (show Blk w4 w2.heap.size [.int .i64 0,.int .i32 0,.slice none 0 0,.int .i64 0] 150 from Blk.below (w:=((w2.alloc (.cells #[.int .i64 0,.int .i32 0,.slice none 0 0,.int .i64 0] 150)).alloc (.cells #[.int .i64 0,.int .i64 0,.int .i64 0] 32)).drew) (Blk.alloc (Blk.new w2 [.int .i64 0,.int .i32 0,.slice none 0 0,.int .i64 0] 150) _) hB (by simp;omega));have za:=NA.out.lt;have fa0:=Blk.frozen (NA.out) 0;have cfa0:=Blk.cell (NA.out) (j:=0) rfl;have fa1:=Blk.frozen (NA.out) 1;have cfa1:=Blk.cell (NA.out) (j:=1) rfl;have fa2:=Blk.frozen (NA.out) 2;have cfa2:=Blk.cell (NA.out) (j:=2) rfl;have fa3:=Blk.frozen (NA.out) 3;have cfa3:=Blk.cell (NA.out) (j:=3) rfl;have NB:=hid (show Blk w4 (w2.heap.size+1) [.int .i64 0,.int .i64 0,.int .i64 0] 32 from Blk.below (w:=((w2.alloc (.cells #[.int .i64 0,.int .i32 0,.slice none 0 0,.int .i64 0] 150)).alloc (.cells #[.int .i64 0,.int .i64 0,.int .i64 0] 32)).drew) (Blk.second w2 _ _ _) hB (by simp));have zb:=NB.out.lt;have fb0:=Blk.frozen (NB.out) 0;have cfb0:=Blk.cell (NB.out) (j:=0) rfl;have fb1:=Blk.frozen (NB.out) 1;have cfb1:=Blk.cell (NB.out) (j:=1) rfl;have fb2:=Blk.frozen (NB.out) 2;have cfb2:=Blk.cell (NB.out) (j:=2) rfl;have HB4:=hid hB;clear R4 E4 hB hsz z;unfold escT) | (refine (HC.out (((w2.alloc (.cells #[.int .i64 0,.int .i64 0,.int .i64 0] 32)).alloc (.cells #[.int .i64 0,.int .i32 0,.slice none 0 0,.int .i64 0] 150)).drew) (T2.out.below (below_grownBy (grownBy_trans (grownBy_trans (grownBy_alloc _ _ _) (grownBy_alloc _ _ _)) (grownBy_drew _ _))))).mono ?_;rintro e w4 ⟨rfl,hB⟩;have G4:=hid (show w2.grownBy w4 none from grownBy_trans (grownBy_trans (grownBy_trans (grownBy_alloc _ _ _) (grownBy_alloc _ _ _)) (grownBy_drew _ _)) (grownBy_below hB none));have zs:w2.heap.size≤w4.heap.size:=G4.out.size;have R4:=R2.out.grown G4.out (by simp);have E4:=E2.out.grown G4.out (by simp);have g0:=Rd.c0 R4;have g3:w4.cell? ⟨b,3,none⟩=some (.bool perl):=Blk.cell R4 rfl;have g1:=Rd.c1 R4;have f1:=Rd.f1 R4;have e0:=Blk.cell E4 (j:=0) rfl;have e1:=Blk.cell E4 (j:=1) rfl;have e2:=Blk.cell E4 (j:=2) rfl;have e3:=Blk.cell E4 (j:=3) rfl;have p0:=E4.frozen 0;have p1:=E4.frozen 1;have p2:=E4.frozen 2;have p3:=E4.frozen 3;have HR4:=hid R4;have HE4:=hid E4;have hsz:=hB.size;have z:=S2.out;have:b≠w.heap.size:=(by (first | omega | (simp at hsz;omega)));have:w.heap.size≠b:=(by (first | omega | (simp at hsz;omega)));have:b≠w2.heap.size:=(by (first | omega | (simp at hsz;omega)));have:w2.heap.size≠b:=(by (first | omega | (simp at hsz;omega)));have:b≠w4.heap.size:=(by (first | omega | (simp at hsz;omega)));have:w4.heap.size≠b:=(by (first | omega | (simp at hsz;omega)));have:w.heap.size≠w2.heap.size:=(by (first | omega | (simp at hsz;omega)));have:w2.heap.size≠w.heap.size:=(by (first | omega | (simp at hsz;omega)));have:w.heap.size≠w4.heap.size:=(by (first | omega | (simp at hsz;omega)));have:w4.heap.size≠w.heap.size:=(by (first | omega | (simp at hsz;omega)));have:b≠w2.heap.size+1:=(by (first | omega | (simp at hsz;omega)));have:w2.heap.size+1≠b:=(by (first | omega | (simp at hsz;omega)));have:b≠w4.heap.size+1:=(by (first | omega | (simp at hsz;omega)));have:w4.heap.size+1≠b:=(by (first | omega | (simp at hsz;omega)));have:w.heap.size≠w2.heap.size+1:=(by (first | omega | (simp at hsz;omega)));have:w2.heap.size+1≠w.heap.size:=(by (first | omega | (simp at hsz;omega)));have:w.heap.size≠w4.heap.size+1:=(by (first | omega | (simp at hsz;omega)));have:w4.heap.size+1≠w.heap.size:=(by (first | omega | (simp at hsz;omega)));have NA:=hid (show Blk w4 w2.heap.size [.int .i64 0,.int .i64 0,.int .i64 0] 32 from Blk.below (w:=((w2.alloc (.cells #[.int .i64 0,.int .i64 0,.int .i64 0] 32)).alloc (.cells #[.int .i64 0,.int .i32 0,.slice none 0 0,.int .i64 0] 150)).drew) (Blk.alloc (Blk.new w2 [.int .i64 0,.int .i64 0,.int .i64 0] 32) _) hB (by simp;omega));have za:=NA.out.lt;have fa0:=Blk.frozen (NA.out) 0;have cfa0:=Blk.cell (NA.out) (j:=0) rfl;have fa1:=Blk.frozen (NA.out) 1;have cfa1:=Blk.cell (NA.out) (j:=1) rfl;have fa2:=Blk.frozen (NA.out) 2;have cfa2:=Blk.cell (NA.out) (j:=2) rfl;have NB:=hid (show Blk w4 (w2.heap.size+1) [.int .i64 0,.int .i32 0,.slice none 0 0,.int .i64 0] 150 from Blk.below (w:=((w2.alloc (.cells #[.int .i64 0,.int .i64 0,.int .i64 0] 32)).alloc (.cells #[.int .i64 0,.int .i32 0,.slice none 0 0,.int .i64 0] 150)).drew) (Blk.second w2 _ _ _) hB (by simp));have zb:=NB.out.lt;have fb0:=Blk.frozen (NB.out) 0;have cfb0:=Blk.cell (NB.out) (j:=0) rfl;have fb1:=Blk.frozen (NB.out) 1;have cfb1:=Blk.cell (NB.out) (j:=1) rfl;have fb2:=Blk.frozen (NB.out) 2;have cfb2:=Blk.cell (NB.out) (j:=2) rfl;have fb3:=Blk.frozen (NB.out) 3;have cfb3:=Blk.cell (NB.out) (j:=3) rfl;have HB4:=hid hB;clear R4 E4 hB hsz z;unfold escT)))
    all_goals first | refine ⟨w4.heap.size,w4.heap.size+1,rfl,rfl,?_⟩ | refine ⟨w4.heap.size+1,w4.heap.size,rfl,rfl,?_⟩ | refine ⟨w2.heap.size,w4.heap.size,rfl,rfl,?_⟩ | refine ⟨w4.heap.size,w2.heap.size,rfl,rfl,?_⟩ | refine ⟨w2.heap.size,w2.heap.size+1,rfl,rfl,?_⟩ | refine ⟨w2.heap.size+1,w2.heap.size,rfl,rfl,?_⟩
    all_goals refine ⟨?_,?_,?_,by omega,by omega⟩
    all_goals repeat' (first | with_reducible exact Blk.new _ _ _ | with_reducible exact Blk.next _ _ _ _ | with_reducible exact NA.out | with_reducible exact NB.out | with_reducible refine Blk.sets4 (c0:=.int .i64 0) (c1:=.int .i32 0) (c2:=.slice none 0 0) (c3:=.int .i64 0) ?_ | with_reducible refine Blk.sets3 (c0:=.int .i64 0) (c1:=.int .i64 0) (c2:=.int .i64 0) ?_ | with_reducible exact Blk.new4 _ _ _ _ _ _ _ _ _ | with_reducible exact Blk.new3 _ _ _ _ _ _ _ | with_reducible refine Blk.alloc ?_ _ | with_reducible refine Blk.setCell_other ?_ (by (dsimp only;omega)) _ | with_reducible refine grownBy_new ?_ (by omega) _ _ | with_reducible refine grownBy_trans ?_ (grownBy_alloc _ _ _) | exact G4.out)
  rintro e1 a1 W5 ⟨x3,x5,rfl,rfl,hg,b3,b5,l3,l5⟩
  have zz:=S2.out
  have n1:x3≠b:=by omega
  have n2:x5≠b:=by omega
  have n3:b≠x3:=by omega
  have n4:b≠x5:=by omega
  have n5:x3≠w.heap.size:=by omega
  have n6:w.heap.size≠x3:=by omega
  have hwb:w.heap.size≠b:=by omega
  have hbw:b≠w.heap.size:=by omega
  have R5:=R2.out.grown hg (by simp)
  have E5:=E2.out.grown hg (by simp)
  have d0:=Blk.cell b3 (j:=0) rfl;have d1:=Blk.cell b3 (j:=1) rfl;have d2:=Blk.cell b3 (j:=2) rfl;have d3:=Blk.cell b3 (j:=3) rfl
  have z0:=Blk.cell b5 (j:=0) rfl
  have f1:=Rd.f1 R5;have g1:=Rd.c1 R5
  have p0:=E5.frozen 0;have p1:=E5.frozen 1;have p2:=E5.frozen 2;have p3:=E5.frozen 3
  have e0:=Blk.cell E5 (j:=0) rfl;have e1:=Blk.cell E5 (j:=1) rfl;have e2:=Blk.cell E5 (j:=2) rfl;have e3:=Blk.cell E5 (j:=3) rfl
  have HR5:=hid (show BrR W5 b s p fr perl from R5);have HE5:=hid E5;have HG:=hid hg
  clear R5 E5 hg b3 b5 l3 l5 zz c0 c1 c3
  go_wp2_with fail
  change bodyPost _ _ _ _ _ (World.set4 (W5.setCell ⟨b,1,none⟩ (.int .i64 q)) w.heap.size (.int .i64 k) (.int .i32 r) (.slice none 0 0) (.int .i64 a))
  have O:=(HE5.out.setCell_other (a:=⟨b,1,none⟩) hwb (.int .i64 q)).set4 (.int .i64 k) (.int .i32 r) (.slice none 0 0) (.int .i64 a)
  have o0:=Blk.cell O (j:=0) rfl;have o1:=Blk.cell O (j:=1) rfl;have o2:=Blk.cell O (j:=2) rfl;have o3:=Blk.cell O (j:=3) rfl
  refine bodyPost_ret (v:=escV k r (.slice none 0 0) a) ?_ rfl ⟨?_,?_,?_⟩
  · simp [results,Tryz.results140,go_sem,o0,o1,o2,o3,escV]
  · exact grownBy_new4 (grownBy_trans (grownBy_alloc w _ _) (grownBy_trans (grownBy_below B2.out _) (grownBy_trans (grownBy_below (below_grownBy HG.out) _) (grownBy_setCell _ _ _ _)))) (Nat.le_refl _) _ _ _ _
  · rfl
  · exact Blk.set4_other (b:=w.heap.size) (Rd.move HR5.out q) hbw _ _ _ _
end Go.Proofs.YtnhnldmldnhaoaaGreatDoor
