/- The reader of layer 7: a name between colons that is there. -/
import Derived.Test.YtnhnldmldnhaoaaGreatDoorSPosix
import Derived.Test.YtnhnldmldnhaoaaGreatDoorSBrText
import Derived.IntWalk
import Derived.Test.YtnhnldmldnhaoaaGreatDoorSBrEsc2
import Derived.Test.YtnhnldmldnhaoaaGreatDoorSBrItem1
import Derived.Defers
import Derived.Recover
import Derived.Test.YtnhnldmldnhaoaaGreatDoorSEscGo
import Derived.Test.YtnhnldmldnhaoaaGreatDoorSRefHas
import Derived.Deep.LoopGhost
set_option maxRecDepth 100000
set_option maxHeartbeats 16000000
open Go.Lib (hid)
namespace Go.Proofs.YtnhnldmldnhaoaaGreatDoor
open Go Go.RowKit Go.Proofs Go.Shelf
def NamedOut (w:World) (b:Nat) (s:ByteArray) (fr:Int) (perl:Bool) (f:Int→Bool) (q:Nat) (e:Ending) (w':World):Prop:=
  ∃ v out,e = .returned (.tuple #[v,.bool true])∧Laid w w' out v∧IsSet out f∧out.length≤1000∧BrR w' b s q fr perl∧w.grownBy w' (some b)
theorem named_yes (b:Nat) (s:ByteArray) (p:Nat) (fr:Int) (perl:Bool) (w:World) (h:BrR w b s p fr perl) (hp:p≤s.size) (hs:s.size≤1000000000000000) (hn:stands s p [91,58]=true)
    (he:stands s (p+2+(runP s (p+2) nmL).length) [58,93]=true) (f:Int→Bool) (hsp:posSpec (runP s (p+2) nmL)=some f) :
    Calls Tryz.prog 139 #[.pointer (some ⟨b,0,none⟩)] w fun e w'=>NamedOut w b s fr perl f (p+2+(runP s (p+2) nmL).length+2) e w':=by
  have HR:=hid h
  have HN:=hid hn
  have HE:=hid he
  have hle:p+2≤s.size:=stands_le (p:=⟨#[91,58]⟩) hp hn
  have hrl:=runP_le s (p+2) nmL
  have hle2:p+2+(runP s (p+2) nmL).length+2≤s.size:=stands_le (p:=⟨#[58,93]⟩) (by omega) he
  obtain ⟨n,hn0⟩:∃ n,n=(runP s (p+2) nmL).length:=⟨_,rfl⟩
  rw [← hn0] at hle2 hrl
  have t1:=tail_size s (p+2)
  have t2:=tail_size s (p+2+n)
  have HC:=hid (classes_Posix ⟨(runP s (p+2) nmL).toArray⟩)
  have HX:=hid (show (tail s (p+2)).extract 0 n=⟨(runP s (p+2) nmL).toArray⟩ by rw [hn0];exact run_head s (p+2) nmL)
  have HS:=hid hsp
  have HN0:=hid hn0
  clear h hn he hsp
  obtain ⟨nm,hnm⟩:∃ nm:ByteArray,nm=⟨(runP s (p+2) nmL).toArray⟩:=⟨_,rfl⟩
  have hnms:nm.size=n:=by rw [hnm,hn0];show (runP s (p+2) nmL).toArray.size=_;simp
  have HNM:=hid (show nm.data.toList=runP s (p+2) nmL by rw [hnm])
  rw [← hnm] at HC HX
  clear hnm hn0
  go_enter Tryz.func139, Tryz.ntmps139
  go_wp2_with fail
  refine (br_rest b s p _ _ _ HR.out hp).mono ?_
  rintro e w1 ⟨rfl,hR,hB⟩
  have R1:=hid hR;have B1:=hid hB;clear hR hB
  go_wp2_with fail
  refine (Tryz.strings_CutPrefix (tail s p) ⟨#[91,58]⟩ _).mono ?_
  rintro e w2 ⟨rfl,rfl⟩
  rw [show Lib.hasPrefix (tail s p).data.toList (⟨#[91,58]⟩:ByteArray).data.toList=true by rw [tail_toList];exact HN.out,show (⟨#[91,58]⟩:ByteArray).data.toList=[91,58] from rfl,cut_toList s p _ HN.out]
  go_wp2_with fail
  refine (Any.strings_TrimLeft_laid Tryz.lays161 (by kernel_rfl) _ ⟨#[97,98,99,100,101,102,103,104,105,106,107,108,109,110,111,112,113,114,115,116,117,118,119,120,121,122,94]⟩ _ (by decide) nmL_ascii).mono ?_
  rintro e w3 ⟨rfl,hB⟩
  have R3:=hid (Rd.below R1.out hB R1.out.lt);have B3:=hid (below_then B1.out hB);clear hB
  rw [show (⟨#[97,98,99,100,101,102,103,104,105,106,107,108,109,110,111,112,113,114,115,116,117,118,119,120,121,122,94]⟩:ByteArray).data.toList=nmL from rfl,trim_tail,← HN0.out]
  go_wp2_with fail
  refine (Tryz.strings_HasPrefix _ _ _).mono ?_
  rintro e w4 ⟨rfl,rfl⟩
  rw [tail_toList,show Lib.hasPrefix (List.drop (p+2+n) s.data.toList) (⟨#[58,93]⟩:ByteArray).data.toList=true by rw [HN0.out];exact HE.out]
  have c1:=Rd.c1 R3.out
  have hdif:(((tail s (p+2)).size:Int) - ((tail s (p+2+n)).size:Int))=(n:Int):=by omega
  have hsz:n≤(tail s (p+2)).size:=by omega
  have hsz1:(n:Int)≤((tail s (p+2)).size:Int):=by omega
  have hszm:(tail s (p+2)).size≤1000000000000000:=by omega
  have hsub:IntKind.i64.wrap (((tail s (p+2)).size:Int) - ((tail s (p+2+n)).size:Int))=(n:Int):=by rw [hdif];exact IntWalk.i64_in _ (by omega)
  have hx:(tail s (p+2)).extract 0 n=nm:=HX.out
  go_wp2_with fail
  go_quiet (fail)
  clear hdif hsub
  have f1:∀ k,(w4.drewN k).frozen? ⟨b,1,none⟩=false:=fun k=>Rd.f1 R3.out
  have g1:=fun k=>(show (w4.drewN k).cell? ⟨b,1,none⟩=some (.int .i64 p) from c1)
  go_wp2_with fail
  rw [show s.size - (p+2) - (s.size - (p+2+n))=n by omega,HX.out]
  have e1:((p:Int)+((n:Int)+4))=((p+2+n+2:Nat):Int):=by omega
  rw [e1]
  have R5:=hid (show BrR ((w4.drewN nq).setCell ⟨b,1,none⟩ (.int .i64 (p+2+n+2:Nat))) b s (p+2+n+2) fr perl from Rd.move (Blk.drewN R3.out nq) _)
  have G5:=hid (show w.grownBy ((w4.drewN nq).setCell ⟨b,1,none⟩ (.int .i64 (p+2+n+2:Nat))) (some b) from grownBy_trans (grownBy_trans (grownBy_below B3.out _) (grownBy_drewN _ _ _)) (grownBy_setCell _ _ _ _))
  clear e1 f1 g1 c1
  generalize (w4.drewN nq).setCell ⟨b,1,none⟩ (.int .i64 (p+2+n+2:Nat))=W5 at R5 G5 ⊢
  refine (HC.out W5).mono ?_
  rw [HNM.out,HS.out]
  rintro e w6 ⟨v,out,rfl,hL,hI,hN6,hB⟩
  obtain ⟨sa,sc,rfl,_,_⟩:=Laid.ranges hL (by omega)
  have R6:=hid (Rd.below R5.out hB R5.out.lt);have G6:=hid (grownBy_trans G5.out (grownBy_below hB _));have HL:=hid hL;have HI:=hid hI;have HL6:=hid hN6;have Z:=hid G5.out.size
  clear hL hI hN6 hB
  have g1:=Rd.c1 R6.out
  simp only [Option.isSome_some]
  go_wp2_with fail
  go_ret2
  exact ⟨_,out,rfl,Joins.ownsRow_le HL.out Z.out,HI.out,HL6.out,by rw [← HN0.out];exact R6.out,G6.out⟩
theorem named_bad (b:Nat) (s:ByteArray) (p:Nat) (fr:Int) (perl:Bool) (w:World) (h:BrR w b s p fr perl) (hp:p≤s.size) (hs:s.size≤1000000000000000) (hn:stands s p [91,58]=true)
    (he:stands s (p+2+(runP s (p+2) nmL).length) [58,93]=true) (hsp:posSpec (runP s (p+2) nmL)=none) :
    Calls Tryz.prog 139 #[.pointer (some ⟨b,0,none⟩)] w fun e w'=>e=wrongE 72 p (p+2+(runP s (p+2) nmL).length+2:Nat)∧w.grownBy w' (some b):=by
  have HR:=hid h
  have HN:=hid hn
  have HE:=hid he
  have hle:p+2≤s.size:=stands_le (p:=⟨#[91,58]⟩) hp hn
  have hrl:=runP_le s (p+2) nmL
  have hle2:p+2+(runP s (p+2) nmL).length+2≤s.size:=stands_le (p:=⟨#[58,93]⟩) (by omega) he
  obtain ⟨n,hn0⟩:∃ n,n=(runP s (p+2) nmL).length:=⟨_,rfl⟩
  rw [← hn0] at hle2 hrl
  have t1:=tail_size s (p+2)
  have t2:=tail_size s (p+2+n)
  have HC:=hid (classes_Posix ⟨(runP s (p+2) nmL).toArray⟩)
  have HX:=hid (show (tail s (p+2)).extract 0 n=⟨(runP s (p+2) nmL).toArray⟩ by rw [hn0];exact run_head s (p+2) nmL)
  have HS:=hid hsp
  have HN0:=hid hn0
  clear h hn he hsp
  obtain ⟨nm,hnm⟩:∃ nm:ByteArray,nm=⟨(runP s (p+2) nmL).toArray⟩:=⟨_,rfl⟩
  have hnms:nm.size=n:=by rw [hnm,hn0];show (runP s (p+2) nmL).toArray.size=_;simp
  have HNM:=hid (show nm.data.toList=runP s (p+2) nmL by rw [hnm])
  rw [← hnm] at HC HX
  clear hnm hn0
  go_enter Tryz.func139, Tryz.ntmps139
  go_wp2_with fail
  refine (br_rest b s p _ _ _ HR.out hp).mono ?_
  rintro e w1 ⟨rfl,hR,hB⟩
  have R1:=hid hR;have B1:=hid hB;clear hR hB
  go_wp2_with fail
  refine (Tryz.strings_CutPrefix (tail s p) ⟨#[91,58]⟩ _).mono ?_
  rintro e w2 ⟨rfl,rfl⟩
  rw [show Lib.hasPrefix (tail s p).data.toList (⟨#[91,58]⟩:ByteArray).data.toList=true by rw [tail_toList];exact HN.out,show (⟨#[91,58]⟩:ByteArray).data.toList=[91,58] from rfl,cut_toList s p _ HN.out]
  go_wp2_with fail
  refine (Any.strings_TrimLeft_laid Tryz.lays161 (by kernel_rfl) _ ⟨#[97,98,99,100,101,102,103,104,105,106,107,108,109,110,111,112,113,114,115,116,117,118,119,120,121,122,94]⟩ _ (by decide) nmL_ascii).mono ?_
  rintro e w3 ⟨rfl,hB⟩
  have R3:=hid (Rd.below R1.out hB R1.out.lt);have B3:=hid (below_then B1.out hB);clear hB
  rw [show (⟨#[97,98,99,100,101,102,103,104,105,106,107,108,109,110,111,112,113,114,115,116,117,118,119,120,121,122,94]⟩:ByteArray).data.toList=nmL from rfl,trim_tail,← HN0.out]
  go_wp2_with fail
  refine (Tryz.strings_HasPrefix _ _ _).mono ?_
  rintro e w4 ⟨rfl,rfl⟩
  rw [tail_toList,show Lib.hasPrefix (List.drop (p+2+n) s.data.toList) (⟨#[58,93]⟩:ByteArray).data.toList=true by rw [HN0.out];exact HE.out]
  have c1:=Rd.c1 R3.out
  have hdif:(((tail s (p+2)).size:Int) - ((tail s (p+2+n)).size:Int))=(n:Int):=by omega
  have hsz:n≤(tail s (p+2)).size:=by omega
  have hsz1:(n:Int)≤((tail s (p+2)).size:Int):=by omega
  have hszm:(tail s (p+2)).size≤1000000000000000:=by omega
  have hsub:IntKind.i64.wrap (((tail s (p+2)).size:Int) - ((tail s (p+2+n)).size:Int))=(n:Int):=by rw [hdif];exact IntWalk.i64_in _ (by omega)
  have hx:(tail s (p+2)).extract 0 n=nm:=HX.out
  go_wp2_with fail
  go_quiet (fail)
  clear hdif hsub
  have f1:∀ k,(w4.drewN k).frozen? ⟨b,1,none⟩=false:=fun k=>Rd.f1 R3.out
  have g1:=fun k=>(show (w4.drewN k).cell? ⟨b,1,none⟩=some (.int .i64 p) from c1)
  go_wp2_with fail
  rw [show s.size - (p+2) - (s.size - (p+2+n))=n by omega,HX.out]
  have e1:((p:Int)+((n:Int)+4))=((p+2+n+2:Nat):Int):=by omega
  rw [e1]
  have R5:=hid (show BrR ((w4.drewN nq).setCell ⟨b,1,none⟩ (.int .i64 (p+2+n+2:Nat))) b s (p+2+n+2) fr perl from Rd.move (Blk.drewN R3.out nq) _)
  have G5:=hid (show w.grownBy ((w4.drewN nq).setCell ⟨b,1,none⟩ (.int .i64 (p+2+n+2:Nat))) (some b) from grownBy_trans (grownBy_trans (grownBy_below B3.out _) (grownBy_drewN _ _ _)) (grownBy_setCell _ _ _ _))
  clear e1 f1 g1 c1
  generalize (w4.drewN nq).setCell ⟨b,1,none⟩ (.int .i64 (p+2+n+2:Nat))=W5 at R5 G5 ⊢
  refine (HC.out W5).mono ?_
  rw [HNM.out,HS.out]
  rintro e w6 ⟨v,out,rfl,hL,hI,hN6,hB⟩
  obtain ⟨sa,sc,rfl,_,_⟩:=Laid.ranges hL (by omega)
  have R6:=hid (Rd.below R5.out hB R5.out.lt);have G6:=hid (grownBy_trans G5.out (grownBy_below hB _));have HL:=hid hL;have HI:=hid hI;have HL6:=hid hN6;have Z:=hid G5.out.size
  clear hL hI hN6 hB
  have g1:=Rd.c1 R6.out
  simp only [Option.isSome_none]
  go_wp2_with fail
  refine (br_stop _ _ _ _).mono ?_
  rintro e w9 ⟨rfl,rfl⟩
  exact ⟨rfl,by rw [← HN0.out,show ((p+2+n+2:Nat):Int)=(p:Int)+2+n+2 by omega],G6.out⟩
theorem item_named (b:Nat) (s:ByteArray) (p:Nat) (fr:Int) (perl:Bool) (w:World) (h:BrR w b s p fr perl) (hp:p≤s.size) (hs:s.size≤1000000000000000) (hn:stands s p [91,58]=true)
    (he:stands s (p+2+(runP s (p+2) nmL).length) [58,93]=true) (f:Int→Bool) (hsp:posSpec (runP s (p+2) nmL)=some f) :
    Calls Tryz.prog 108 #[.pointer (some ⟨b,0,none⟩)] w (ItemOut w b s fr perl (.ok f (p+2+(runP s (p+2) nmL).length+2))):=by
  have HC:=hid (named_yes b s p fr perl w h hp hs hn he f hsp)
  have c1:=Rd.c1 h
  clear h hn he hsp
  go_enter Tryz.func108, Tryz.ntmps108
  go_wp2_with fail
  refine (HC.out).mono ?_
  rintro e w1 ⟨v,out,rfl,hL,hI,hN,hR,hG⟩
  obtain ⟨sa,sc,rfl,_,_⟩:=Laid.ranges hL (by omega)
  have R1:=hid hR;have G1:=hid hG;have HL:=hid hL;have HI:=hid hI;have HN:=hid hN;clear hR hG hL hI hN
  go_wp2_with fail
  refine bodyPost_ret (v:=.slice sa out.length sc) ?_ rfl ⟨G1.out,_,out,rfl,HL.out,?_,HN.out,R1.out⟩
  · simp [results,Tryz.results108]
  · intro c h0 h1;rw [HI.out.2 c];simp [h0,h1]
theorem item_nambad (b:Nat) (s:ByteArray) (p:Nat) (fr:Int) (perl:Bool) (w:World) (h:BrR w b s p fr perl) (hp:p≤s.size) (hs:s.size≤1000000000000000) (hn:stands s p [91,58]=true)
    (he:stands s (p+2+(runP s (p+2) nmL).length) [58,93]=true) (hsp:posSpec (runP s (p+2) nmL)=none) :
    Calls Tryz.prog 108 #[.pointer (some ⟨b,0,none⟩)] w (ItemOut w b s fr perl (.wrong 72 p (p+2+(runP s (p+2) nmL).length+2:Nat))):=by
  have HC:=hid (named_bad b s p fr perl w h hp hs hn he hsp)
  have c1:=Rd.c1 h
  clear h hn he hsp
  go_enter Tryz.func108, Tryz.ntmps108
  go_wp2_with fail
  refine (HC.out).mono ?_
  rintro e w1 ⟨rfl,hG⟩
  exact ⟨rfl,hG,rfl⟩
end Go.Proofs.YtnhnldmldnhaoaaGreatDoor
namespace Go.Proofs.YtnhnldmldnhaoaaGreatDoor
open Go Go.RowKit Go.Proofs Go.Shelf
def EscOk:EscR→Prop
  | .lit k _ _ _=>k≠2
  | .wrong e _ _=>e≠0
  | .set _ _=>True
theorem escP_ok (s:ByteArray) (p:Nat) (perl:Bool):EscOk (escP s p perl):=by
  unfold escP
  split
  · show (1:Int)≠0;decide
  split
  · show (62:Int)≠0;decide
  split
  · show (1:Int)≠2;decide
  split
  · show (1:Int)≠2;decide
  split
  · unfold escX
    split
    · show (1:Int)≠2;decide
    · show (61:Int)≠0;decide
  split
  · unfold escPr
    split
    · show (61:Int)≠0;decide
    · split
      · show (63:Int)≠0;decide
      · trivial
  split
  · show (61:Int)≠0;decide
  unfold escPl
  split
  · show (3:Int)≠2;decide
  split
  · show (4:Int)≠2;decide
  split
  · show (61:Int)≠0;decide
  · trivial
theorem oneP_ok (s:ByteArray) (p:Nat) (perl:Bool):EscOk (oneP s p perl):=by
  unfold oneP
  split
  · exact escP_ok s p perl
  · show (1:Int)≠2;decide
theorem one_any (b:Nat) (s:ByteArray) (p:Nat) (fr:Int) (perl:Bool) (w:World) (h:BrR w b s p fr perl) (hT:Tabs w) (hp:p < s.size) (hs:s.size≤140737488355328) :
    Calls Tryz.prog 140 #[.pointer (some ⟨b,0,none⟩)] w (OneOut w b s fr perl (oneP s p perl)):=by
  unfold oneP
  by_cases hn:stands s p [92]=true
  · rw [if_pos hn]
    have hq:=escP_q s p perl (by omega)
    have hk:=escP_ok s p perl
    cases he:escP s p perl with
    | wrong x f t=>rw [he] at hk;exact one_bad b s p fr perl w h hT hp hs hn x f t hk he
    | lit k r a q=>
      rw [he] at hq
      obtain ⟨Q,rfl,_,_⟩:=hq
      exact one_lit b s p fr perl w h hT hp hs hn k r a Q he
    | set f q=>
      rw [he] at hq
      obtain ⟨Q,rfl,_,_⟩:=hq
      exact one_set b s p fr perl w h hT hp hs hn f Q he
  · rw [if_neg hn]
    exact one_rune b s p fr perl w h hT hp hs (Bool.eq_false_iff.2 hn)
theorem take_while_len {α:Type} (f:α→Bool) (l:List α):l.take (l.takeWhile f).length=l.takeWhile f:=by
  induction l with
  | nil=>rfl
  | cons x l ih=>
    by_cases hx:f x=true
    · rw [List.takeWhile_cons_of_pos hx,List.length_cons,List.take_succ_cons,ih]
    · rw [List.takeWhile_cons_of_neg hx];rfl
theorem item_any (b:Nat) (s:ByteArray) (p:Nat) (fr:Int) (perl:Bool) (w:World) (h:BrR w b s p fr perl) (hT:Tabs w) (h0:0≠b) (h1:1≠b) (hp:p≤s.size) (hs:s.size≤100000000000) :
    Calls Tryz.prog 108 #[.pointer (some ⟨b,0,none⟩)] w (ItemOut w b s fr perl (itemP s p perl fr)):=by
  have HO:∀ q,q < s.size→∀ r,oneP s q perl=r→∀ W,BrR W b s q fr perl→w.grownBy W (some b)→Calls Tryz.prog 140 #[.pointer (some ⟨b,0,none⟩)] W (OneOut W b s fr perl r):=fun q hq r hr W hW hG=>by
    rw [← hr];exact one_any b s q fr perl W hW (hT.grown hG h0 h1) hq (by omega)
  unfold itemP
  cases hn:namedP s p with
  | some k=>
    unfold namedP at hn
    by_cases c1:stands s p [91,58]=true
    · rw [if_pos c1] at hn
      by_cases c2:stands s (p+2+(runP s (p+2) nmL).length) [58,93]=true
      · rw [if_pos c2] at hn
        cases hn
        have hx:(List.drop (p+2) s.data.toList).take (p+2+(runP s (p+2) nmL).length - (p+2))=runP s (p+2) nmL:=by
          rw [Nat.add_sub_cancel_left];exact take_while_len _ _
        simp only
        rw [hx]
        cases hsp:posSpec (runP s (p+2) nmL) with
        | none=>exact item_nambad b s p fr perl w h hp (by omega) c1 c2 hsp
        | some f=>exact item_named b s p fr perl w h hp (by omega) c1 c2 f hsp
      · rw [if_neg c2] at hn;cases hn
    · rw [if_neg c1] at hn;cases hn
  | none=>
    simp only
    by_cases hz:s.size≤p
    · rw [if_pos hz]
      exact (item_end b s p fr perl w h (by omega) hn).mono fun _ _ ⟨he,hg⟩=>⟨hg,he⟩
    rw [if_neg hz]
    have hp':p < s.size:=by omega
    have hq:=oneP_q s p perl hp'
    have hk:=oneP_ok s p perl
    cases ho:oneP s p perl with
    | wrong x f t=>exact item_wrong b s p fr perl w h hp' hn x f t (HO p hp' _ ho)
    | set f q=>exact item_set b s p fr perl w h hp' hn f q (HO p hp' _ ho)
    | lit k r a q=>
      rw [ho] at hq hk
      obtain ⟨Q,rfl,hq1,hq2⟩:=hq
      simp only [Int.toNat_natCast]
      by_cases hk1:k=1
      · subst hk1
        rw [if_neg (by simp)]
        have HO1:=HO p hp' _ ho
        by_cases hr:rangedP s Q=true
        · rw [if_pos hr]
          unfold rangedP at hr
          simp only [Bool.and_eq_true,decide_eq_true_eq,Bool.not_eq_true'] at hr
          obtain ⟨⟨h45,hl⟩,h93⟩:=hr
          have hq':=oneP_q s (Q+1) perl hl
          cases ho2:oneP s (Q+1) perl with
          | wrong x f t=>exact range_wrong b s p fr perl w h hp' hn (by omega) r a Q HO1 hq2 hl h93 h45 x f t (HO (Q+1) hl _ ho2)
          | set f q2=>
            rw [ho2] at hq'
            obtain ⟨Q2,rfl,_,_⟩:=hq'
            exact range_set b s p fr perl w h hp' hn (by omega) r a Q HO1 hq2 hl h93 h45 f Q2 Q2 rfl (HO (Q+1) hl _ ho2)
          | lit k2 r2 a2 q2=>
            rw [ho2] at hq'
            obtain ⟨Q2,rfl,_,_⟩:=hq'
            simp only [Int.toNat_natCast]
            by_cases hk2:k2=1
            · subst hk2
              by_cases hlt:r2 < r
              · rw [if_pos (.inr hlt)]
                exact range_falls b s p fr perl w h hp' hn (by omega) r a Q HO1 hq2 hl h93 h45 r2 a2 Q2 Q2 rfl hlt (HO (Q+1) hl _ ho2)
              · rw [if_neg (by simp [hlt])]
                exact range_right b s p fr perl w h hp' hn (by omega) r a Q HO1 hq2 hl h93 h45 r2 a2 Q2 Q2 rfl hlt (HO (Q+1) hl _ ho2)
            · rw [if_pos (.inl hk2)]
              exact range_kind b s p fr perl w h hp' hn (by omega) r a Q HO1 hq2 hl h93 h45 k2 r2 a2 Q2 Q2 rfl hk2 (HO (Q+1) hl _ ho2)
        · rw [if_neg hr]
          by_cases hl:s.size≤Q+1
          · exact item_last b s p fr perl w h hp' hn r a Q HO1 hq2 hl
          by_cases h93:stands s (Q+1) [93]=true
          · exact item_shut b s p fr perl w h hp' hn r a Q HO1 hq2 (by omega) h93
          · refine item_alone b s p fr perl w h hp' hn r a Q HO1 hq2 (by omega) (Bool.eq_false_iff.2 h93) ?_
            rw [Bool.eq_false_iff]
            intro h45
            exact hr (by unfold rangedP;rw [h45,Bool.eq_false_iff.2 h93,decide_eq_true (show Q+1 < s.size by omega)];rfl)
      · rw [if_pos hk1]
        exact item_kind b s p fr perl w h hp' hn k r a Q Q rfl hk1 hk (HO p hp' _ ho)
end Go.Proofs.YtnhnldmldnhaoaaGreatDoor
namespace Go.Proofs.YtnhnldmldnhaoaaGreatDoor
open Go Go.RowKit Go.Proofs Go.Shelf
theorem class_idle (a b c:Value) (w:World) :
    CallsD Tryz.prog 107 #[a,b,c] .returning w fun e u' w'=>e = .returned (.tuple #[])∧u' = .returning∧w'=w:=by
  have hnn:∀ w,(binOp .eql 20 .nilIface .nilIface).run Tryz.prog w = .ok (.bool true) w:=fun w=>by kernel_rfl
  refine callsD_of_wpS Tryz.func107 rfl fun c₀ cs hu=>?_
  apply wpS_seq
  apply wpS_region
  simp [wpOpsS,go_sem,recoverD,hu,Tryz.ntmps107,Exit.thenS]
  refine wpS_of_wp ?_
  go_wp2_with fail
  cases c₀
  simp_all [bodyPostS,results,Tryz.results107]
theorem class_caught (b6 b7 b8 B:Nat) (v6 v7 v0 v1 v2:Value) (t6 t7:TypeId) (e f t:Int) (w:World) (h6:Blk w b6 [v6] t6) (h7:Blk w b7 [v7] t7) (h8:Blk w b8 [v0,v1,v2] 32) (h67:b6≠b7) (h68:b6≠b8) (h78:b7≠b8) (hB6:B≤b6) (hB7:B≤b7) (hB8:B≤b8) (hBw:B≤w.heap.size) :
    CallsD Tryz.prog 107 #[.pointer (some ⟨b6,0,none⟩),.pointer (some ⟨b7,0,none⟩),.pointer (some ⟨b8,0,none⟩)] (.panicking [{ v:=.iface 32 (wrongV e f t),recovered:=false }]) w fun en u' w'=>
      en = .returned (.tuple #[])∧u' = .panicking [{ v:=.iface 32 (wrongV e f t),recovered:=true }]∧Blk w' b6 [.slice none 0 0] t6∧Blk w' b7 [.int .i64 0] t7∧Blk w' b8 [.int .i64 e,.int .i64 f,.int .i64 t] 32∧Below B w w':=by
  have hta:∀ (w:World) (x:Value),(Instr.typeAssert (.iface 32 x) 20 32 true).run Tryz.prog w = .ok (.tuple #[x,.bool true]) w:=fun w x=>by kernel_rfl
  have hnn:∀ w v,(binOp .eql 20 (.iface 32 v) .nilIface).run Tryz.prog w = .ok (.bool false) w:=fun w v=>by kernel_rfl
  refine callsD_of_wpS Tryz.func107 rfl fun c₀ cs hu=>?_
  apply wpS_seq
  apply wpS_region
  simp [wpOpsS,go_sem,recoverD,hu,Tryz.ntmps107,Exit.thenS]
  rw [show (#[.pointer (some ⟨b6,0,none⟩),.pointer (some ⟨b7,0,none⟩),.pointer (some ⟨b8,0,none⟩)] ++ ((Array.replicate 10 undef).setIfInBounds 3 (.iface 32 (wrongV e f t))):Array Value) = #[.pointer (some ⟨b6,0,none⟩),.pointer (some ⟨b7,0,none⟩),.pointer (some ⟨b8,0,none⟩),undef,undef,undef,.iface 32 (wrongV e f t),undef,undef,undef,undef,undef,undef] from rfl]
  refine wpS_of_wp ?_
  go_wp2_with fail
  have N:=Blk.new w [.int .i64 e,.int .i64 f,.int .i64 t] 32
  have K6:=h6.alloc (.cells #[.int .i64 e,.int .i64 f,.int .i64 t] 32)
  have K7:=h7.alloc (.cells #[.int .i64 e,.int .i64 f,.int .i64 t] 32)
  have K8:=h8.alloc (.cells #[.int .i64 e,.int .i64 f,.int .i64 t] 32)
  have KB:=(Below.refl B w).alloc hBw (.cells #[.int .i64 e,.int .i64 f,.int .i64 t] 32)
  have x6:w.heap.size≠b6:=by have:=h6.lt;omega
  have x7:w.heap.size≠b7:=by have:=h7.lt;omega
  have x8:w.heap.size≠b8:=by have:=h8.lt;omega
  have y6:=x6.symm;have y7:=x7.symm;have y8:=x8.symm;have h76:=h67.symm;have h86:=h68.symm;have h87:=h78.symm
  change Blk (w.alloc (.cells #[.int .i64 e,.int .i64 f,.int .i64 t] 32)) _ _ _ at N
  generalize w.alloc (.cells #[.int .i64 e,.int .i64 f,.int .i64 t] 32)=W at N K6 K7 K8 KB ⊢
  generalize w.heap.size=X at N x6 x7 x8 y6 y7 y8 ⊢
  have n0:=Blk.cell N (j:=0) rfl;have n1:=Blk.cell N (j:=1) rfl;have n2:=Blk.cell N (j:=2) rfl
  have f6:=K6.frozen 0;have f7:=K7.frozen 0;have f80:=K8.frozen 0;have f81:=K8.frozen 1;have f82:=K8.frozen 2
  have c6:=Blk.cell K6 (j:=0) rfl;have c7:=Blk.cell K7 (j:=0) rfl;have c80:=Blk.cell K8 (j:=0) rfl;have c81:=Blk.cell K8 (j:=1) rfl;have c82:=Blk.cell K8 (j:=2) rfl
  have HKB:=hid KB;have HN:=hid N;have HK6:=hid K6;have HK7:=hid K7;have HK8:=hid K8
  clear N K6 K7 K8 KB h6 h7 h8 hta hnn
  go_region
  all_goals
    have A6:Blk (((((W.setCell ⟨b6,0,none⟩ (.slice none 0 0)).setCell ⟨b7,0,none⟩ (.int .i64 0)).setCell ⟨b8,0,none⟩ (.int .i64 e)).setCell ⟨b8,1,none⟩ (.int .i64 f)).setCell ⟨b8,2,none⟩ (.int .i64 t)).drew b6 [.slice none 0 0] t6:=Blk.drew <| ((((HK6.out.set 0 _).setCell_other (a:=⟨b7,0,none⟩) h67 _).setCell_other (a:=⟨b8,0,none⟩) h68 _).setCell_other (a:=⟨b8,1,none⟩) h68 _).setCell_other (a:=⟨b8,2,none⟩) h68 _
    have A7:Blk (((((W.setCell ⟨b6,0,none⟩ (.slice none 0 0)).setCell ⟨b7,0,none⟩ (.int .i64 0)).setCell ⟨b8,0,none⟩ (.int .i64 e)).setCell ⟨b8,1,none⟩ (.int .i64 f)).setCell ⟨b8,2,none⟩ (.int .i64 t)).drew b7 [.int .i64 0] t7:=Blk.drew <| (((((HK7.out.setCell_other (a:=⟨b6,0,none⟩) h76 _).set 0 _)).setCell_other (a:=⟨b8,0,none⟩) h78 _).setCell_other (a:=⟨b8,1,none⟩) h78 _).setCell_other (a:=⟨b8,2,none⟩) h78 _
    have A8:Blk (((((W.setCell ⟨b6,0,none⟩ (.slice none 0 0)).setCell ⟨b7,0,none⟩ (.int .i64 0)).setCell ⟨b8,0,none⟩ (.int .i64 e)).setCell ⟨b8,1,none⟩ (.int .i64 f)).setCell ⟨b8,2,none⟩ (.int .i64 t)).drew b8 [.int .i64 e,.int .i64 f,.int .i64 t] 32:=Blk.drew <| ((((HK8.out.setCell_other (a:=⟨b6,0,none⟩) h86 _).setCell_other (a:=⟨b7,0,none⟩) h87 _).set 0 _).set 1 _).set 2 _
    have AB:Below B w (((((W.setCell ⟨b6,0,none⟩ (.slice none 0 0)).setCell ⟨b7,0,none⟩ (.int .i64 0)).setCell ⟨b8,0,none⟩ (.int .i64 e)).setCell ⟨b8,1,none⟩ (.int .i64 f)).setCell ⟨b8,2,none⟩ (.int .i64 t)).drew:=(((((HKB.out.setCell hB6 _).setCell hB7 _).setCell hB8 _).setCell hB8 _).setCell hB8 _).drew
    refine ⟨rfl,_,rfl,.tuple #[],?_,rfl,rfl,A6,A7,A8,AB⟩
    simp [results,Tryz.results107]
end Go.Proofs.YtnhnldmldnhaoaaGreatDoor
namespace Go.Proofs.YtnhnldmldnhaoaaGreatDoor
open Go Go.RowKit Go.Proofs Go.Shelf
structure ClsAt (w W:World) (s:ByteArray) (q:Nat) (p:Nat) (perl:Bool):Prop where
  k6:Blk W w.heap.size [.slice none 0 0] 26
  k7:Blk W (w.heap.size+1) [.int .i64 0] 3
  k8:Blk W (w.heap.size+1+1) [.int .i64 0,.int .i64 0,.int .i64 0] 32
  rd:BrR W (w.heap.size+1+1+1) s q p perl
  bl:Below w.heap.size w W
theorem ClsAt.start (w:World) (s:ByteArray) (p:Nat) (perl:Bool):ClsAt w ((((w.alloc (.cells #[.slice none 0 0] 26)).alloc (.cells #[.int .i64 0] 3)).alloc (.cells #[.int .i64 0,.int .i64 0,.int .i64 0] 32)).alloc (.cells #[.string s,.int .i64 p,.int .i64 p,.bool perl] 159)) s p p perl:=by
  have z1:(w.alloc (.cells #[.slice none 0 0] 26)).heap.size=w.heap.size+1:=World.size_alloc _ _
  have z2:((w.alloc (.cells #[.slice none 0 0] 26)).alloc (.cells #[.int .i64 0] 3)).heap.size=w.heap.size+1+1:=by rw [World.size_alloc,z1]
  have z3:(((w.alloc (.cells #[.slice none 0 0] 26)).alloc (.cells #[.int .i64 0] 3)).alloc (.cells #[.int .i64 0,.int .i64 0,.int .i64 0] 32)).heap.size=w.heap.size+1+1+1:=by rw [World.size_alloc,z2]
  refine ⟨(((Blk.new w [.slice none 0 0] 26).alloc _).alloc _).alloc _,?_,?_,?_,?_⟩
  · rw [← z1];exact ((Blk.new _ [.int .i64 0] 3).alloc _).alloc _
  · rw [← z2];exact (Blk.new _ [.int .i64 0,.int .i64 0,.int .i64 0] 32).alloc _
  · rw [← z3];exact Blk.new _ [.string s,.int .i64 p,.int .i64 p,.bool perl] 159
  · exact ((((Below.refl _ w).alloc (Nat.le_refl _) _).alloc (by simp) _).alloc (by simp;omega) _).alloc (by simp;omega) _
theorem ClsAt.grown {w W W':World} {s:ByteArray} {q p:Nat} {perl:Bool} (h:ClsAt w W s q p perl) (hg:W.grownBy W' (some (w.heap.size+1+1+1))) {q':Nat} (hr:BrR W' (w.heap.size+1+1+1) s q' p perl):ClsAt w W' s q' p perl:=
  ⟨h.k6.grown hg (ne_some (by omega)),h.k7.grown hg (ne_some (by omega)),h.k8.grown hg (ne_some (by omega)),hr,below_next h.bl (by have:=h.k6.lt;omega) hg (fun k e=>by cases e;omega)⟩
structure ClsCells (w W:World):Prop where
  c6:W.cell? ⟨w.heap.size,0,none⟩=some (.slice none 0 0)
  c7:W.cell? ⟨w.heap.size+1,0,none⟩=some (.int .i64 0)
  c80:W.cell? ⟨w.heap.size+1+1,0,none⟩=some (.int .i64 0)
  c81:W.cell? ⟨w.heap.size+1+1,1,none⟩=some (.int .i64 0)
  c82:W.cell? ⟨w.heap.size+1+1,2,none⟩=some (.int .i64 0)
  f6:W.frozen? ⟨w.heap.size,0,none⟩=false
  f7:W.frozen? ⟨w.heap.size+1,0,none⟩=false
  f80:W.frozen? ⟨w.heap.size+1+1,0,none⟩=false
  f81:W.frozen? ⟨w.heap.size+1+1,1,none⟩=false
  f82:W.frozen? ⟨w.heap.size+1+1,2,none⟩=false
theorem ClsAt.cells {w W:World} {s:ByteArray} {q p:Nat} {perl:Bool} (h:ClsAt w W s q p perl):ClsCells w W:=
  ⟨Blk.cell h.k6 rfl,Blk.cell h.k7 rfl,Blk.cell h.k8 rfl,Blk.cell h.k8 rfl,Blk.cell h.k8 rfl,h.k6.frozen 0,h.k7.frozen 0,h.k8.frozen 0,h.k8.frozen 1,h.k8.frozen 2⟩
theorem cls_closed (s:ByteArray) (p:Nat) (f:Int) (w:World) (hp:p≤s.size) (perl:Bool) (hP:(bits BinOp.and IntKind.i64 f 32 != 0)=perl) (hn:stands s p [91]=false) :
    Calls Tryz.prog 79 #[.string s,.int .i64 p,.int .i64 f] w (ClsOut w (.wrong 1 p p)):=by
  have HA:=hid (ClsAt.start w s p perl)
  go_enter_defers Tryz.func79, Tryz.ntmps79
  go_wp2_with fail
  refine (br_has_no (w.heap.size+1+1+1) s ⟨#[91]⟩ p _ _ _ HA.out.rd hp hn).mono ?_
  rintro e w1 ⟨rfl,hR,hG⟩
  have A1:=hid (HA.out.grown hG hR);clear hR hG
  obtain ⟨c6,c7,c80,c81,c82,f6,f7,f80,f81,f82⟩:=A1.out.cells
  go_wp2_with fail
  refine ⟨.tuple #[.slice none 0 0,.int .i64 0,.agg #[.int .i64 1,.int .i64 p,.int .i64 p]],?_,?_,rfl⟩
  · simp [results,Tryz.results79,go_sem,c6,c7,c80,c81,c82]
  · exact ((((A1.out.bl.setCell (by simp) _).setCell (by simp) _).setCell (by simp;omega) _).setCell (by simp;omega) _).setCell (by simp;omega) _
theorem br_has_any (b:Nat) (s p:ByteArray) (i:Nat) (rest:List Value) (t:TypeId) (w:World) (h:Rd w b s i rest t) (hi:i≤s.size) (hs:s.size≤1000000000000000) :
    Calls Tryz.prog 106 #[.pointer (some ⟨b,0,none⟩),.string p] w fun e w'=>e = .returned (.bool (stands s i p.data.toList))∧Rd w' b s (if stands s i p.data.toList=true then i+p.size else i) rest t∧w.grownBy w' (some b):=by
  cases hy:stands s i p.data.toList with
  | true=>simpa using br_has_yes b s p i rest t w h hi hs hy
  | false=>simpa using br_has_no b s p i rest t w h hi hy
theorem clsAt_le {s:ByteArray} {p:Nat} (hp:p≤s.size) (hn:stands s p [91]=true):clsAt s p≤s.size∧p < clsAt s p:=by
  have l:p+1≤s.size:=stands_le (p:=⟨#[91]⟩) hp hn
  unfold clsAt
  by_cases c:stands s (p+1) [94]=true
  · rw [if_pos c]
    have l2:p+1+1≤s.size:=stands_le (p:=⟨#[94]⟩) l c
    omega
  · rw [if_neg c];omega
theorem br_not (b:Nat) (s:ByteArray) (p:Nat) (rest:List Value) (t:TypeId) (w:World) (h:Rd w b s (p+1) rest t) (hi:p+1≤s.size) (hs:s.size≤1000000000000000) :
    Calls Tryz.prog 106 #[.pointer (some ⟨b,0,none⟩),.string ⟨#[94]⟩] w fun e w'=>e = .returned (.bool (stands s (p+1) [94]))∧Rd w' b s (clsAt s p) rest t∧w.grownBy w' (some b):=by
  unfold clsAt
  exact br_has_any b s ⟨#[94]⟩ (p+1) rest t w h hi hs
structure ClsBlk (w W:World):Prop where
  k6:Blk W w.heap.size [.slice none 0 0] 26
  k7:Blk W (w.heap.size+1) [.int .i64 0] 3
  k8:Blk W (w.heap.size+1+1) [.int .i64 0,.int .i64 0,.int .i64 0] 32
  bl:Below w.heap.size w W
theorem ClsAt.blk {w W W':World} {s:ByteArray} {q p:Nat} {perl:Bool} (h:ClsAt w W s q p perl) (hg:W.grownBy W' (some (w.heap.size+1+1+1))):ClsBlk w W':=
  ⟨h.k6.grown hg (ne_some (by omega)),h.k7.grown hg (ne_some (by omega)),h.k8.grown hg (ne_some (by omega)),below_next h.bl (by have:=h.k6.lt;omega) hg (fun k e=>by cases e;omega)⟩
theorem cls_caught {w W:World} (A:ClsBlk w W) (x a b:Int) (tmps:Array Value)
    (hr:∀ W',W'.cell? ⟨w.heap.size,0,none⟩=some (.slice none 0 0)→W'.cell? ⟨w.heap.size+1,0,none⟩=some (.int .i64 0)→W'.cell? ⟨w.heap.size+1+1,0,none⟩=some (.int .i64 x)→W'.cell? ⟨w.heap.size+1+1,1,none⟩=some (.int .i64 a)→W'.cell? ⟨w.heap.size+1+1,2,none⟩=some (.int .i64 b)→
      (results Tryz.f79 tmps).run Tryz.prog W' = .ok (.tuple #[.slice none 0 0,.int .i64 0,.agg #[.int .i64 x,.int .i64 a,.int .i64 b]]) W') :
    Leaves Tryz.prog Tryz.f79 tmps (ClsOut w (.wrong x a b)) [{ target:=.fn (.func 107) #[.pointer (some ⟨w.heap.size,0,none⟩),.pointer (some ⟨w.heap.size+1,0,none⟩),.pointer (some ⟨w.heap.size+1+1,0,none⟩)],args:=#[] }] (.panicking [{ v:=.iface 32 (wrongV x a b),recovered:=false }]) W:=by
  refine leaves_cons (by simp) (f:=107) (args:=#[.pointer (some ⟨w.heap.size,0,none⟩),.pointer (some ⟨w.heap.size+1,0,none⟩),.pointer (some ⟨w.heap.size+1+1,0,none⟩)]) (by simp [go_sem]) ?_
  refine (class_caught w.heap.size (w.heap.size+1) (w.heap.size+1+1) w.heap.size _ _ _ _ _ _ _ x a b W A.k6 A.k7 A.k8 (by omega) (by omega) (by omega) (Nat.le_refl _) (by omega) (by omega) (by have:=A.k6.lt;omega)).mono ?_
  rintro e u w' ⟨rfl,rfl,h6,h7,h8,hB⟩
  exact ⟨_,hr w' (Blk.cell h6 rfl) (Blk.cell h7 rfl) (Blk.cell h8 rfl) (Blk.cell h8 rfl) (Blk.cell h8 rfl),A.bl.trans hB,rfl⟩
theorem cls_first (s:ByteArray) (p:Nat) (f:Int) (w:World) (hp:p≤s.size) (hs:s.size≤100000000) (hT:Tabs w) (perl:Bool) (hP:(bits BinOp.and IntKind.i64 f 32 != 0)=perl) (hn:stands s p [91]=true) (x a b:Int) (hi:itemP s (clsAt s p) perl p = .wrong x a b) :
    Calls Tryz.prog 79 #[.string s,.int .i64 p,.int .i64 f] w (ClsOut w (.wrong x a b)):=by
  have HA:=hid (ClsAt.start w s p perl)
  have HT:=hid hT
  have HI:=hid hi
  have l1:p+1≤s.size:=stands_le (p:=⟨#[91]⟩) hp hn
  have l2:=clsAt_le hp hn
  have hlt:=hT.lt
  clear hT hi
  go_enter_defers Tryz.func79, Tryz.ntmps79
  go_wp2_with fail
  refine (br_has_yes (w.heap.size+1+1+1) s ⟨#[91]⟩ p _ _ _ HA.out.rd hp (by omega) hn).mono ?_
  rintro e w1 ⟨rfl,hR,hG⟩
  have A1:=hid (HA.out.grown hG hR);clear hR hG
  go_wp2_with fail
  refine (br_not (w.heap.size+1+1+1) s p _ _ _ A1.out.rd l1 (by omega)).mono ?_
  rintro e w2 ⟨rfl,hR,hG⟩
  have A2:=hid (A1.out.grown hG hR);clear hR hG
  have T2:=hid (HT.out.below A2.out.bl)
  go_wp2_with fail
  refine (item_any (w.heap.size+1+1+1) s (clsAt s p) p perl _ A2.out.rd T2.out (by omega) (by omega) l2.1 (by omega)).mono ?_
  rw [HI.out]
  rintro e w3 ⟨hG,rfl⟩
  exact cls_caught (A2.out.blk hG) x a b _ (fun W' c6 c7 c80 c81 c82=>by simp [results,Tryz.results79,go_sem,c6,c7,c80,c81,c82])
end Go.Proofs.YtnhnldmldnhaoaaGreatDoor
