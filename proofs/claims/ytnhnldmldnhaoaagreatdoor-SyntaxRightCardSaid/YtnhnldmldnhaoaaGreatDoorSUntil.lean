/- What stands ahead of a byte: strings.Cut at one byte, the reader's until. -/
import Derived.Test.YtnhnldmldnhaoaaGreatDoorSScan1
import Derived.Laws.Runes
import Derived.Lib.IndexLaws
import Derived.Test.YtnhnldmldnhaoaaGreatDoorSNext
import Derived.LoopTactic
import Derived.Deep.QuietTactic
import Derived.BigQuiet
import Derived.Test.YtnhnldmldnhaoaaGreatDoorSRefHas
set_option maxRecDepth 100000
set_option maxHeartbeats 16000000
open Go.Lib (hid)
namespace Go.Proofs.YtnhnldmldnhaoaaGreatDoor
open Go Go.RowKit Go.Proofs
theorem indexByte_lt {l:List UInt8} {c:UInt8} {k:Nat} (h:Lib.indexByte l c=k):k < l.length:=by
  have:=(Lib.indexByte_some h).1
  exact (List.getElem?_eq_some_iff.1 this).1
theorem sl_cut_yes (s:ByteArray) (c:UInt8) (k:Nat) (w:World) (hk:Lib.indexByte s.data.toList c=k) (hs:s.size≤1000000000000000) :
    Calls Tryz.prog 137 #[.string s,.string ⟨#[c]⟩] w fun e w'=>e = .returned (.tuple #[.string (s.extract 0 k),.string (s.extract (k+1) s.size),.bool true])∧∃ n,w'=w.drewN n:=by
  have hl:k < s.size:=by have:=indexByte_lt hk;simpa using this
  have HK:=hid hk;clear hk
  have hl1:(k:Int)≤(s.size:Int):=by omega
  have hl2:(k:Int)+1≤(s.size:Int):=by omega
  go_enter Tryz.func137, Tryz.ntmps137
  go_wp2_with fail
  refine (Tryz.stringslite_Index_one s c _).mono ?_
  rintro e w1 ⟨rfl,rfl⟩
  rw [HK.out]
  go_wp2_with fail
  go_quiet (fail)
  go_wp2_with fail
  go_ret3
  exact ⟨rfl,_,rfl⟩
theorem sl_cut_no (s:ByteArray) (c:UInt8) (w:World) (hk:Lib.indexByte s.data.toList c = -1) :
    Calls Tryz.prog 137 #[.string s,.string ⟨#[c]⟩] w fun e w'=>e = .returned (.tuple #[.string s,.string ⟨#[]⟩,.bool false])∧∃ n,w'=w.drewN n:=by
  have HK:=hid hk;clear hk
  go_enter Tryz.func137, Tryz.ntmps137
  go_wp2_with fail
  refine (Tryz.stringslite_Index_one s c _).mono ?_
  rintro e w1 ⟨rfl,rfl⟩
  rw [HK.out]
  go_wp2_with fail
  go_ret3
  exact ⟨rfl,0,rfl⟩
theorem cut_yes (s:ByteArray) (c:UInt8) (k:Nat) (w:World) (hk:Lib.indexByte s.data.toList c=k) (hs:s.size≤1000000000000000) :
    Calls Tryz.prog 105 #[.string s,.string ⟨#[c]⟩] w fun e w'=>e = .returned (.tuple #[.string (s.extract 0 k),.string (s.extract (k+1) s.size),.bool true])∧∃ n,w'=w.drewN n:=by
  go_enter Tryz.func105, Tryz.ntmps105
  go_wp2_with fail
  refine (sl_cut_yes s c k _ hk hs).mono ?_
  rintro e w1 ⟨rfl,n,rfl⟩
  go_wp2_with fail
  go_ret3
  exact ⟨rfl,n,rfl⟩
theorem cut_no (s:ByteArray) (c:UInt8) (w:World) (hk:Lib.indexByte s.data.toList c = -1) :
    Calls Tryz.prog 105 #[.string s,.string ⟨#[c]⟩] w fun e w'=>e = .returned (.tuple #[.string s,.string ⟨#[]⟩,.bool false])∧∃ n,w'=w.drewN n:=by
  go_enter Tryz.func105, Tryz.ntmps105
  go_wp2_with fail
  refine (sl_cut_no s c _ hk).mono ?_
  rintro e w1 ⟨rfl,n,rfl⟩
  go_wp2_with fail
  go_ret3
  exact ⟨rfl,n,rfl⟩
theorem scan_until_yes (b:Nat) (s:ByteArray) (c:UInt8) (p k:Nat) (rest:List Value) (t:TypeId) (w:World) (h:Rd w b s p rest t) (hp:p≤s.size) (hs:s.size≤1000000000000000)
    (hconv:∀ w,(convert 5 9 (.int .u8 (c.toNat:Int))).run Tryz.prog w = .ok (.string ⟨#[c]⟩) w) (hk:Lib.indexByte (s.data.toList.drop p) c=k) :
    Calls Tryz.prog 127 #[.pointer (some ⟨b,0,none⟩),.int .u8 (c.toNat:Int)] w fun e w'=>e = .returned (.tuple #[.string (s.extract p (p+k)),.bool true])∧Rd w' b s (p+k+1) rest t∧w.grownBy w' (some b):=by
  have hl:k < s.size - p:=by have:=indexByte_lt hk;simpa using this
  rw [← tail_toList] at hk
  have HK:=hid hk;clear hk
  have HR:=hid h;clear h
  go_enter Tryz.func127, Tryz.ntmps127
  go_wp2_with fail
  refine (scan_rest b s p rest t _ HR.out hp).mono ?_
  rintro e w1 ⟨rfl,hR,hB⟩
  have HR1:=hid hR;clear hR
  have HB:=hid hB;clear hB
  go_wp2_with fail
  refine (cut_yes (tail s p) c k _ HK.out (by rw [tail_size];omega)).mono ?_
  rintro e w2 ⟨rfl,n,rfl⟩
  have hRn:Rd (w1.drewN n) b s p rest t:=Blk.drewN HR1.out n
  have h1:=hRn.c1
  have f1:=hRn.f1
  have HRN:=hid hRn;clear hRn
  have he:(tail s p).extract 0 k=s.extract p (p+k):=by
    unfold tail
    rw [ByteArray.extract_extract]
    congr 1
    omega
  have hz:(s.extract p (p+k)).size=k:=by simp;omega
  rw [he]
  have HZ:=hid hz
  have HE:=hid he
  clear he
  go_wp2_with fail
  go_ret2
  refine ⟨rfl,?_,grownBy_trans (grownBy_trans (grownBy_below HB.out _) (grownBy_drewN _ n _)) (grownBy_setCell _ _ _ _)⟩
  have e1:((p:Int)+((k:Int)+1))=((p+k+1:Nat):Int):=by omega
  rw [e1]
  exact Rd.move HRN.out _
theorem scan_until_no (b:Nat) (s:ByteArray) (c:UInt8) (p:Nat) (rest:List Value) (t:TypeId) (w:World) (h:Rd w b s p rest t) (hp:p≤s.size)
    (hconv:∀ w,(convert 5 9 (.int .u8 (c.toNat:Int))).run Tryz.prog w = .ok (.string ⟨#[c]⟩) w) (hk:Lib.indexByte (s.data.toList.drop p) c = -1) :
    Calls Tryz.prog 127 #[.pointer (some ⟨b,0,none⟩),.int .u8 (c.toNat:Int)] w fun e w'=>e = .returned (.tuple #[.string (tail s p),.bool false])∧Rd w' b s p rest t∧w.grownBy w' (some b):=by
  rw [← tail_toList] at hk
  have HK:=hid hk;clear hk
  have HR:=hid h;clear h
  go_enter Tryz.func127, Tryz.ntmps127
  go_wp2_with fail
  refine (scan_rest b s p rest t _ HR.out hp).mono ?_
  rintro e w1 ⟨rfl,hR,hB⟩
  have HR1:=hid hR;clear hR
  have HB:=hid hB;clear hB
  go_wp2_with fail
  refine (cut_no (tail s p) c _ HK.out).mono ?_
  rintro e w2 ⟨rfl,n,rfl⟩
  go_wp2_with fail
  go_ret2
  exact ⟨rfl,Blk.drewN HR1.out n,grownBy_trans (grownBy_below HB.out _) (grownBy_drewN _ n _)⟩
theorem conv62 (w:World):(convert 5 9 (.int .u8 62)).run Tryz.prog w = .ok (.string ⟨#[62]⟩) w:=by kernel_rfl
theorem conv125 (w:World):(convert 5 9 (.int .u8 125)).run Tryz.prog w = .ok (.string ⟨#[125]⟩) w:=by kernel_rfl
end Go.Proofs.YtnhnldmldnhaoaaGreatDoor
namespace Go.Proofs.YtnhnldmldnhaoaaGreatDoor
open Go Go.RowKit Go.Proofs
theorem trim_two (a b:UInt8) (cs:List UInt8):Lib.trimS [a,b] cs=[]↔cs.contains a=true∧cs.contains b=true:=by
  unfold Lib.trimS Lib.trimLeftS Lib.trimRightS
  cases ha:cs.contains a <;> cases hb:cs.contains b <;> simp [List.dropWhile,ha,hb,-List.contains_eq_mem]
theorem trim_hexs (s:ByteArray) (w:World) (hs:s.size≤9223372036854775807) :
    Calls Tryz.prog 159 #[.string s,.string ⟨#[48,49,50,51,52,53,54,55,56,57,97,98,99,100,101,102,65,66,67,68,69,70]⟩] w fun e w'=>e = .returned (.string ⟨(Lib.trimS s.data.toList hexs).toArray⟩)∧Below w.heap.size w w':=
  Any.strings_Trim_laid Tryz.lays160 (by kernel_rfl) s ⟨#[48,49,50,51,52,53,54,55,56,57,97,98,99,100,101,102,65,66,67,68,69,70]⟩ w hs (by decide) hexs_ascii
theorem esc_code_short (b:Nat) (s:ByteArray) (p:Nat) (rest:List Value) (t:TypeId) (w:World) (h:Rd w b s p rest t) (hp:p≤s.size) (c1:stands s p [123]=false) (c2:s.size < p+2) :
    Calls Tryz.prog 132 #[.pointer (some ⟨b,0,none⟩)] w fun e w'=>e = .returned (.tuple #[.int .i32 0,.bool false])∧Rd w' b s p rest t∧w.grownBy w' (some b):=by
  have HR:=hid h;clear h
  have hts:=tail_size s p
  have hlen:((tail s p).size:Int) < 2:=by omega
  go_enter Tryz.func132, Tryz.ntmps132
  go_wp2_with fail
  refine (scan_has_no _ s ⟨#[123]⟩ p _ _ _ HR.out hp c1).mono ?_
  rintro e w1 ⟨rfl,hR,hG⟩
  have R1:=hid hR;have G1:=hid hG;clear hR hG
  go_wp2_with fail
  refine (scan_rest _ s p _ _ _ R1.out hp).mono ?_
  rintro e w2 ⟨rfl,hR,hB⟩
  have R2:=hid hR;have G2:=hid (grownBy_trans G1.out (grownBy_below hB _));clear hR hB
  go_wp2_with fail
  go_ret2
  exact ⟨rfl,R2.out,G2.out⟩
theorem esc_code_two (b:Nat) (s:ByteArray) (p:Nat) (x y:UInt8) (r:List UInt8) (rest:List Value) (t:TypeId) (w:World) (h:Rd w b s p rest t) (hp:p+2≤s.size) (hs:s.size≤140737488355328) (c1:stands s p [123]=false) (hxy:s.data.toList.drop p=x :: y :: r) :
    Calls Tryz.prog 132 #[.pointer (some ⟨b,0,none⟩)] w fun e w'=>
      (hexs.contains x=true∧hexs.contains y=true→e = .returned (.tuple #[.int .i32 (hexN [x,y]),.bool true])∧Rd w' b s (p+2) rest t)∧
      (¬ (hexs.contains x=true∧hexs.contains y=true)→e = .returned (.tuple #[.int .i32 0,.bool false])∧Rd w' b s p rest t)∧w.grownBy w' (some b):=by
  have HR:=hid h;clear h
  have hts:=tail_size s p
  have hlen:¬ ((tail s p).size:Int) < 2:=by omega
  have h2:((tail s p).extract 0 2).data.toList=[x,y]:=by
    simp [ByteArray.data_extract,tail_toList,hxy]
  obtain ⟨z,hz⟩:∃ z,(tail s p).extract 0 2=z:=⟨_,rfl⟩
  have HZ:=hid hz
  rw [hz] at h2
  have hzs:z.size=2:=by rw [Lib.size_eq,h2];rfl
  have H2:=hid h2
  clear hz h2
  have hq:(2:Int)≤((tail s p).size:Int):=by omega
  have hq2:2≤(tail s p).size:=by omega
  by_cases hh:hexs.contains x=true∧hexs.contains y=true
  · have ht:Lib.trimS z.data.toList hexs=[]:=by rw [H2.out];exact (trim_two x y hexs).2 hh
    have HT:=hid ht;have HH:=hid hh
    clear ht hh
    go_enter Tryz.func132, Tryz.ntmps132
    go_wp2_with fail
    refine (scan_has_no _ s ⟨#[123]⟩ p _ _ _ HR.out (by omega) c1).mono ?_
    rintro e w1 ⟨rfl,hR,hG⟩
    have R1:=hid hR;have G1:=hid hG;clear hR hG
    go_wp2_with fail
    refine (scan_rest _ s p _ _ _ R1.out (by omega)).mono ?_
    rintro e w2 ⟨rfl,hR,hB⟩
    have R2:=hid hR;have G2:=hid (grownBy_trans G1.out (grownBy_below hB _));clear hR hB
    go_wp2_with fail
    refine (scan_rest _ s p _ _ _ R2.out (by omega)).mono ?_
    rintro e w3 ⟨rfl,hR,hB⟩
    have R3:=hid hR;have G3:=hid (grownBy_trans G2.out (grownBy_below hB _));clear hR hB
    go_wp2_with fail
    rw [HZ.out]
    refine (trim_hexs z _ (by omega)).mono ?_
    rintro e w4 ⟨rfl,hB⟩
    rw [HT.out]
    have R4:=hid (Blk.below R3.out hB R3.out.lt);have G4:=hid (grownBy_trans G3.out (grownBy_below hB _));clear hB
    go_wp2_with fail
    refine (scan_rest _ s p _ _ _ R4.out (by omega)).mono ?_
    rintro e w5 ⟨rfl,hR,hB⟩
    have R5:=hid hR;have G5:=hid (grownBy_trans G4.out (grownBy_below hB _))
    have g1:=hR.c1;have f1:=hR.f1
    clear hR hB
    have hx:∀ c ∈ [x,y],hexs.contains c=true:=fun c hc=>by simp only [List.mem_cons,List.not_mem_nil,or_false] at hc;exact hc.elim (fun e=>e ▸ HH.out.1) (fun e=>e ▸ HH.out.2)
    have hbd:=hexN_bd hx
    have HX:=hid hx;clear hx
    have hzq:z=⟨[x,y].toArray⟩:=by
      have:=H2.out
      cases z with | mk d=>simp only at this;rw [← this]
    have HZQ:=hid hzq;clear hzq
    go_wp2_with fail
    rw [HZ.out,HZQ.out]
    have R6:=hid (R5.out.move (p+2))
    have G6:=hid (grownBy_trans G5.out (grownBy_setCell w5 b 1 (.int .i64 ((p+2:Nat):Int))))
    refine (scan_number_hex [x,y] _ (by simp) HX.out).mono ?_
    rintro e w7 ⟨rfl,hB⟩
    have R7:=hid (Blk.below R6.out hB R6.out.lt);have G7:=hid (grownBy_trans G6.out (grownBy_below hB _));clear hB
    clear g1 f1
    have hwr:IntKind.i32.wrap (hexN [x,y])=hexN [x,y]:=IntWalk.i32_in _ (by omega)
    go_wp2_with fail
    go_ret2
    exact ⟨fun _=>⟨rfl,R7.out⟩,fun h=>absurd HH.out h,G7.out⟩
  · have ht:Lib.trimS z.data.toList hexs≠[]:=by rw [H2.out];exact fun h=>hh ((trim_two x y hexs).1 h)
    obtain ⟨u,hu⟩:∃ u,u=Lib.trimS z.data.toList hexs:=⟨_,rfl⟩
    have HU:=hid hu
    rw [← hu] at ht
    have hne:((⟨u.toArray⟩:ByteArray).toList == [])=false:=by
      rw [ByteArray.toList_eq];simpa using ht
    have HH:=hid hh
    clear ht hh hu
    go_enter Tryz.func132, Tryz.ntmps132
    go_wp2_with fail
    refine (scan_has_no _ s ⟨#[123]⟩ p _ _ _ HR.out (by omega) c1).mono ?_
    rintro e w1 ⟨rfl,hR,hG⟩
    have R1:=hid hR;have G1:=hid hG;clear hR hG
    go_wp2_with fail
    refine (scan_rest _ s p _ _ _ R1.out (by omega)).mono ?_
    rintro e w2 ⟨rfl,hR,hB⟩
    have R2:=hid hR;have G2:=hid (grownBy_trans G1.out (grownBy_below hB _));clear hR hB
    go_wp2_with fail
    refine (scan_rest _ s p _ _ _ R2.out (by omega)).mono ?_
    rintro e w3 ⟨rfl,hR,hB⟩
    have R3:=hid hR;have G3:=hid (grownBy_trans G2.out (grownBy_below hB _));clear hR hB
    go_wp2_with fail
    rw [HZ.out]
    refine (trim_hexs z _ (by omega)).mono ?_
    rintro e w4 ⟨rfl,hB⟩
    rw [← HU.out]
    have R4:=hid (Blk.below R3.out hB R3.out.lt);have G4:=hid (grownBy_trans G3.out (grownBy_below hB _));clear hB
    obtain ⟨U,hU⟩:∃ U:ByteArray,U=⟨u.toArray⟩:=⟨_,rfl⟩
    rw [← hU] at hne ⊢
    clear hU
    go_wp2_with fail
    go_ret2
    exact ⟨fun h=>absurd h HH.out,fun _=>⟨rfl,R4.out⟩,G4.out⟩
end Go.Proofs.YtnhnldmldnhaoaaGreatDoor
namespace Go.Proofs.YtnhnldmldnhaoaaGreatDoor
open Go Go.RowKit Go.Proofs
def signI (c:Int):Bool:=(33≤c∧c≤47)∨(58≤c∧c≤64)∨(91≤c∧c≤96)∨(123≤c∧c≤126)
def letterI (c:Int):Int:=if c=97 then 7 else if c=102 then 12 else if c=110 then 10 else if c=114 then 13 else if c=116 then 9 else if c=118 then 11 else -1
def placeI (c:Int):Int:=if c=65 then 1 else if c=122 then 2 else if c=98 then 16 else if c=66 then 32 else 0
end Go.Proofs.YtnhnldmldnhaoaaGreatDoor
namespace Go.Proofs.YtnhnldmldnhaoaaGreatDoor
open Go Go.RowKit Go.Proofs
def codeP (s:ByteArray) (q:Nat):Option (Int × Nat):=
  if stands s q [123]=true then (if (bracedN s q).2.1=true then some ((bracedN s q).1,(bracedN s q).2.2) else none)
  else match s.data.toList.drop q with
    | x :: y :: _=>if hexs.contains x=true∧hexs.contains y=true then some (hexN [x,y],q+2) else none
    | _=>none
theorem drop_two (s:ByteArray) (p:Nat) (h:p+1 < s.size):s.data.toList.drop p=s[p] :: s[p+1] :: s.data.toList.drop (p+2):=by
  have l1:p < s.data.toList.length:=by simp;omega
  have l2:p+1 < s.data.toList.length:=by simp;omega
  rw [List.drop_eq_getElem_cons l1,List.drop_eq_getElem_cons l2]
  rfl
theorem drop_short (s:ByteArray) (p:Nat) (h:s.size≤p+1):∀ x y r,s.data.toList.drop p≠x :: y :: r:=by
  intro x y r e
  have:=congrArg List.length e
  simp at this
  omega
end Go.Proofs.YtnhnldmldnhaoaaGreatDoor
namespace Go.Proofs.YtnhnldmldnhaoaaGreatDoor
open Go Go.RowKit Go.Proofs
theorem esc_name_yes (b:Nat) (s:ByteArray) (p k:Nat) (rest:List Value) (t:TypeId) (w:World) (h:Rd w b s p rest t) (hp:p≤s.size) (hs:s.size≤140737488355328) (c1:stands s p [123]=true) (hk:Lib.indexByte (s.data.toList.drop (p+1)) 125=k) :
    Calls Tryz.prog 133 #[.pointer (some ⟨b,0,none⟩)] w fun e w'=>e = .returned (.tuple #[.string (s.extract (p+1) (p+1+k)),.bool true])∧Rd w' b s (p+1+k+1) rest t∧w.grownBy w' (some b):=by
  have hs':s.size≤1000000000000000:=by omega
  have HR:=hid h;clear h
  have l1:=hid (stands_le (p:=⟨#[123]⟩) hp c1)
  go_enter Tryz.func133, Tryz.ntmps133
  go_wp2_with fail
  refine (scan_has_yes _ s ⟨#[123]⟩ p _ _ _ HR.out hp hs' c1).mono ?_
  rintro e w1 ⟨rfl,hR,hG⟩
  have R1:=hid hR;have G1:=hid hG;clear hR hG
  go_wp2_with fail
  refine (scan_until_yes _ s 125 (p+1) k _ _ _ R1.out l1.out hs' conv125 hk).mono ?_
  rintro e w2 ⟨rfl,hR,hG⟩
  have R2:=hid hR;have G2:=hid (grownBy_trans G1.out hG);clear hR hG
  go_wp2_with fail
  go_ret2
  exact ⟨rfl,R2.out,G2.out⟩
theorem esc_name_no (b:Nat) (s:ByteArray) (p:Nat) (rest:List Value) (t:TypeId) (w:World) (h:Rd w b s p rest t) (hp:p≤s.size) (hs:s.size≤140737488355328) (c1:stands s p [123]=true) (hk:Lib.indexByte (s.data.toList.drop (p+1)) 125 = -1) :
    Calls Tryz.prog 133 #[.pointer (some ⟨b,0,none⟩)] w fun e w'=>e = .returned (.tuple #[.string (tail s (p+1)),.bool false])∧Rd w' b s (p+1) rest t∧w.grownBy w' (some b):=by
  have hs':s.size≤1000000000000000:=by omega
  have HR:=hid h;clear h
  have l1:=hid (stands_le (p:=⟨#[123]⟩) hp c1)
  go_enter Tryz.func133, Tryz.ntmps133
  go_wp2_with fail
  refine (scan_has_yes _ s ⟨#[123]⟩ p _ _ _ HR.out hp hs' c1).mono ?_
  rintro e w1 ⟨rfl,hR,hG⟩
  have R1:=hid hR;have G1:=hid hG;clear hR hG
  go_wp2_with fail
  refine (scan_until_no _ s 125 (p+1) _ _ _ R1.out l1.out conv125 hk).mono ?_
  rintro e w2 ⟨rfl,hR,hG⟩
  have R2:=hid hR;have G2:=hid (grownBy_trans G1.out hG);clear hR hG
  go_wp2_with fail
  go_ret2
  exact ⟨rfl,R2.out,G2.out⟩
theorem esc_name_rune (b:Nat) (s:ByteArray) (p:Nat) (rest:List Value) (t:TypeId) (w:World) (h:Rd w b s p rest t) (hT:Tabs w) (hb:0≠b∧1≠b) (hp:p≤s.size) (hs:s.size≤140737488355328) (c1:stands s p [123]=false) :
    Calls Tryz.prog 133 #[.pointer (some ⟨b,0,none⟩)] w fun e w'=>e = .returned (.tuple #[.string (s.extract p (nextW s p)),.bool (decide (0≤nextC s p))])∧Rd w' b s (nextW s p) rest t∧w.grownBy w' (some b):=by
  have hs':s.size≤1000000000000000:=by omega
  have HR:=hid h;clear h
  have HT:=hid hT;clear hT
  have HW:=hid (nextW_le s p hp)
  have HPW:=hid (show p≤nextW s p by unfold nextW;split <;> omega)
  obtain ⟨q,hq⟩:∃ q,nextW s p=q:=⟨_,rfl⟩
  obtain ⟨c,hc⟩:∃ c,nextC s p=c:=⟨_,rfl⟩
  have HN:=hid (show ∀ W,Rd W b s p rest t→Tabs W→Calls Tryz.prog 130 #[.pointer (some ⟨b,0,none⟩)] W fun e w'=>e = .returned (.int .i32 c)∧Rd w' b s q rest t∧W.grownBy w' (some b) from fun W hW hT=>by rw [← hq,← hc];exact scan_next b s p rest t W hW hT hp hs')
  rw [hq] at HW HPW ⊢
  rw [hc]
  clear hq hc
  go_enter Tryz.func133, Tryz.ntmps133
  go_wp2_with fail
  refine (scan_has_no _ s ⟨#[123]⟩ p _ _ _ HR.out hp c1).mono ?_
  rintro e w1 ⟨rfl,hR,hG⟩
  have g1:=hR.c1
  have R1:=hid hR;have G1:=hid hG;clear hR hG
  go_wp2_with fail
  refine (HN.out w1 R1.out (HT.out.grown G1.out hb.1 hb.2)).mono ?_
  rintro e w2 ⟨rfl,hR,hG⟩
  clear g1
  have g0:=hR.c0;have g1:=hR.c1
  have R2:=hid hR;have G2:=hid (grownBy_trans G1.out hG);clear hR hG
  have hq1:(p:Int)≤(q:Int):=by have:=HPW.out;omega
  have hq2:(q:Int)≤(s.size:Int):=by have:=HW.out;omega
  go_wp2_with fail
  go_quiet (fail)
  go_wp2_with fail
  go_ret2
  exact ⟨by simp,Blk.drewN R2.out nq,grownBy_trans G2.out (grownBy_below (below_drewN (Below.refl _ _) nq) _)⟩
end Go.Proofs.YtnhnldmldnhaoaaGreatDoor
namespace Go.Proofs.YtnhnldmldnhaoaaGreatDoor
open Go Go.RowKit Go.Proofs
def propP (s:ByteArray) (q:Nat):Option (ByteArray × Nat):=
  if stands s q [123]=true then
    (if 0≤Lib.indexByte (s.data.toList.drop (q+1)) 125 then some (s.extract (q+1) (q+1+(Lib.indexByte (s.data.toList.drop (q+1)) 125).toNat),q+1+(Lib.indexByte (s.data.toList.drop (q+1)) 125).toNat+1) else none)
  else if q < s.size then some (s.extract q (nextW s q),nextW s q) else none
end Go.Proofs.YtnhnldmldnhaoaaGreatDoor
namespace Go.Proofs.YtnhnldmldnhaoaaGreatDoor
open Go Go.RowKit Go.Proofs Go.Shelf
def tabs:List (List UInt8 × List (Int × Int)):=
  [([76,117],[(65,90),(192,214),(216,222),(913,929),(931,937),(1040,1071)]),
   ([76,108],[(97,122),(223,246),(248,255),(945,969),(1072,1103)]),
   ([76],[(65,90),(97,122),(170,170),(186,186),(192,214),(216,246),(248,255),(913,929),(931,937),(945,969),(1040,1103),(19968,40959)]),
   ([78,100],[(48,57),(1632,1641)]),
   ([78],[(48,57),(178,179),(185,185),(188,190),(1632,1641),(8544,8584)]),
   ([80],[(33,35),(37,42),(44,47),(58,59),(63,64),(91,93),(95,95),(123,123),(125,125),(161,161),(167,167),(171,171),(182,183),(187,187),(191,191)]),
   ([83],[(36,36),(43,43),(60,62),(94,94),(96,96),(124,124),(126,126),(162,166),(168,169),(172,172),(174,177),(180,180),(184,184),(215,215),(247,247)]),
   ([90],[(32,32),(160,160),(8192,8202),(8232,8233),(8239,8239),(12288,12288)]),
   ([67,99],[(0,31),(127,159)]),
   ([76,97,116,105,110],[(65,90),(97,122),(170,170),(186,186),(192,214),(216,246),(248,591),(8490,8491)]),
   ([71,114,101,101,107],[(880,883),(885,887),(890,893),(895,895),(900,900),(902,902),(904,906),(908,908),(910,929),(931,993)]),
   ([67,121,114,105,108,108,105,99],[(1024,1156),(1159,1327)]),
   ([72,97,110],[(19968,40959)])]
def tabOf (s:List UInt8):Option (List (Int × Int)):=(tabs.find? fun p=>p.1 == s).map (·.2)
theorem tabOf_right {s:List UInt8} {l:List (Int × Int)} (h:tabOf s=some l):setRight l=true∧l.length≤15:=by
  have key:∀ p ∈ tabs,setRight p.2=true∧p.2.length≤15:=by decide
  unfold tabOf at h
  cases hf:tabs.find? (fun p=>p.1 == s) with
  | none=>rw [hf] at h;cases h
  | some p=>rw [hf] at h;cases h;exact key p (List.mem_of_find?_eq_some hf)
theorem tabOf_some {s:List UInt8} {l:List (Int × Int)} (h:tabOf s=some l):(s,l) ∈ tabs:=by
  unfold tabOf at h
  cases hf:tabs.find? (fun p=>p.1 == s) with
  | none=>rw [hf] at h;cases h
  | some p=>
    rw [hf] at h;cases h
    have h1:=List.mem_of_find?_eq_some hf
    have h2:=List.find?_some hf
    have:p.1=s:=by simpa using h2
    rw [← this];exact h1
theorem tabOf_none {s:List UInt8} (h:tabOf s=none):∀ p ∈ tabs,(s == p.1)=false:=by
  unfold tabOf at h
  intro p hp
  cases hf:tabs.find? (fun p=>p.1 == s) with
  | some p=>rw [hf] at h;cases h
  | none=>
    have:=List.find?_eq_none.1 hf p hp
    simp only [beq_iff_eq] at this
    exact beq_eq_false_iff_ne.2 fun e=>this e.symm
theorem Laid.lit (w:World) (rs:List (Int × Int)) (cs:Array Value) (hc:cs=(flatR rs).toArray) (hl:rs.length≤maxLen):Laid w (w.alloc (.cells cs 61)) rs (.slice (some ⟨w.heap.size,0,none⟩) rs.length rs.length):=by
  subst hc
  refine ⟨by rw [flatR_length],.inr ⟨w.heap.size,rs.length,_,rfl,Nat.le_refl _,World.alloc_heap_new w _,Nat.le_refl _,hl,by simp [flatR_length],?_⟩⟩
  rw [← flatR_length];simp
def NamedR (w:World) (s:List UInt8) (e:Ending) (w':World):Prop:=
  ∃ v,e = .returned (.tuple #[v,.bool (tabOf s).isSome])∧Laid w w' ((tabOf s).getD []) v∧Below w.heap.size w w'
theorem bytes_of {s:ByteArray} {l:List UInt8} (h:s.toList=l):s=⟨l.toArray⟩:=by
  have h:s.data.toList=l:=by rw [← h];exact (ByteArray.toList_eq s).symm
  cases s with | mk d=>simp only at h;subst h;simp
theorem go_named_0 (w:World):Calls Tryz.prog 162 #[.string ⟨#[76,117]⟩] w (NamedR w [76,117]):=by
  have ht:tabOf [76,117]=some [(65,90),(192,214),(216,222),(913,929),(931,937),(1040,1071)]:=by rfl
  have HT:=hid ht;clear ht
  go_enter Tryz.func162, Tryz.ntmps162
  go_wp2_with fail
  go_ret2
  refine ⟨_,by rw [HT.out];rfl,?_,(Below.refl _ w).alloc (Nat.le_refl _) _⟩
  rw [HT.out];exact Laid.lit w [(65,90),(192,214),(216,222),(913,929),(931,937),(1040,1071)] _ rfl (by decide)
theorem go_named_1 (w:World):Calls Tryz.prog 162 #[.string ⟨#[76,108]⟩] w (NamedR w [76,108]):=by
  have ht:tabOf [76,108]=some [(97,122),(223,246),(248,255),(945,969),(1072,1103)]:=by rfl
  have HT:=hid ht;clear ht
  go_enter Tryz.func162, Tryz.ntmps162
  go_wp2_with fail
  go_ret2
  refine ⟨_,by rw [HT.out];rfl,?_,(Below.refl _ w).alloc (Nat.le_refl _) _⟩
  rw [HT.out];exact Laid.lit w [(97,122),(223,246),(248,255),(945,969),(1072,1103)] _ rfl (by decide)
theorem go_named_2 (w:World):Calls Tryz.prog 162 #[.string ⟨#[76]⟩] w (NamedR w [76]):=by
  have ht:tabOf [76]=some [(65,90),(97,122),(170,170),(186,186),(192,214),(216,246),(248,255),(913,929),(931,937),(945,969),(1040,1103),(19968,40959)]:=by rfl
  have HT:=hid ht;clear ht
  go_enter Tryz.func162, Tryz.ntmps162
  go_wp2_with fail
  go_ret2
  refine ⟨_,by rw [HT.out];rfl,?_,(Below.refl _ w).alloc (Nat.le_refl _) _⟩
  rw [HT.out];exact Laid.lit w [(65,90),(97,122),(170,170),(186,186),(192,214),(216,246),(248,255),(913,929),(931,937),(945,969),(1040,1103),(19968,40959)] _ rfl (by decide)
theorem go_named_3 (w:World):Calls Tryz.prog 162 #[.string ⟨#[78,100]⟩] w (NamedR w [78,100]):=by
  have ht:tabOf [78,100]=some [(48,57),(1632,1641)]:=by rfl
  have HT:=hid ht;clear ht
  go_enter Tryz.func162, Tryz.ntmps162
  go_wp2_with fail
  go_ret2
  refine ⟨_,by rw [HT.out];rfl,?_,(Below.refl _ w).alloc (Nat.le_refl _) _⟩
  rw [HT.out];exact Laid.lit w [(48,57),(1632,1641)] _ rfl (by decide)
theorem go_named_4 (w:World):Calls Tryz.prog 162 #[.string ⟨#[78]⟩] w (NamedR w [78]):=by
  have ht:tabOf [78]=some [(48,57),(178,179),(185,185),(188,190),(1632,1641),(8544,8584)]:=by rfl
  have HT:=hid ht;clear ht
  go_enter Tryz.func162, Tryz.ntmps162
  go_wp2_with fail
  go_ret2
  refine ⟨_,by rw [HT.out];rfl,?_,(Below.refl _ w).alloc (Nat.le_refl _) _⟩
  rw [HT.out];exact Laid.lit w [(48,57),(178,179),(185,185),(188,190),(1632,1641),(8544,8584)] _ rfl (by decide)
theorem go_named_5 (w:World):Calls Tryz.prog 162 #[.string ⟨#[80]⟩] w (NamedR w [80]):=by
  have ht:tabOf [80]=some [(33,35),(37,42),(44,47),(58,59),(63,64),(91,93),(95,95),(123,123),(125,125),(161,161),(167,167),(171,171),(182,183),(187,187),(191,191)]:=by rfl
  have HT:=hid ht;clear ht
  go_enter Tryz.func162, Tryz.ntmps162
  go_wp2_with fail
  go_ret2
  refine ⟨_,by rw [HT.out];rfl,?_,(Below.refl _ w).alloc (Nat.le_refl _) _⟩
  rw [HT.out];exact Laid.lit w [(33,35),(37,42),(44,47),(58,59),(63,64),(91,93),(95,95),(123,123),(125,125),(161,161),(167,167),(171,171),(182,183),(187,187),(191,191)] _ rfl (by decide)
theorem go_named_6 (w:World):Calls Tryz.prog 162 #[.string ⟨#[83]⟩] w (NamedR w [83]):=by
  have ht:tabOf [83]=some [(36,36),(43,43),(60,62),(94,94),(96,96),(124,124),(126,126),(162,166),(168,169),(172,172),(174,177),(180,180),(184,184),(215,215),(247,247)]:=by rfl
  have HT:=hid ht;clear ht
  go_enter Tryz.func162, Tryz.ntmps162
  go_wp2_with fail
  go_ret2
  refine ⟨_,by rw [HT.out];rfl,?_,(Below.refl _ w).alloc (Nat.le_refl _) _⟩
  rw [HT.out];exact Laid.lit w [(36,36),(43,43),(60,62),(94,94),(96,96),(124,124),(126,126),(162,166),(168,169),(172,172),(174,177),(180,180),(184,184),(215,215),(247,247)] _ rfl (by decide)
theorem go_named_7 (w:World):Calls Tryz.prog 162 #[.string ⟨#[90]⟩] w (NamedR w [90]):=by
  have ht:tabOf [90]=some [(32,32),(160,160),(8192,8202),(8232,8233),(8239,8239),(12288,12288)]:=by rfl
  have HT:=hid ht;clear ht
  go_enter Tryz.func162, Tryz.ntmps162
  go_wp2_with fail
  go_ret2
  refine ⟨_,by rw [HT.out];rfl,?_,(Below.refl _ w).alloc (Nat.le_refl _) _⟩
  rw [HT.out];exact Laid.lit w [(32,32),(160,160),(8192,8202),(8232,8233),(8239,8239),(12288,12288)] _ rfl (by decide)
theorem go_named_8 (w:World):Calls Tryz.prog 162 #[.string ⟨#[67,99]⟩] w (NamedR w [67,99]):=by
  have ht:tabOf [67,99]=some [(0,31),(127,159)]:=by rfl
  have HT:=hid ht;clear ht
  go_enter Tryz.func162, Tryz.ntmps162
  go_wp2_with fail
  go_ret2
  refine ⟨_,by rw [HT.out];rfl,?_,(Below.refl _ w).alloc (Nat.le_refl _) _⟩
  rw [HT.out];exact Laid.lit w [(0,31),(127,159)] _ rfl (by decide)
theorem go_named_9 (w:World):Calls Tryz.prog 162 #[.string ⟨#[76,97,116,105,110]⟩] w (NamedR w [76,97,116,105,110]):=by
  have ht:tabOf [76,97,116,105,110]=some [(65,90),(97,122),(170,170),(186,186),(192,214),(216,246),(248,591),(8490,8491)]:=by rfl
  have HT:=hid ht;clear ht
  go_enter Tryz.func162, Tryz.ntmps162
  go_wp2_with fail
  go_ret2
  refine ⟨_,by rw [HT.out];rfl,?_,(Below.refl _ w).alloc (Nat.le_refl _) _⟩
  rw [HT.out];exact Laid.lit w [(65,90),(97,122),(170,170),(186,186),(192,214),(216,246),(248,591),(8490,8491)] _ rfl (by decide)
theorem go_named_10 (w:World):Calls Tryz.prog 162 #[.string ⟨#[71,114,101,101,107]⟩] w (NamedR w [71,114,101,101,107]):=by
  have ht:tabOf [71,114,101,101,107]=some [(880,883),(885,887),(890,893),(895,895),(900,900),(902,902),(904,906),(908,908),(910,929),(931,993)]:=by rfl
  have HT:=hid ht;clear ht
  go_enter Tryz.func162, Tryz.ntmps162
  go_wp2_with fail
  go_ret2
  refine ⟨_,by rw [HT.out];rfl,?_,(Below.refl _ w).alloc (Nat.le_refl _) _⟩
  rw [HT.out];exact Laid.lit w [(880,883),(885,887),(890,893),(895,895),(900,900),(902,902),(904,906),(908,908),(910,929),(931,993)] _ rfl (by decide)
theorem go_named_11 (w:World):Calls Tryz.prog 162 #[.string ⟨#[67,121,114,105,108,108,105,99]⟩] w (NamedR w [67,121,114,105,108,108,105,99]):=by
  have ht:tabOf [67,121,114,105,108,108,105,99]=some [(1024,1156),(1159,1327)]:=by rfl
  have HT:=hid ht;clear ht
  go_enter Tryz.func162, Tryz.ntmps162
  go_wp2_with fail
  go_ret2
  refine ⟨_,by rw [HT.out];rfl,?_,(Below.refl _ w).alloc (Nat.le_refl _) _⟩
  rw [HT.out];exact Laid.lit w [(1024,1156),(1159,1327)] _ rfl (by decide)
theorem go_named_12 (w:World):Calls Tryz.prog 162 #[.string ⟨#[72,97,110]⟩] w (NamedR w [72,97,110]):=by
  have ht:tabOf [72,97,110]=some [(19968,40959)]:=by rfl
  have HT:=hid ht;clear ht
  go_enter Tryz.func162, Tryz.ntmps162
  go_wp2_with fail
  go_ret2
  refine ⟨_,by rw [HT.out];rfl,?_,(Below.refl _ w).alloc (Nat.le_refl _) _⟩
  rw [HT.out];exact Laid.lit w [(19968,40959)] _ rfl (by decide)
theorem go_named_none (s:ByteArray) (w:World) (h:tabOf s.toList=none):Calls Tryz.prog 162 #[.string s] w (NamedR w s.toList):=by
  have n0:(s.toList == [76,117])=false:=tabOf_none h ([76,117],[(65,90),(192,214),(216,222),(913,929),(931,937),(1040,1071)]) (by decide)
  have n1:(s.toList == [76,108])=false:=tabOf_none h ([76,108],[(97,122),(223,246),(248,255),(945,969),(1072,1103)]) (by decide)
  have n2:(s.toList == [76])=false:=tabOf_none h ([76],[(65,90),(97,122),(170,170),(186,186),(192,214),(216,246),(248,255),(913,929),(931,937),(945,969),(1040,1103),(19968,40959)]) (by decide)
  have n3:(s.toList == [78,100])=false:=tabOf_none h ([78,100],[(48,57),(1632,1641)]) (by decide)
  have n4:(s.toList == [78])=false:=tabOf_none h ([78],[(48,57),(178,179),(185,185),(188,190),(1632,1641),(8544,8584)]) (by decide)
  have n5:(s.toList == [80])=false:=tabOf_none h ([80],[(33,35),(37,42),(44,47),(58,59),(63,64),(91,93),(95,95),(123,123),(125,125),(161,161),(167,167),(171,171),(182,183),(187,187),(191,191)]) (by decide)
  have n6:(s.toList == [83])=false:=tabOf_none h ([83],[(36,36),(43,43),(60,62),(94,94),(96,96),(124,124),(126,126),(162,166),(168,169),(172,172),(174,177),(180,180),(184,184),(215,215),(247,247)]) (by decide)
  have n7:(s.toList == [90])=false:=tabOf_none h ([90],[(32,32),(160,160),(8192,8202),(8232,8233),(8239,8239),(12288,12288)]) (by decide)
  have n8:(s.toList == [67,99])=false:=tabOf_none h ([67,99],[(0,31),(127,159)]) (by decide)
  have n9:(s.toList == [76,97,116,105,110])=false:=tabOf_none h ([76,97,116,105,110],[(65,90),(97,122),(170,170),(186,186),(192,214),(216,246),(248,591),(8490,8491)]) (by decide)
  have n10:(s.toList == [71,114,101,101,107])=false:=tabOf_none h ([71,114,101,101,107],[(880,883),(885,887),(890,893),(895,895),(900,900),(902,902),(904,906),(908,908),(910,929),(931,993)]) (by decide)
  have n11:(s.toList == [67,121,114,105,108,108,105,99])=false:=tabOf_none h ([67,121,114,105,108,108,105,99],[(1024,1156),(1159,1327)]) (by decide)
  have n12:(s.toList == [72,97,110])=false:=tabOf_none h ([72,97,110],[(19968,40959)]) (by decide)
  have HT:=hid h;clear h
  go_enter Tryz.func162, Tryz.ntmps162
  go_wp2_with fail
  go_ret2
  exact ⟨_,by rw [HT.out];rfl,by rw [HT.out];exact World.ownsRow_nil _ _ _ _,Below.refl _ _⟩
theorem go_named (s:ByteArray) (w:World):Calls Tryz.prog 162 #[.string s] w (NamedR w s.toList):=by
  cases h:tabOf s.toList with
  | none=>exact go_named_none s w h
  | some l=>
    have hm:=tabOf_some h
    simp only [tabs,List.mem_cons,List.not_mem_nil,or_false,Prod.mk.injEq] at hm
    rcases hm with ⟨h1,_⟩ | ⟨h1,_⟩ | ⟨h1,_⟩ | ⟨h1,_⟩ | ⟨h1,_⟩ | ⟨h1,_⟩ | ⟨h1,_⟩ | ⟨h1,_⟩ | ⟨h1,_⟩ | ⟨h1,_⟩ | ⟨h1,_⟩ | ⟨h1,_⟩ | ⟨h1,_⟩
    · rw [h1];obtain rfl:s=⟨#[76,117]⟩:=bytes_of h1
      exact go_named_0 w
    · rw [h1];obtain rfl:s=⟨#[76,108]⟩:=bytes_of h1
      exact go_named_1 w
    · rw [h1];obtain rfl:s=⟨#[76]⟩:=bytes_of h1
      exact go_named_2 w
    · rw [h1];obtain rfl:s=⟨#[78,100]⟩:=bytes_of h1
      exact go_named_3 w
    · rw [h1];obtain rfl:s=⟨#[78]⟩:=bytes_of h1
      exact go_named_4 w
    · rw [h1];obtain rfl:s=⟨#[80]⟩:=bytes_of h1
      exact go_named_5 w
    · rw [h1];obtain rfl:s=⟨#[83]⟩:=bytes_of h1
      exact go_named_6 w
    · rw [h1];obtain rfl:s=⟨#[90]⟩:=bytes_of h1
      exact go_named_7 w
    · rw [h1];obtain rfl:s=⟨#[67,99]⟩:=bytes_of h1
      exact go_named_8 w
    · rw [h1];obtain rfl:s=⟨#[76,97,116,105,110]⟩:=bytes_of h1
      exact go_named_9 w
    · rw [h1];obtain rfl:s=⟨#[71,114,101,101,107]⟩:=bytes_of h1
      exact go_named_10 w
    · rw [h1];obtain rfl:s=⟨#[67,121,114,105,108,108,105,99]⟩:=bytes_of h1
      exact go_named_11 w
    · rw [h1];obtain rfl:s=⟨#[72,97,110]⟩:=bytes_of h1
      exact go_named_12 w
end Go.Proofs.YtnhnldmldnhaoaaGreatDoor
