/- The small readers of layer 6: what is left, what is next. -/
import Derived.Test.YtnhnldmldnhaoaaGreatDoorSBase
import Derived.Test.YtnhnldmldnhaoaaGreatDoorShelfS
import Derived.WalkKit
import Derived.Lib.Hide
import Derived.WalkSpells
import Derived.WalkLawsBesides
import Derived.Deep.QuietTactic
import Derived.BigQuiet
import Derived.Shelf.Strings.SlTrimAscii
import Derived.Deep.RegionWith
set_option maxRecDepth 100000
set_option maxHeartbeats 16000000
open Go.Lib (hid)
namespace Go.Proofs.YtnhnldmldnhaoaaGreatDoor
open Go Go.RowKit Go.Proofs
def Rd (w:World) (b:Nat) (s:ByteArray) (p:Nat) (rest:List Value) (t:TypeId):Prop:=Blk w b (.string s :: .int .i64 (p:Int) :: rest) t
theorem Rd.c0 {w:World} {b:Nat} {s:ByteArray} {p:Nat} {rest:List Value} {t:TypeId} (h:Rd w b s p rest t):w.cell? ⟨b,0,none⟩=some (.string s):=Blk.cell h rfl
theorem Rd.c1 {w:World} {b:Nat} {s:ByteArray} {p:Nat} {rest:List Value} {t:TypeId} (h:Rd w b s p rest t):w.cell? ⟨b,1,none⟩=some (.int .i64 p):=Blk.cell h rfl
theorem Rd.f1 {w:World} {b:Nat} {s:ByteArray} {p:Nat} {rest:List Value} {t:TypeId} (h:Rd w b s p rest t):w.frozen? ⟨b,1,none⟩=false:=Blk.frozen h 1
theorem Rd.move {w:World} {b:Nat} {s:ByteArray} {p:Nat} {rest:List Value} {t:TypeId} (h:Rd w b s p rest t) (q:Nat):Rd (w.setCell ⟨b,1,none⟩ (.int .i64 (q:Int))) b s q rest t:=Blk.set h 1 _
theorem Rd.lt {w:World} {b:Nat} {s:ByteArray} {p:Nat} {rest:List Value} {t:TypeId} (h:Rd w b s p rest t):b < w.heap.size:=Blk.lt h
theorem Rd.below {B:Nat} {w w':World} {b:Nat} {s:ByteArray} {p:Nat} {rest:List Value} {t:TypeId} (h:Rd w b s p rest t) (hb:Below B w w') (hlt:b < B):Rd w' b s p rest t:=Blk.below h hb hlt
def tail (s:ByteArray) (p:Nat):ByteArray:=s.extract p s.size
theorem tail_toList (s:ByteArray) (p:Nat):(tail s p).data.toList=s.data.toList.drop p:=by
  unfold tail
  rw [Lib.extract_data,List.take_of_length_le (by simp)]
theorem tail_size (s:ByteArray) (p:Nat):(tail s p).size=s.size - p:=by
  unfold tail;simp
theorem scan_rest_q (b:Nat) (s:ByteArray) (p:Nat) (rest:List Value) (t:TypeId) (w:World) (h:Rd w b s p rest t) (hp:p≤s.size) :
    Calls Tryz.prog 124 #[.pointer (some ⟨b,0,none⟩)] w fun e w'=>e = .returned (.string (tail s p))∧∃ n,w'=w.drewN n:=by
  have h0:=h.c0
  have h1:=h.c1
  clear h
  have hq:(p:Int)≤(s.size:Int):=by omega
  go_enter Tryz.func124, Tryz.ntmps124
  go_wp2_with fail
  go_quiet (fail)
  go_wp2_with fail
  go_ret
  exact ⟨rfl,_,rfl⟩
theorem scan_rest (b:Nat) (s:ByteArray) (p:Nat) (rest:List Value) (t:TypeId) (w:World) (h:Rd w b s p rest t) (hp:p≤s.size) :
    Calls Tryz.prog 124 #[.pointer (some ⟨b,0,none⟩)] w fun e w'=>e = .returned (.string (tail s p))∧Rd w' b s p rest t∧Below w.heap.size w w':=
  (scan_rest_q b s p rest t w h hp).mono fun _ _ ⟨he,n,hw⟩=>⟨he,by rw [hw];exact Blk.drewN h n,by rw [hw];exact below_drewN (Below.refl _ _) n⟩
theorem hasPrefix_le {l p:List UInt8} (h:Lib.hasPrefix l p=true):p.length≤l.length:=by
  unfold Lib.hasPrefix at h
  exact (List.isPrefixOf_iff_prefix.1 h).length_le
def stands (s:ByteArray) (i:Nat) (p:List UInt8):Bool:=Lib.hasPrefix (s.data.toList.drop i) p
theorem stands_le {s:ByteArray} {i:Nat} {p:ByteArray} (hi:i≤s.size) (h:stands s i p.data.toList=true):i+p.size≤s.size:=by
  have:=hasPrefix_le h
  have e1:s.data.toList.length=s.size:=by simp
  have e2:p.data.toList.length=p.size:=by simp
  rw [List.length_drop,e1,e2] at this
  omega
theorem scan_has_yes (b:Nat) (s p:ByteArray) (i:Nat) (rest:List Value) (t:TypeId) (w:World) (h:Rd w b s i rest t) (hi:i≤s.size) (hs:s.size≤1000000000000000)
    (hy:stands s i p.data.toList=true) :
    Calls Tryz.prog 95 #[.pointer (some ⟨b,0,none⟩),.string p] w fun e w'=>e = .returned (.bool true)∧Rd w' b s (i+p.size) rest t∧w.grownBy w' (some b):=by
  have hp:=stands_le hi hy
  have HY:=hid hy;clear hy
  have HR:=hid h;clear h
  go_enter Tryz.func95, Tryz.ntmps95
  go_wp2_with fail
  refine (scan_rest b s i rest t _ HR.out hi).mono ?_
  rintro e w1 ⟨rfl,hR,hB⟩
  have HR1:=hid hR;clear hR
  have HB:=hid hB;clear hB
  go_wp2_with fail
  refine (Tryz.strings_HasPrefix _ _ _).mono ?_
  rintro e w1 ⟨rfl,rfl⟩
  rw [tail_toList,show Lib.hasPrefix (List.drop i s.data.toList) p.data.toList=true from HY.out]
  have h1:=HR1.out.c1
  have f1:=HR1.out.f1
  go_wp2_with fail
  go_ret
  refine ⟨rfl,?_,grownBy_trans (grownBy_below HB.out _) (grownBy_setCell _ _ _ _)⟩
  rw [← Int.natCast_add]
  exact Rd.move HR1.out _
theorem scan_has_no (b:Nat) (s p:ByteArray) (i:Nat) (rest:List Value) (t:TypeId) (w:World) (h:Rd w b s i rest t) (hi:i≤s.size)
    (hy:stands s i p.data.toList=false) :
    Calls Tryz.prog 95 #[.pointer (some ⟨b,0,none⟩),.string p] w fun e w'=>e = .returned (.bool false)∧Rd w' b s i rest t∧w.grownBy w' (some b):=by
  have HY:=hid hy;clear hy
  have HR:=hid h;clear h
  go_enter Tryz.func95, Tryz.ntmps95
  go_wp2_with fail
  refine (scan_rest b s i rest t _ HR.out hi).mono ?_
  rintro e w1 ⟨rfl,hR,hB⟩
  have HR1:=hid hR;clear hR
  have HB:=hid hB;clear hB
  go_wp2_with fail
  refine (Tryz.strings_HasPrefix _ _ _).mono ?_
  rintro e w1 ⟨rfl,rfl⟩
  rw [tail_toList,show Lib.hasPrefix (List.drop i s.data.toList) p.data.toList=false from HY.out]
  go_wp2_with fail
  go_ret
  exact ⟨rfl,HR1.out,grownBy_below HB.out _⟩
end Go.Proofs.YtnhnldmldnhaoaaGreatDoor
namespace Go.Proofs.YtnhnldmldnhaoaaGreatDoor
open Go Go.RowKit Go.Proofs
def runP (s:ByteArray) (p:Nat) (cs:List UInt8):List UInt8:=(s.data.toList.drop p).takeWhile (cs.contains ·)
theorem runP_le (s:ByteArray) (p:Nat) (cs:List UInt8):(runP s p cs).length≤s.size - p:=by
  unfold runP
  have:=(List.takeWhile_prefix (l:=s.data.toList.drop p) (fun x=>cs.contains x)).length_le
  simpa using this
theorem run_split (s:ByteArray) (p:Nat) (cs:List UInt8):(runP s p cs).length+(Lib.trimLeftS (tail s p).data.toList cs).length=(tail s p).size:=by
  have h:=congrArg List.length (List.takeWhile_append_dropWhile (p:=fun x=>cs.contains x) (l:=s.data.toList.drop p))
  rw [List.length_append] at h
  unfold runP Lib.trimLeftS
  rw [tail_toList,tail_size,h]
  simp
theorem run_head (s:ByteArray) (p:Nat) (cs:List UInt8):(tail s p).extract 0 (runP s p cs).length=⟨(runP s p cs).toArray⟩:=by
  apply ByteArray.ext
  apply Array.toList_inj.1
  rw [Lib.extract_data,tail_toList]
  have h:=(List.takeWhile_append_dropWhile (p:=fun x=>cs.contains x) (l:=s.data.toList.drop p))
  have h2:(s.data.toList.drop p).take (runP s p cs).length=runP s p cs:=by
    conv=>lhs;arg 2;rw [← h]
    exact List.take_left
  simpa using h2
theorem scan_run (b:Nat) (s cs:ByteArray) (p:Nat) (rest:List Value) (t:TypeId) (w:World) (h:Rd w b s p rest t) (hp:p≤s.size) (hs:s.size≤1000000000000000)
    (hcs:cs.size < 4294967281) (hascii:∀ (j:Nat) (c:UInt8),cs.data.toList[j]? = some c→c.toNat < 128) :
    Calls Tryz.prog 96 #[.pointer (some ⟨b,0,none⟩),.string cs] w fun e w'=>e = .returned (.string ⟨(runP s p cs.data.toList).toArray⟩)∧
      Rd w' b s (p+(runP s p cs.data.toList).length) rest t∧w.grownBy w' (some b):=by
  have HR:=hid h;clear h
  have HA:=hid hascii;clear hascii
  go_enter Tryz.func96, Tryz.ntmps96
  go_wp2_with fail
  refine (scan_rest b s p rest t _ HR.out hp).mono ?_
  rintro e w1 ⟨rfl,hR,hB⟩
  have HR1:=hid hR;clear hR
  have HB1:=hid hB;clear hB
  go_wp2_with fail
  refine (scan_rest b s p rest t _ HR1.out hp).mono ?_
  rintro e w2 ⟨rfl,hR,hB⟩
  have HR2:=hid hR;clear hR
  have HB2:=hid hB;clear hB
  go_wp2_with fail
  refine (scan_rest b s p rest t _ HR2.out hp).mono ?_
  rintro e w3 ⟨rfl,hR,hB⟩
  have HR3:=hid hR;clear hR
  have HB3:=hid hB;clear hB
  go_wp2_with fail
  refine (Any.strings_TrimLeft_laid Tryz.lays161 (by kernel_rfl) _ _ _ hcs HA.out).mono ?_
  rintro e w4 ⟨rfl,hB⟩
  have hR4:=Blk.below HR3.out hB HR3.out.lt
  have h1:=Rd.c1 hR4
  have f1:=Rd.f1 hR4
  have HR4:=hid hR4;clear hR4
  have HB4:=hid hB;clear hB
  have hsp:=run_split s p cs.data.toList
  have hrh:=run_head s p cs.data.toList
  have hl:=runP_le s p cs.data.toList
  have hsz:=tail_size s p
  generalize Lib.trimLeftS (tail s p).data.toList cs.data.toList=D at *
  have hd:D.length≤(tail s p).size:=by omega
  have ht:(tail s p).size≤1000000000000000:=by omega
  have hq:(tail s p).size - D.length=(runP s p cs.data.toList).length:=by omega
  have HSP:=hid hsp;clear hsp
  have HQ:=hid hq;clear hq
  have HRH:=hid hrh;clear hrh
  have HSZ:=hid hsz;clear hsz
  go_wp2_with fail
  go_ret
  refine ⟨?_,?_,grownBy_trans (grownBy_below (below_then (below_then (below_then HB1.out HB2.out) HB3.out) HB4.out) _) (grownBy_setCell _ _ _ _)⟩
  · show Ending.returned (.string ((tail s p).extract 0 ((tail s p).size - D.length)))=_
    rw [HQ.out,HRH.out]
  · rw [HQ.out,← Int.natCast_add]
    exact Rd.move HR4.out _
def numP (base most:Int):Int→List UInt8→Int
  | n,[]=>n
  | n,c :: l=>numP base most (min (n * base+(if c.toNat > 57 then (c.toNat:Int) - 87 else (c.toNat:Int) - 48)) (most+1)) l
end Go.Proofs.YtnhnldmldnhaoaaGreatDoor
namespace Go.Proofs.YtnhnldmldnhaoaaGreatDoor
open Go Go.RowKit Go.Proofs
def isDig (c:UInt8):Prop:=(48≤c.toNat∧c.toNat≤57)∨(97≤c.toNat∧c.toNat≤102)
theorem numP_bd (base most:Int) (hm:0≤most) (hb:0≤base):∀ (l:List UInt8) (n:Int),(∀ c ∈ l,isDig c)→0≤n→n≤most+1→0≤numP base most n l∧numP base most n l≤most+1
  | [],n,_,h0,h1=>⟨h0,h1⟩
  | c :: l,n,hc,h0,h1=>by
    have h48:=hc c (by simp)
    unfold isDig at h48
    have hq:0≤n * base:=Int.mul_nonneg h0 hb
    refine numP_bd base most hm hb l _ (fun d hd=>hc d (by simp [hd])) ?_ ?_ <;> (split <;> omega)
theorem numP_snoc (base most:Int):∀ (l:List UInt8) (n:Int) (c:UInt8),numP base most n (l ++ [c])=min (numP base most n l * base+(if c.toNat > 57 then (c.toNat:Int) - 87 else (c.toNat:Int) - 48)) (most+1)
  | [],_,_=>rfl
  | _ :: l,_,c=>numP_snoc base most l _ c
theorem scan_number (s:ByteArray) (base most:Int) (w:World) (hl:s.size≤140737488355328) (hb:2≤base∧base≤16) (hm:0≤most∧most≤10000000)
    (hd:∀ c ∈ Lib.toLowerA s.data.toList,isDig c) (ha:∀ (j:Nat) (b:UInt8),s.data.toList[j]? = some b→b.toNat < 128) :
    Calls Tryz.prog 97 #[.string s,.int .i64 base,.int .i64 most] w fun e w'=>e = .returned (.int .i64 (numP base most 0 (Lib.toLowerA s.data.toList)))∧Below w.heap.size w w':=by
  obtain ⟨hb1,hb2⟩:=hb
  obtain ⟨hm1,hm2⟩:=hm
  have HD:=hid hd;clear hd
  have HA:=hid ha;clear ha
  go_enter Tryz.func97, Tryz.ntmps97
  go_wp2_with fail
  refine (Tryz.strings_ToLower_ascii _ _ (by omega) HA.out).mono ?_
  rintro e w1 ⟨rfl,hB⟩
  have HB:=hid hB;clear hB
  obtain ⟨L,hL⟩:∃ L,L=Lib.toLowerA s.data.toList:=⟨_,rfl⟩
  have hlen:L.length=s.size:=by rw [hL];simp [Lib.toLowerA]
  have hlen':L.length≤140737488355328:=by omega
  have HLn:=hid hlen;clear hlen
  rw [← hL] at HD ⊢
  have HL:=hid hL;clear hL
  obtain ⟨cap,w2,hrun,hc,hbl2,hs2⟩:=conv_bytes (P:=Tryz.prog) w1 9 63 5 ⟨L.toArray⟩ Tryz.underlying9 Tryz.underlying63 Tryz.underlying5
  have HC:=hid hc;clear hc
  have HB2:=hid hbl2;clear hbl2
  have HS2:=hid hs2;clear hs2
  go_wp2_with fail
  clear hrun
  go_loop [7,15] (fun n i=>∃ k:Nat,k≤L.length∧i = .int .i64 k∧n = .int .i64 (numP base most 0 (L.take k))) (fun _ i=>L.length - (intOf i).toNat)
  case atStart=>exact ⟨0,Nat.zero_le _,rfl,by simp [numP]⟩
  case round=>
    obtain ⟨k,hk,rfl,rfl⟩:=hrel
    by_cases hlt:k < L.length
    · have hcell:=HC.out k (by show k < L.toArray.size;simpa using hlt)
      have hD:=HD.out L[k] (List.getElem_mem hlt)
      have hn:=numP_bd base most hm1 (by omega) (L.take k) 0 (fun c hc=>HD.out c (List.mem_of_mem_take hc)) (Int.le_refl _) (by omega)
      have hst:numP base most 0 (L.take (k+1))=min (numP base most 0 (L.take k) * base+(if L[k].toNat > 57 then (L[k].toNat:Int) - 87 else (L[k].toNat:Int) - 48)) (most+1):=by
        rw [List.take_succ_eq_append_getElem hlt,numP_snoc]
      have HST:=hid hst;clear hst
      simp only [List.getD_eq_getElem?_getD,List.getElem?_eq_getElem hlt,Option.getD_some] at hcell
      generalize numP base most 0 (L.take k)=N at *
      generalize L[k]=c at *
      have hN:N * base≤160000016:=by
        have:=Int.mul_le_mul hn.2 hb2 (by omega) (by omega)
        omega
      have hN0:0≤N * base:=Int.mul_nonneg hn.1 (by omega)
      unfold isDig at hD
      have hD1:48≤c.toNat:=by omega
      have hD2:c.toNat≤102:=by omega
      obtain ⟨hn1,hn2⟩:=hn
      by_cases h57:57 < c.toNat
      · have hD3:97≤c.toNat:=by omega
        clear hD
        go_wp2_with fail
        go_round
        case rel=>
          refine ⟨k+1,by omega,by go_num,?_⟩
          rw [HST.out,if_pos h57]
          exact congrArg (Value.int .i64) (by omega)
        case measure=>simp [intOf];omega
      · clear hD
        go_wp2_with fail
        go_round
        case rel=>
          refine ⟨k+1,by omega,by go_num,?_⟩
          rw [HST.out,if_neg h57]
        case measure=>simp [intOf];omega
    · have hk':k=L.length:=by omega
      have hq:numP base most 0 (L.take k)=numP base most 0 (Lib.toLowerA s.data.toList):=by rw [hk',List.take_length,HL.out]
      have HQ:=hid hq;clear hq
      clear hk'
      go_wp2_with fail
      go_ret
      exact ⟨by rw [← HQ.out];rfl,below_then HB.out HB2.out⟩
end Go.Proofs.YtnhnldmldnhaoaaGreatDoor
namespace Go.Proofs.YtnhnldmldnhaoaaGreatDoor
open Go Go.RowKit Go.Proofs
def digs:List UInt8:=[48,49,50,51,52,53,54,55,56,57]
theorem digs_iff (c:UInt8):digs.contains c=true↔48≤c.toNat∧c.toNat≤57:=by
  constructor
  · intro h
    have:c ∈ digs:=by simpa using h
    simp only [digs,List.mem_cons,List.mem_nil_iff,or_false] at this
    rcases this with rfl | rfl | rfl | rfl | rfl | rfl | rfl | rfl | rfl | rfl <;> decide
  · rintro ⟨h1,h2⟩
    have hc:c=UInt8.ofNat c.toNat:=by simp
    rw [hc]
    obtain ⟨n,hn⟩:∃ n,c.toNat=n:=⟨_,rfl⟩
    rw [hn] at h1 h2 ⊢
    have:n=48∨n=49∨n=50∨n=51∨n=52∨n=53∨n=54∨n=55∨n=56∨n=57:=by omega
    rcases this with rfl | rfl | rfl | rfl | rfl | rfl | rfl | rfl | rfl | rfl <;> decide
theorem takeWhile_yes {α:Type} (p:α→Bool):∀ (l:List α),∀ c ∈ l.takeWhile p,p c=true
  | [],_,h=>by simp at h
  | a :: l,c,h=>by
    by_cases ha:p a=true
    · rw [List.takeWhile_cons_of_pos ha] at h
      rcases List.mem_cons.1 h with rfl | h
      · exact ha
      · exact takeWhile_yes p l c h
    · rw [List.takeWhile_cons_of_neg ha] at h
      simp at h
theorem getElem_toList (s:ByteArray) (i:Nat) (h:i < s.size):s.data.toList[i]? = some s[i]:=by
  rw [List.getElem?_eq_getElem (by simpa using h)]
  rfl
theorem runP_le_size (s:ByteArray) (p:Nat) (cs:List UInt8) (hp:p≤s.size):p+(runP s p cs).length≤s.size:=by
  have:=runP_le s p cs
  omega
theorem lower_digs {l:List UInt8} (h:∀ c ∈ l,digs.contains c=true):Lib.toLowerA l=l:=by
  unfold Lib.toLowerA
  apply (List.map_congr_left (g:=id) ?_).trans (List.map_id l)
  intro c hc
  have:c ∈ digs:=by simpa using h c hc
  simp only [digs,List.mem_cons,List.mem_nil_iff,or_false] at this
  rcases this with rfl | rfl | rfl | rfl | rfl | rfl | rfl | rfl | rfl | rfl <;> decide
end Go.Proofs.YtnhnldmldnhaoaaGreatDoor
namespace Go.Proofs.YtnhnldmldnhaoaaGreatDoor
open Go Go.RowKit Go.Proofs
def countP (s:ByteArray) (p:Nat):Option (Int × Int × Nat):=
  if stands s p [123] then
    if runP s (p+1) digs=[] then none
    else if stands s (p+1+(runP s (p+1) digs).length) [125] then some (numP 10 1000 0 (runP s (p+1) digs),numP 10 1000 0 (runP s (p+1) digs),p+1+(runP s (p+1) digs).length+1)
    else if stands s (p+1+(runP s (p+1) digs).length) [44,125] then some (numP 10 1000 0 (runP s (p+1) digs),-1,p+1+(runP s (p+1) digs).length+2)
    else if stands s (p+1+(runP s (p+1) digs).length) [44] then
      if runP s (p+1+(runP s (p+1) digs).length+1) digs=[] then none
      else if stands s (p+1+(runP s (p+1) digs).length+1+(runP s (p+1+(runP s (p+1) digs).length+1) digs).length) [125] then
        some (numP 10 1000 0 (runP s (p+1) digs),numP 10 1000 0 (runP s (p+1+(runP s (p+1) digs).length+1) digs),p+1+(runP s (p+1) digs).length+1+(runP s (p+1+(runP s (p+1) digs).length+1) digs).length+1)
      else none
    else none
  else none
def countV:Option (Int × Int × Nat)→Value
  | none=>.tuple #[.int .i64 0,.int .i64 0,.int .i64 0,.bool false]
  | some (a,b,n)=>.tuple #[.int .i64 a,.int .i64 b,.int .i64 (n:Int),.bool true]
theorem runP_digs (s:ByteArray) (p:Nat):∀ c ∈ runP s p digs,digs.contains c=true:=takeWhile_yes _ _
theorem digs_ascii:∀ (j:Nat) (c:UInt8),digs[j]? = some c→c.toNat < 128:=ascii_of_all (by decide)
theorem scan_number_digs (s:ByteArray) (p:Nat) (most:Int) (w:World) (hs:s.size≤140737488355328) (hm:0≤most∧most≤10000000) :
    Calls Tryz.prog 97 #[.string ⟨(runP s p digs).toArray⟩,.int .i64 10,.int .i64 most] w fun e w'=>e = .returned (.int .i64 (numP 10 most 0 (runP s p digs)))∧Below w.heap.size w w':=by
  have hd:=runP_digs s p
  have hl:=lower_digs hd
  refine (scan_number ⟨(runP s p digs).toArray⟩ 10 most w ?_ (by omega) hm ?_ ?_).mono fun e w' h=>?_
  · show (runP s p digs).toArray.size≤_
    have:=runP_le s p digs
    simp;omega
  · intro c hc
    simp only [hl] at hc
    exact .inl ((digs_iff c).1 (hd c hc))
  · intro j b hb
    have:=(digs_iff b).1 (hd b (List.mem_of_getElem? (by simpa using hb)))
    omega
  · simpa [hl] using h
theorem scan_run_digs (b:Nat) (s:ByteArray) (p:Nat) (rest:List Value) (t:TypeId) (w:World) (h:Rd w b s p rest t) (hp:p≤s.size) (hs:s.size≤1000000000000000) :
    Calls Tryz.prog 96 #[.pointer (some ⟨b,0,none⟩),.string ⟨#[48,49,50,51,52,53,54,55,56,57]⟩] w fun e w'=>e = .returned (.string ⟨(runP s p digs).toArray⟩)∧
      Rd w' b s (p+(runP s p digs).length) rest t∧w.grownBy w' (some b):=
  scan_run b s ⟨#[48,49,50,51,52,53,54,55,56,57]⟩ p rest t w h hp hs (by decide) digs_ascii
theorem isEmpty_no {l:List UInt8} (h:¬ l=[]):l.isEmpty=false:=by cases l <;> simp_all
theorem scan_Count (s:ByteArray) (p:Nat) (w:World) (hp:p≤s.size) (hs:s.size≤140737488355328) :
    Calls Tryz.prog 76 #[.string s,.int .i64 p] w fun e w'=>e = .returned (countV (countP s p))∧Below w.heap.size w w':=by
  have hs':s.size≤1000000000000000:=by omega
  have R0:=hid (show Rd (w.alloc (.cells #[.string s,.int .i64 p] 140)) w.heap.size s p [] 140 from Blk.new w [.string s,.int .i64 p] 140)
  have HP:=hid hp
  go_enter Tryz.func76, Tryz.ntmps76
  go_wp2_with fail
  by_cases c1:stands s p [123]=true
  · have l1:=hid (stands_le (p:=⟨#[123]⟩) hp c1)
    refine (scan_has_yes _ s _ p _ _ _ R0.out hp hs' c1).mono ?_
    rintro e w1 ⟨rfl,hR,hG⟩
    have R1:=hid hR;have G1:=hid hG;clear hR hG
    go_wp2_with fail
    refine (scan_run_digs _ s (p+1) _ _ _ R1.out l1.out hs').mono ?_
    rintro e w2 ⟨rfl,hR,hG⟩
    have R2:=hid hR;have G2:=hid (grownBy_trans G1.out hG);clear hR hG
    have l2:=hid (runP_le_size s (p+1) digs l1.out)
    go_wp2_with fail
    refine (scan_number_digs s (p+1) 1000 _ hs (by omega)).mono ?_
    rintro e w3 ⟨rfl,hB⟩
    have R3:=hid (show Rd w3 w.heap.size s (p+1+(runP s (p+1) digs).length) [] 140 from Blk.below R2.out hB R2.out.lt);have G3:=hid (grownBy_trans G2.out (grownBy_below hB _));clear hB
    by_cases c2:runP s (p+1) digs=[]
    · have HF:=hid (show countP s p=none by unfold countP;rw [if_pos c1,if_pos c2])
      rw [c2]
      go_wp2_with fail
      refine bodyPost_ret (v:=.tuple #[.int .i64 0,.int .i64 0,.int .i64 0,.bool false]) (by simp [results,Tryz.results76,go_sem]) rfl ⟨?_,below_local G3.out⟩
      rw [HF.out];rfl
    · have e2:=isEmpty_no c2
      go_wp2_with fail
      by_cases c3:stands s (p+1+(runP s (p+1) digs).length) [125]=true
      · have HF:=hid (show countP s p=_ by unfold countP;rw [if_pos c1,if_neg c2,if_pos c3])
        refine (scan_has_yes _ s _ _ _ _ _ R3.out l2.out hs' c3).mono ?_
        rintro e w4 ⟨rfl,hR,hG⟩
        have R4:=hid hR;have G4:=hid (grownBy_trans G3.out hG);clear hR hG
        have h1:=Rd.c1 R4.out
        go_wp2_with fail
        go_quiet (fail)
        go_wp2_with fail
        refine bodyPost_ret (v:=.tuple #[.int .i64 (numP 10 1000 0 (runP s (p+1) digs)),.int .i64 (numP 10 1000 0 (runP s (p+1) digs)),.int .i64 (p+1+(runP s (p+1) digs).length+1),.bool true]) (by simp [results,Tryz.results76,go_sem]) rfl ⟨?_,below_local (grownBy_trans G4.out (grownBy_drewN _ _ _))⟩
        rw [HF.out];rfl
      · have c3:stands s (p+1+(runP s (p+1) digs).length) [125]=false:=by simpa using c3
        refine (scan_has_no _ s _ _ _ _ _ R3.out l2.out c3).mono ?_
        rintro e w4 ⟨rfl,hR,hG⟩
        have R4:=hid hR;have G4:=hid (grownBy_trans G3.out hG);clear hR hG
        go_wp2_with fail
        by_cases c4:stands s (p+1+(runP s (p+1) digs).length) [44,125]=true
        · have HF:=hid (show countP s p=_ by unfold countP;rw [if_pos c1,if_neg c2,if_neg (by simp [c3]),if_pos c4])
          refine (scan_has_yes _ s _ _ _ _ _ R4.out l2.out hs' c4).mono ?_
          rintro e w5 ⟨rfl,hR,hG⟩
          have R5:=hid hR;have G5:=hid (grownBy_trans G4.out hG);clear hR hG
          have h1:=Rd.c1 R5.out
          go_wp2_with fail
          go_quiet (fail)
          go_wp2_with fail
          refine bodyPost_ret (v:=.tuple #[.int .i64 (numP 10 1000 0 (runP s (p+1) digs)),.int .i64 (-1),.int .i64 (p+1+(runP s (p+1) digs).length+2),.bool true]) (by simp [results,Tryz.results76,go_sem]) rfl ⟨?_,below_local (grownBy_trans G5.out (grownBy_drewN _ _ _))⟩
          rw [HF.out];rfl
        · have c4:stands s (p+1+(runP s (p+1) digs).length) [44,125]=false:=by simpa using c4
          refine (scan_has_no _ s _ _ _ _ _ R4.out l2.out c4).mono ?_
          rintro e w5 ⟨rfl,hR,hG⟩
          have R5:=hid hR;have G5:=hid (grownBy_trans G4.out hG);clear hR hG
          go_wp2_with fail
          by_cases c5:stands s (p+1+(runP s (p+1) digs).length) [44]=true
          · have l5:=hid (stands_le (p:=⟨#[44]⟩) l2.out c5)
            refine (scan_has_yes _ s _ _ _ _ _ R5.out l2.out hs' c5).mono ?_
            rintro e w6 ⟨rfl,hR,hG⟩
            have R6:=hid hR;have G6:=hid (grownBy_trans G5.out hG);clear hR hG
            go_wp2_with fail
            refine (scan_run_digs _ s (p+1+(runP s (p+1) digs).length+1) _ _ _ R6.out l5.out hs').mono ?_
            rintro e w7 ⟨rfl,hR,hG⟩
            have R7:=hid hR;have G7:=hid (grownBy_trans G6.out hG);clear hR hG
            have l7:=hid (runP_le_size s (p+1+(runP s (p+1) digs).length+1) digs l5.out)
            by_cases c6:runP s (p+1+(runP s (p+1) digs).length+1) digs=[]
            · have HF:=hid (show countP s p=none by unfold countP;rw [if_pos c1,if_neg c2,if_neg (by simp [c3]),if_neg (by simp [c4]),if_pos c5,if_pos c6])
              rw [c6]
              go_wp2_with fail
              refine bodyPost_ret (v:=.tuple #[.int .i64 0,.int .i64 0,.int .i64 0,.bool false]) (by simp [results,Tryz.results76,go_sem]) rfl ⟨?_,below_local G7.out⟩
              rw [HF.out];rfl
            · have e6:=isEmpty_no c6
              go_wp2_with fail
              by_cases c7:stands s (p+1+(runP s (p+1) digs).length+1+(runP s (p+1+(runP s (p+1) digs).length+1) digs).length) [125]=true
              · have HF:=hid (show countP s p=_ by unfold countP;rw [if_pos c1,if_neg c2,if_neg (by simp [c3]),if_neg (by simp [c4]),if_pos c5,if_neg c6,if_pos c7])
                refine (scan_has_yes _ s _ _ _ _ _ R7.out l7.out hs' c7).mono ?_
                rintro e w8 ⟨rfl,hR,hG⟩
                have R8:=hid hR;have G8:=hid (grownBy_trans G7.out hG);clear hR hG
                have h1:=Rd.c1 R8.out
                go_wp2_with fail
                go_region_with (go_at_call 97;refine (scan_number_digs s (p+1+(runP s (p+1) digs).length+1) 1000 _ hs (by omega)).mono ?_;rintro e w9 ⟨rfl,hB⟩;have h9:=(hB.cell (p:=⟨w.heap.size,1,none⟩) R8.out.lt).trans h1;have HB9:=hid (Below.trans (below_drewN (Below.refl _ w8) 1) hB);clear hB)
                all_goals
                  go_wp2_with fail
                  refine bodyPost_ret (v:=.tuple #[.int .i64 (numP 10 1000 0 (runP s (p+1) digs)),.int .i64 (numP 10 1000 0 (runP s (p+1+(runP s (p+1) digs).length+1) digs)),.int .i64 (p+1+(runP s (p+1) digs).length+1+(runP s (p+1+(runP s (p+1) digs).length+1) digs).length+1),.bool true]) (by simp [results,Tryz.results76,go_sem]) rfl ⟨?_,below_local (grownBy_trans G8.out (grownBy_below HB9.out _))⟩
                  rw [HF.out];rfl
              · have HF:=hid (show countP s p=none by unfold countP;rw [if_pos c1,if_neg c2,if_neg (by simp [c3]),if_neg (by simp [c4]),if_pos c5,if_neg c6,if_neg c7])
                have c7:stands s (p+1+(runP s (p+1) digs).length+1+(runP s (p+1+(runP s (p+1) digs).length+1) digs).length) [125]=false:=by simpa using c7
                refine (scan_has_no _ s _ _ _ _ _ R7.out l7.out c7).mono ?_
                rintro e w8 ⟨rfl,hR,hG⟩
                have R8:=hid hR;have G8:=hid (grownBy_trans G7.out hG);clear hR hG
                go_wp2_with fail
                refine bodyPost_ret (v:=.tuple #[.int .i64 0,.int .i64 0,.int .i64 0,.bool false]) (by simp [results,Tryz.results76,go_sem]) rfl ⟨?_,below_local G8.out⟩
                rw [HF.out];rfl
          · have HF:=hid (show countP s p=none by unfold countP;rw [if_pos c1,if_neg c2,if_neg (by simp [c3]),if_neg (by simp [c4]),if_neg c5])
            have c5:stands s (p+1+(runP s (p+1) digs).length) [44]=false:=by simpa using c5
            refine (scan_has_no _ s _ _ _ _ _ R5.out l2.out c5).mono ?_
            rintro e w6 ⟨rfl,hR,hG⟩
            have R6:=hid hR;have G6:=hid (grownBy_trans G5.out hG);clear hR hG
            go_wp2_with fail
            refine bodyPost_ret (v:=.tuple #[.int .i64 0,.int .i64 0,.int .i64 0,.bool false]) (by simp [results,Tryz.results76,go_sem]) rfl ⟨?_,below_local G6.out⟩
            rw [HF.out];rfl
  · have HF:=hid (show countP s p=none by unfold countP;rw [if_neg c1])
    have c1:stands s p [123]=false:=by simpa using c1
    refine (scan_has_no _ s _ p _ _ _ R0.out hp c1).mono ?_
    rintro e w1 ⟨rfl,hR,hG⟩
    have R1:=hid hR;have G1:=hid hG;clear hR hG
    go_wp2_with fail
    refine (scan_run_digs _ s p _ _ _ R1.out hp hs').mono ?_
    rintro e w2 ⟨rfl,hR,hG⟩
    have G2:=hid (grownBy_trans G1.out hG);clear hR hG
    go_wp2_with fail
    refine (scan_number_digs s p 1000 _ hs (by omega)).mono ?_
    rintro e w3 ⟨rfl,hB⟩
    have G3:=hid (grownBy_trans G2.out (grownBy_below hB _));clear hB
    go_wp2_with fail
    refine bodyPost_ret (v:=.tuple #[.int .i64 0,.int .i64 0,.int .i64 0,.bool false]) (by simp [results,Tryz.results76,go_sem]) rfl ⟨?_,below_local G3.out⟩
    rw [HF.out];rfl
end Go.Proofs.YtnhnldmldnhaoaaGreatDoor
namespace Go.Proofs.YtnhnldmldnhaoaaGreatDoor
open Go Go.RowKit Go.Proofs
theorem stands_one (s:ByteArray) (i:Nat) (c:UInt8):stands s i [c]=true↔∃ h:i < s.size,s[i]=c:=by
  unfold stands Lib.hasPrefix
  rw [List.isPrefixOf_iff_prefix]
  constructor
  · intro h
    have h1:=h.length_le
    simp at h1
    refine ⟨by omega,?_⟩
    have h2:=h.getElem (i:=0) (by simp)
    simp only [List.getElem_cons_zero,List.getElem_drop,Nat.add_zero] at h2
    have h3:=getElem_toList s i (by omega)
    exact Option.some.inj (h3.symm.trans ((List.getElem?_eq_getElem (by simp;omega)).trans (congrArg some h2.symm)))
  · rintro ⟨h,rfl⟩
    refine ⟨(s.data.toList.drop (i+1)),?_⟩
    have h3:=getElem_toList s i h
    rw [List.getElem?_eq_getElem (by simpa using h)] at h3
    rw [← Option.some.inj h3,List.singleton_append,← List.drop_eq_getElem_cons]
end Go.Proofs.YtnhnldmldnhaoaaGreatDoor
namespace Go.Proofs.YtnhnldmldnhaoaaGreatDoor
open Go Go.RowKit Go.Proofs
def hexs:List UInt8:=[48,49,50,51,52,53,54,55,56,57,97,98,99,100,101,102,65,66,67,68,69,70]
theorem hexs_mem {c:UInt8} (h:hexs.contains c=true):isDig (Lib.lowerB c)∧c.toNat < 128:=by
  have:c ∈ hexs:=by simpa using h
  simp only [hexs,List.mem_cons,List.mem_nil_iff,or_false] at this
  unfold isDig
  rcases this with rfl | rfl | rfl | rfl | rfl | rfl | rfl | rfl | rfl | rfl | rfl | rfl | rfl | rfl | rfl | rfl | rfl | rfl | rfl | rfl | rfl | rfl <;> decide
theorem hexs_ascii:∀ (j:Nat) (c:UInt8),hexs[j]? = some c→c.toNat < 128:=ascii_of_all (by decide)
def hexN (l:List UInt8):Int:=numP 16 1114111 0 (Lib.toLowerA l)
theorem lower_dig {l:List UInt8} (h:∀ c ∈ l,hexs.contains c=true):∀ c ∈ Lib.toLowerA l,isDig c:=by
  intro c hc
  unfold Lib.toLowerA at hc
  obtain ⟨d,hd,rfl⟩:=List.mem_map.1 hc
  exact (hexs_mem (h d hd)).1
theorem hexN_bd {l:List UInt8} (h:∀ c ∈ l,hexs.contains c=true):0≤hexN l∧hexN l≤1114112:=by
  have:=numP_bd 16 1114111 (by omega) (by omega) (Lib.toLowerA l) 0 (lower_dig h) (Int.le_refl _) (by omega)
  unfold hexN;exact ⟨this.1,by have:=this.2;omega⟩
theorem scan_number_hex (l:List UInt8) (w:World) (hl:l.length≤140737488355328) (h:∀ c ∈ l,hexs.contains c=true) :
    Calls Tryz.prog 97 #[.string ⟨l.toArray⟩,.int .i64 16,.int .i64 1114111] w fun e w'=>e = .returned (.int .i64 (hexN l))∧Below w.heap.size w w':=by
  refine (scan_number ⟨l.toArray⟩ 16 1114111 w ?_ (by omega) (by omega) ?_ ?_).mono fun e w' h=>?_
  · show l.toArray.size≤_
    simpa using hl
  · intro c hc
    exact lower_dig h c (by simpa using hc)
  · intro j b hb
    exact (hexs_mem (h b (List.mem_of_getElem? (by simpa using hb)))).2
  · simpa [hexN] using h
theorem scan_run_hexs (b:Nat) (s:ByteArray) (p:Nat) (rest:List Value) (t:TypeId) (w:World) (h:Rd w b s p rest t) (hp:p≤s.size) (hs:s.size≤1000000000000000) :
    Calls Tryz.prog 96 #[.pointer (some ⟨b,0,none⟩),.string ⟨#[48,49,50,51,52,53,54,55,56,57,97,98,99,100,101,102,65,66,67,68,69,70]⟩] w fun e w'=>e = .returned (.string ⟨(runP s p hexs).toArray⟩)∧
      Rd w' b s (p+(runP s p hexs).length) rest t∧w.grownBy w' (some b):=
  scan_run b s ⟨#[48,49,50,51,52,53,54,55,56,57,97,98,99,100,101,102,65,66,67,68,69,70]⟩ p rest t w h hp hs (by decide) hexs_ascii
def bracedN (s:ByteArray) (p:Nat):Int × Bool × Nat:=
  (hexN (runP s (p+1) hexs),!(runP s (p+1) hexs).isEmpty && stands s (p+1+(runP s (p+1) hexs).length) [125] && decide (hexN (runP s (p+1) hexs)≤1114111),
    if !(runP s (p+1) hexs).isEmpty && stands s (p+1+(runP s (p+1) hexs).length) [125] then p+1+(runP s (p+1) hexs).length+1 else p+1+(runP s (p+1) hexs).length)
theorem esc_code_braced (b:Nat) (s:ByteArray) (p:Nat) (rest:List Value) (t:TypeId) (w:World) (h:Rd w b s p rest t) (hp:p≤s.size) (hs:s.size≤140737488355328) (c1:stands s p [123]=true) :
    Calls Tryz.prog 132 #[.pointer (some ⟨b,0,none⟩)] w fun e w'=>e = .returned (.tuple #[.int .i32 (bracedN s p).1,.bool (bracedN s p).2.1])∧
      Rd w' b s (bracedN s p).2.2 rest t∧w.grownBy w' (some b):=by
  have hs':s.size≤1000000000000000:=by omega
  have HR:=hid h;clear h
  have l1:=hid (stands_le (p:=⟨#[123]⟩) hp c1)
  have hx:=takeWhile_yes (fun x=>hexs.contains x) (s.data.toList.drop (p+1))
  have hbd:0≤hexN (runP s (p+1) hexs)∧hexN (runP s (p+1) hexs)≤1114112:=hexN_bd hx
  obtain ⟨hn1,hn2⟩:=hbd
  have HX:=hid hx;clear hx
  go_enter Tryz.func132, Tryz.ntmps132
  go_wp2_with fail
  refine (scan_has_yes _ s _ p _ _ _ HR.out hp hs' c1).mono ?_
  rintro e w1 ⟨rfl,hR,hG⟩
  have R1:=hid hR;have G1:=hid hG;clear hR hG
  go_wp2_with fail
  refine (scan_run_hexs _ s (p+1) _ _ _ R1.out l1.out hs').mono ?_
  rintro e w2 ⟨rfl,hR,hG⟩
  have R2:=hid hR;have G2:=hid (grownBy_trans G1.out hG);clear hR hG
  have l2:=hid (runP_le_size s (p+1) hexs l1.out)
  go_wp2_with fail
  refine (scan_number_hex (runP s (p+1) hexs) _ (by have:=runP_le s (p+1) hexs;omega) HX.out).mono ?_
  rintro e w3 ⟨rfl,hB⟩
  have R3:=hid (show Rd w3 b s (p+1+(runP s (p+1) hexs).length) rest t from Blk.below R2.out hB R2.out.lt);have G3:=hid (grownBy_trans G2.out (grownBy_below hB _));clear hB
  by_cases c2:runP s (p+1) hexs=[]
  · have HF:=hid (show bracedN s p=(hexN [],false,p+1) by unfold bracedN;rw [c2];rfl)
    rw [c2] at hn1 hn2 R3
    rw [c2]
    go_wp2_with fail
    go_ret2
    refine ⟨by rw [HF.out];rfl,by rw [HF.out];exact R3.out,G3.out⟩
  · have e2:=isEmpty_no c2
    go_wp2_with fail
    by_cases c3:stands s (p+1+(runP s (p+1) hexs).length) [125]=true
    · have HF:=hid (show bracedN s p=(hexN (runP s (p+1) hexs),decide (hexN (runP s (p+1) hexs)≤1114111),p+1+(runP s (p+1) hexs).length+1) by unfold bracedN;rw [c3,e2];rfl)
      refine (scan_has_yes _ s _ _ _ _ _ R3.out l2.out hs' c3).mono ?_
      rintro e w4 ⟨rfl,hR,hG⟩
      have R4:=hid hR;have G4:=hid (grownBy_trans G3.out hG);clear hR hG
      go_wp2_with fail
      go_ret2
      refine ⟨by rw [HF.out];rfl,by rw [HF.out];exact R4.out,G4.out⟩
    · have c3:stands s (p+1+(runP s (p+1) hexs).length) [125]=false:=by simpa using c3
      have HF:=hid (show bracedN s p=(hexN (runP s (p+1) hexs),false,p+1+(runP s (p+1) hexs).length) by unfold bracedN;rw [c3,e2];rfl)
      refine (scan_has_no _ s _ _ _ _ _ R3.out l2.out c3).mono ?_
      rintro e w4 ⟨rfl,hR,hG⟩
      have R4:=hid hR;have G4:=hid (grownBy_trans G3.out hG);clear hR hG
      go_wp2_with fail
      go_ret2
      refine ⟨by rw [HF.out];rfl,by rw [HF.out];exact R4.out,G4.out⟩
theorem scan_next_ascii (b:Nat) (s:ByteArray) (p:Nat) (x:UInt8) (rest:List Value) (t:TypeId) (w:World) (h:Rd w b s p rest t) (hp:p < s.size) (hx:s.data.toList[p]? = some x) (hx':x.toNat < 128) (hs:s.size≤1000000000000000) :
    Calls Tryz.prog 130 #[.pointer (some ⟨b,0,none⟩)] w fun e w'=>e = .returned (.int .i32 x.toNat)∧Rd w' b s (p+1) rest t∧w.grownBy w' (some b):=by
  have HR:=hid h
  have h0:=h.c0
  have h1:=h.c1
  clear h
  have HX:=hid hx;clear hx
  have hd:decide ((s.size:Int)≤(p:Int))=false:=by simp;omega
  go_enter Tryz.func130, Tryz.ntmps130
  go_wp2_with fail
  go_quiet (fail)
  go_wp2_with fail
  refine (scan_rest b s p rest t _ (Blk.drewN HR.out _) (by omega)).mono ?_
  rintro e w1 ⟨rfl,hR,hB⟩
  have R1:=hid hR;have HB:=hid hB;clear hR hB
  go_wp2_with fail
  refine (Tryz.utf8_DecodeRuneInString_ascii _ x _ (by rw [tail_toList];simpa using HX.out) hx').mono ?_
  rintro e w2 ⟨rfl,rfl⟩
  have g1:=Rd.c1 R1.out
  have f1:=Rd.f1 R1.out
  clear h0 h1
  go_wp2_with fail
  go_ret
  refine ⟨rfl,?_,grownBy_trans (grownBy_trans (grownBy_drewN w nq _) (grownBy_below HB.out _)) (grownBy_setCell _ _ _ _)⟩
  rw [show (p:Int)+1=((p+1:Nat):Int) by omega]
  exact Rd.move R1.out _
end Go.Proofs.YtnhnldmldnhaoaaGreatDoor
