/- Is a name one of some? slices.Contains at texts. A named group's beginning: scan.Name, for every text and place. -/
import Derived.Test.YtnhnldmldnhaoaaGreatDoorSSynPure
import Derived.LoopTactic
import Derived.MapKept
import Derived.WideShapes
import Derived.Test.YtnhnldmldnhaoaaGreatDoorSScanName
set_option maxRecDepth 100000
set_option maxHeartbeats 16000000
open Go.Lib (hid)
namespace Go.Proofs.YtnhnldmldnhaoaaGreatDoor
open Go Go.RowKit Go.Proofs Go.Shelf
def firstS (v:ByteArray):List ByteArray→Int
  | []=>-1
  | z :: l=>if v=z then 0 else (if firstS v l = -1 then -1 else firstS v l+1)
theorem firstS_ge (v:ByteArray):∀ l:List ByteArray,-1≤firstS v l
  | []=>Int.le_refl _
  | z :: l=>by
    have:=firstS_ge v l
    unfold firstS
    split
    · omega
    · split <;> omega
theorem firstS_mem (v:ByteArray):∀ l:List ByteArray,0≤firstS v l↔v ∈ l
  | []=>by simp [firstS]
  | z :: l=>by
    have h1:=firstS_mem v l
    have h2:=firstS_ge v l
    unfold firstS
    by_cases h:v=z
    · simp [h]
    · rw [if_neg h,List.mem_cons]
      by_cases h3:firstS v l = -1
      · rw [if_pos h3];constructor
        · intro h;omega
        · rintro (h4 | h4)
          · exact absurd h4 h
          · have:=h1.2 h4;omega
      · rw [if_neg h3];constructor
        · intro _;exact .inr (h1.1 (by omega))
        · intro _;omega
theorem firstS_here {v:ByteArray}:∀ {l:List ByteArray} {k:Nat} (hk:k < l.length),(∀ j (hj:j < k),v≠l[j]'(by omega))→v=l[k]→firstS v l=k
  | [],_,hk,_,_=>absurd hk (Nat.not_lt_zero _)
  | z :: l,0,_,_,h=>by simp only [List.getElem_cons_zero] at h;unfold firstS;rw [if_pos h];rfl
  | z :: l,k+1,hk,hb,h=>by
    have h0:v≠z:=hb 0 (by omega)
    have:=firstS_here (v:=v) (l:=l) (k:=k) (by simpa using hk) (fun j hj=>by simpa using hb (j+1) (by omega)) (by simpa using h)
    unfold firstS;rw [if_neg h0,this,if_neg (by omega)];omega
theorem firstS_none {v:ByteArray} {l:List ByteArray} (h:∀ j (hj:j < l.length),v≠l[j]):firstS v l = -1:=by
  have h1:=firstS_mem v l
  have h2:=firstS_ge v l
  have:¬ v ∈ l:=fun hm=>by
    obtain ⟨j,hj,e⟩:=List.getElem_of_mem hm
    exact h j hj e.symm
  have:=mt h1.1 this
  omega
theorem index_str (a:Option Addr) (c:Nat) (zs:List ByteArray) (v:ByteArray) (w:World) (hz:zs.length≤1000000000) (hc:∀ j (hj:j < zs.length),∃ g,a=some ⟨g,0,none⟩∧w.cell? ⟨g,j,none⟩=some (.string zs[j])) :
    Calls Tryz.prog 129 #[.slice a zs.length c,.string v] w fun e w'=>e = .returned (.int .i64 (firstS v zs))∧w'=w:=by
  have HC:=hid hc;clear hc
  go_enter Tryz.func129, Tryz.ntmps129
  go_wp2_with fail
  go_loop [8] (fun i=>∃ k:Nat,k≤zs.length∧i = .int .i64 k∧∀ j (hj:j < k) (hz:j < zs.length),v≠zs[j]) (fun i=>zs.length - (intOf i).toNat)
  case atStart=>exact ⟨0,Nat.zero_le _,rfl,fun j hj=>absurd hj (Nat.not_lt_zero _)⟩
  case round=>
    obtain ⟨k,hk,rfl,hn⟩:=hrel
    have HN:=hid hn;clear hn
    by_cases hlt:k < zs.length
    · obtain ⟨g,rfl,hcell⟩:=HC.out k hlt
      by_cases he:v=zs[k]
      · have HF:=hid (firstS_here hlt (fun j hj=>HN.out j hj (by omega)) he)
        rw [← he] at hcell
        clear he
        have he2:(v.toList == v.toList)=true:=by rw [beq_iff_eq]
        go_wp2_with fail
        go_ret
        exact ⟨by rw [HF.out];rfl,rfl⟩
      · obtain ⟨x,hx⟩:∃ x,x=zs[k]:=⟨_,rfl⟩
        rw [← hx] at hcell he
        have HX:=hid hx;clear hx
        have he2:(v.toList == x.toList)=false:=by rw [Bool.eq_false_iff,ne_eq,beq_iff_eq,Lib.toList_data,Lib.toList_data];exact fun e=>he (WideShapes.bytes_inj e)
        have HE:=hid he;clear he
        go_wp2_with fail
        go_round
        case rel=>
          refine ⟨k+1,hlt,by go_num,fun j hj hz=>?_⟩
          by_cases hjk:j=k
          · subst hjk;rw [← HX.out];exact HE.out
          · exact HN.out j (by omega) hz
        case measure=>simp [intOf];omega
    · have HF:=hid (firstS_none (v:=v) (l:=zs) (fun j hj=>HN.out j (by omega) hj))
      go_wp2_with fail
      go_ret
      exact ⟨by rw [HF.out];rfl,rfl⟩
theorem contains_str (a:Option Addr) (c:Nat) (zs:List ByteArray) (v:ByteArray) (w:World) (hz:zs.length≤1000000000) (hc:∀ j (hj:j < zs.length),∃ g,a=some ⟨g,0,none⟩∧w.cell? ⟨g,j,none⟩=some (.string zs[j])) :
    Calls Tryz.prog 99 #[.slice a zs.length c,.string v] w fun e w'=>e = .returned (.bool (zs.contains v))∧w'=w:=by
  have HC:=hid hc;clear hc
  have HM:=hid (firstS_mem v zs)
  go_enter Tryz.func99, Tryz.ntmps99
  go_wp2_with fail
  refine (index_str a c zs v w hz HC.out).mono ?_
  rintro e w1 ⟨rfl,rfl⟩
  go_wp2_with fail
  go_ret
  refine ⟨congrArg (fun z=>Ending.returned (Value.bool z)) ?_,rfl⟩
  rw [Bool.eq_iff_iff,decide_eq_true_eq,HM.out,List.contains_eq_any_beq,List.any_eq_true]
  constructor
  · intro h;exact ⟨v,h,(Go.MapKept.bytes_beq v v).2 rfl⟩
  · rintro ⟨x,hx,h⟩;rw [(Go.MapKept.bytes_beq v x).1 h];exact hx
theorem names_form {w:World} {lo:Nat} {ns:List ByteArray} {nv:Value} (h:w.ownsRow lo 9 1 nv ns.length (ns.map Value.string)) :
    ∃ a c,nv = .slice a ns.length c∧∀ j (hj:j < ns.length),∃ g,a=some ⟨g,0,none⟩∧w.cell? ⟨g,j,none⟩=some (.string ns[j]):=by
  by_cases h0:ns.length=0
  · obtain ⟨_,h2⟩:=h
    rcases h2 with ⟨rfl,_⟩ | ⟨g,cap,cur,rfl,_⟩
    · exact ⟨none,0,by rw [h0],fun j hj=>by omega⟩
    · exact ⟨some ⟨g,0,none⟩,cap,rfl,fun j hj=>by omega⟩
  · have h1:=h
    obtain ⟨g,c,rfl,_,_⟩:=World.ownsRow.form h (Nat.pos_of_ne_zero h0)
    refine ⟨_,c,rfl,fun j hj=>⟨g,rfl,?_⟩⟩
    rw [h1.cellAt j (by omega)]
    rw [List.getElem?_map,List.getElem?_eq_getElem hj]
    rfl
end Go.Proofs.YtnhnldmldnhaoaaGreatDoor
namespace Go.Proofs.YtnhnldmldnhaoaaGreatDoor
open Go Go.RowKit Go.Proofs
theorem nameP_four {s:ByteArray} {p:Nat} (h4:stands s p [40,63,80,60]=true):nameP s p=if 0≤Lib.indexByte (s.data.toList.drop (p+4)) 62∧nameB (s.extract (p+4) (p+4+(Lib.indexByte (s.data.toList.drop (p+4)) 62).toNat))=true then
      .ok (s.extract (p+4) (p+4+(Lib.indexByte (s.data.toList.drop (p+4)) 62).toNat),p+4+(Lib.indexByte (s.data.toList.drop (p+4)) 62).toNat+1) else .error (endP s p):=by
  unfold nameP fromP;rw [h4];rfl
theorem nameP_three {s:ByteArray} {p:Nat} (h4:stands s p [40,63,80,60]=false) (h3:stands s p [40,63,60]=true):nameP s p=if 0≤Lib.indexByte (s.data.toList.drop (p+3)) 62∧nameB (s.extract (p+3) (p+3+(Lib.indexByte (s.data.toList.drop (p+3)) 62).toNat))=true then
      .ok (s.extract (p+3) (p+3+(Lib.indexByte (s.data.toList.drop (p+3)) 62).toNat),p+3+(Lib.indexByte (s.data.toList.drop (p+3)) 62).toNat+1) else .error (endP s p):=by
  unfold nameP fromP;rw [h4,h3];rfl
theorem nameP_zero {s:ByteArray} {p:Nat} (h4:stands s p [40,63,80,60]=false) (h3:stands s p [40,63,60]=false):nameP s p = .error (endP s p):=by
  unfold nameP fromP;rw [h4,h3];rfl
theorem scan_NameS (s:ByteArray) (p:Nat) (w:World) (hp:p≤s.size) (hs:s.size≤1000000000000000) :
    Calls Tryz.prog 98 #[.string s,.int .i64 (p:Int)] w fun e w'=>e = .returned (nameV p (nameP s p))∧Below w.heap.size w w':=by
  cases h4:stands s p [40,63,80,60] with
  | true=>
    rw [nameP_four h4]
    by_cases hk:0≤Lib.indexByte (s.data.toList.drop (p+4)) 62
    · obtain ⟨k,hk2⟩:∃ k:Nat,Lib.indexByte (s.data.toList.drop (p+4)) 62=k:=⟨(Lib.indexByte (s.data.toList.drop (p+4)) 62).toNat,by omega⟩
      rw [hk2]
      simp only [Int.toNat_natCast]
      cases hb:nameB (s.extract (p+4) (p+4+k)) with
      | true=>rw [if_pos ⟨by omega,rfl⟩];exact scan_name_four_good s p k w hp hs h4 hk2 hb
      | false=>rw [if_neg (fun h=>by cases h.2)];exact scan_name_four_bad s p k w hp hs h4 hk2 hb
    · rw [if_neg (fun h=>hk h.1)]
      exact scan_name_four_none s p w hp hs h4 (by have:=Lib.indexByte_ge (s.data.toList.drop (p+4)) 62;omega)
  | false=>
    cases h3:stands s p [40,63,60] with
    | true=>
      rw [nameP_three h4 h3]
      by_cases hk:0≤Lib.indexByte (s.data.toList.drop (p+3)) 62
      · obtain ⟨k,hk2⟩:∃ k:Nat,Lib.indexByte (s.data.toList.drop (p+3)) 62=k:=⟨(Lib.indexByte (s.data.toList.drop (p+3)) 62).toNat,by omega⟩
        rw [hk2]
        simp only [Int.toNat_natCast]
        cases hb:nameB (s.extract (p+3) (p+3+k)) with
        | true=>rw [if_pos ⟨by omega,rfl⟩];exact scan_name_three_good s p k w hp hs h4 h3 hk2 hb
        | false=>rw [if_neg (fun h=>by cases h.2)];exact scan_name_three_bad s p k w hp hs h4 h3 hk2 hb
      · rw [if_neg (fun h=>hk h.1)]
        exact scan_name_three_none s p w hp hs h4 h3 (by have:=Lib.indexByte_ge (s.data.toList.drop (p+3)) 62;omega)
    | false=>rw [nameP_zero h4 h3];exact scan_name_none s p w hp hs h4 h3
end Go.Proofs.YtnhnldmldnhaoaaGreatDoor
