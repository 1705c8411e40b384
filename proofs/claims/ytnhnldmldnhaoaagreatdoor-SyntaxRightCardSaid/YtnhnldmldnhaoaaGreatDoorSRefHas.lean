/- The document's Has: is a rune in one of a list's ranges? sets. -/
import Derived.Test.YtnhnldmldnhaoaaGreatDoorSThose
import Derived.LoopTactic
import Derived.Test.YtnhnldmldnhaoaaGreatDoorSOrbPure
import Derived.Test.YtnhnldmldnhaoaaGreatDoorSBase
import Derived.Deep.AppendLies
import Derived.Deep.RegionLaw
import Derived.Test.YtnhnldmldnhaoaaGreatDoorSNext
import Derived.Laws.AppendOwnNone
import Derived.Maps.AppendAt
import Derived.Test.YtnhnldmldnhaoaaGreatDoorSScan1
import Derived.ArgAppend
set_option maxRecDepth 100000
set_option maxHeartbeats 16000000
open Go.Lib (hid)
namespace Go.Proofs.YtnhnldmldnhaoaaGreatDoor
open Go Go.RowKit Go.Proofs
theorem memR_take (rs:List (Int × Int)) (c:Int) (k:Nat) (h:k < rs.length):memR (rs.take (k+1)) c=(memR (rs.take k) c || (decide (rs[k].1≤c) && decide (c≤rs[k].2))):=by
  rw [List.take_succ_eq_append_getElem h,memR_append,memR_one]
theorem memR_at {rs:List (Int × Int)} {c:Int} {k:Nat} (h:k < rs.length) (h1:rs[k].1≤c) (h2:c≤rs[k].2):memR rs c=true:=by
  unfold memR
  rw [List.any_eq_true]
  exact ⟨rs[k],List.getElem_mem h,by simp [h1,h2]⟩
def hasB (rs:List (Int × Int)) (c:Int):Bool:=decide (0≤c) && decide (c≤1114111) && memR rs c
end Go.Proofs.YtnhnldmldnhaoaaGreatDoor
namespace Go.Proofs.YtnhnldmldnhaoaaGreatDoor
open Go Go.RowKit Go.Proofs
theorem has_is (lo hi c:Int) (bc:Nat) (w:World) (hc:w.cell? ⟨bc,0,none⟩=some (.int .i32 c)) (hlt:bc < w.heap.size) (b:Bool) (hb:(decide (lo≤c) && decide (c≤hi))=b) :
    Calls Tryz.prog 164 #[.agg #[.int .i32 lo,.int .i32 hi],.pointer (some ⟨bc,0,none⟩)] w fun e w'=>e = .returned (.bool b)∧Below w.heap.size w w':=by
  have hc2:(w.alloc (.cells #[.int .i32 lo,.int .i32 hi] 61)).cell? ⟨bc,0,none⟩=some (.int .i32 c):=by
    rw [World.cell?_of_block (Below.heap_alloc w _ bc hlt)];exact hc
  by_cases h1:lo≤c
  · by_cases h2:c≤hi
    · obtain rfl:b=true:=by rw [← hb];simp [h1,h2]
      clear hb
      go_enter Tryz.func164, Tryz.ntmps164
      go_wp2_with fail
      go_ret
      exact ⟨rfl,(Below.refl _ _).alloc (Nat.le_refl _) _⟩
    · obtain rfl:b=false:=by rw [← hb];simp;omega
      clear hb
      go_enter Tryz.func164, Tryz.ntmps164
      go_wp2_with fail
      go_ret
      exact ⟨rfl,(Below.refl _ _).alloc (Nat.le_refl _) _⟩
  · obtain rfl:b=false:=by rw [← hb];simp;omega
    clear hb
    go_enter Tryz.func164, Tryz.ntmps164
    go_wp2_with fail
    go_ret
    exact ⟨rfl,(Below.refl _ _).alloc (Nat.le_refl _) _⟩
def IdxF (rs:List (Int × Int)) (c:Int) (w:World) (e:Ending) (w':World):Prop:=(∃ n:Int,e = .returned (.int .i64 n)∧decide (0≤n)=memR rs c)∧Below w.heap.size w w'
theorem idxF_mk {rs:List (Int × Int)} {c n:Int} {w w':World} (h:decide (0≤n)=memR rs c) (hb:Below w.heap.size w w'):IdxF rs c w (.returned (.int .i64 n)) w':=⟨⟨n,rfl,h⟩,hb⟩
theorem has_index (rs:List (Int × Int)) (b o sc bc:Nat) (c:Int) (w:World) (hat:RangesAt w rs b o) (hb:b < w.heap.size) (hn:rs.length≤140737488351232) (hc:w.cell? ⟨bc,0,none⟩=some (.int .i32 c)) (hlt:bc < w.heap.size) :
    Calls Tryz.prog 187 #[.slice (some ⟨b,o,none⟩) rs.length sc,.func (.func 164) #[] #[.pointer (some ⟨bc,0,none⟩)]] w (IdxF rs c w):=by
  have HA:=hid hat;have HB:=hid hb;have HC:=hid hc;have HL:=hid hlt
  clear hat hb hc hlt
  go_enter Tryz.func187, Tryz.ntmps187
  go_wp2_with fail
  go_loopw [8] (fun iv W=>∃ k:Nat,k≤rs.length∧iv = .int .i64 k∧memR (rs.take k) c=false∧Below w.heap.size w W) (fun iv _=>rs.length - (intOf iv).toNat)
  case atStart=>exact ⟨0,Nat.zero_le _,rfl,rfl,Below.refl _ _⟩
  case round=>
    obtain ⟨k,hk,rfl,hm,hbw⟩:=hrel
    have HM:=hid hm;have HW:=hid hbw;clear hm hbw
    by_cases hlt:k < rs.length
    · obtain ⟨g1,g2⟩:=(HA.out.below HW.out HB.out).get k hlt
      obtain ⟨l,hl⟩:∃ l,rs[k].1=l:=⟨_,rfl⟩
      obtain ⟨u,hu⟩:∃ u,rs[k].2=u:=⟨_,rfl⟩
      rw [hl] at g1;rw [hu] at g2
      have HLo:=hid hl;have HU:=hid hu;clear hl hu
      have HCW:=hid (show wr.cell? ⟨bc,0,none⟩=some (.int .i32 c) by rw [World.cell?_of_block (HW.out.block bc HL.out)];exact HC.out)
      have HLW:=hid (show bc < wr.heap.size by have:=HL.out;have:=HW.out.size;omega)
      cases hb:(decide (l≤c) && decide (c≤u)) with
      | true=>
        have HBB:=hid hb;clear hb
        go_wp2_with fail
        refine (has_is l u c bc wr HCW.out HLW.out true HBB.out).mono ?_
        rintro e w2 ⟨rfl,hB2⟩
        have B2:=hid (below_next HW.out (Nat.le_refl _) (grownBy_below hB2 none) (by simp));clear hB2
        go_wp2_with fail
        go_ret
        have h2:=HBB.out
        simp only [Bool.and_eq_true,decide_eq_true_eq] at h2
        exact idxF_mk (by rw [memR_at hlt (by rw [HLo.out];exact h2.1) (by rw [HU.out];exact h2.2)];simp) B2.out
      | false=>
        have HBB:=hid hb;clear hb
        go_wp2_with fail
        refine (has_is l u c bc wr HCW.out HLW.out false HBB.out).mono ?_
        rintro e w2 ⟨rfl,hB2⟩
        have B2:=hid (below_next HW.out (Nat.le_refl _) (grownBy_below hB2 none) (by simp));clear hB2
        go_wp2_with fail
        go_roundw
        case rel=>exact ⟨k+1,hlt,by go_num,by rw [memR_take rs c k hlt,HM.out,HLo.out,HU.out,HBB.out];rfl,B2.out⟩
        case measure=>simp [intOf];omega
    · obtain rfl:k=rs.length:=by omega
      rw [List.take_length] at HM
      go_wp2_with fail
      go_ret
      exact idxF_mk (by rw [HM.out];rfl) HW.out
def HasOut (rs:List (Int × Int)) (c:Int) (w:World) (e:Ending) (w':World):Prop:=e = .returned (.bool (hasB rs c))∧Below w.heap.size w w'
theorem has_contains (rs:List (Int × Int)) (sa:Option Addr) (sc bc:Nat) (c:Int) (w:World) (h:RangesV w w.heap.size rs sa rs.length sc) (hc:w.cell? ⟨bc,0,none⟩=some (.int .i32 c)) (hlt:bc < w.heap.size) :
    Calls Tryz.prog 163 #[.slice sa rs.length sc,.func (.func 164) #[] #[.pointer (some ⟨bc,0,none⟩)]] w fun e w'=>e = .returned (.bool (memR rs c))∧Below w.heap.size w w':=by
  obtain ⟨_,⟨_,hn⟩,hr⟩:=h
  by_cases hz:rs.length=0
  · have e0:rs=[]:=List.eq_nil_of_length_eq_zero hz
    subst e0
    have HI:=hid (show Calls Tryz.prog 187 #[.slice sa 0 sc,.func (.func 164) #[] #[.pointer (some ⟨bc,0,none⟩)]] w fun e w'=>e = .returned (.int .i64 (-1))∧w'=w by
      clear hc hlt hr hn hz
      go_enter Tryz.func187, Tryz.ntmps187
      go_wp2_with fail
      go_loop [8] (fun i=>i = .int .i64 0) (fun _=>0)
      case atStart=>rfl
      case round=>
        subst hrel
        go_wp2_with fail
        go_ret
        exact ⟨rfl,rfl⟩)
    clear hc hlt hr hn hz
    go_enter Tryz.func163, Tryz.ntmps163
    go_wp2_with fail
    refine (HI.out).mono ?_
    rintro e w1 ⟨rfl,rfl⟩
    go_wp2_with fail
    go_ret
    exact ⟨rfl,Below.refl _ _⟩
  · obtain ⟨b,o,rfl,hb,hat⟩:=hr.resolve_left hz
    have HI:=hid (has_index rs b o sc bc c w hat hb hn hc hlt)
    clear hc hlt hr hn hz hat hb
    go_enter Tryz.func163, Tryz.ntmps163
    go_wp2_with fail
    refine (HI.out).mono ?_
    rintro e w1 ⟨⟨n,rfl,hd⟩,hB⟩
    have HD:=hid hd;have HB:=hid hB;clear hd hB
    go_wp2_with fail
    go_ret
    exact ⟨by rw [← HD.out];rfl,HB.out⟩
theorem sets_Has (rs:List (Int × Int)) (sa:Option Addr) (sc B:Nat) (c:Int) (w:World) (h:RangesV w B rs sa rs.length sc) (hB:B≤w.heap.size) :
    Calls Tryz.prog 136 #[.slice sa rs.length sc,.int .i32 c] w (HasOut rs c w):=by
  have k1:=hid (Blk.new w [.int .i32 c] 21)
  have r1:=hid (show RangesV (w.alloc (.cells #[.int .i32 c] 21)) B rs sa rs.length sc from h.below ((Below.refl _ w).alloc hB _ |>.mono (Nat.le_refl _)))
  clear h
  by_cases h0:c < 0
  · have hh:hasB rs c=false:=by unfold hasB;rw [decide_eq_false (by omega:¬ 0≤c)];rfl
    have HH:=hid hh;clear hh
    have n0:¬ 0≤c:=by omega
    go_enter Tryz.func136, Tryz.ntmps136
    go_wp2_with fail
    go_ret
    exact ⟨by rw [HH.out];rfl,(Below.refl _ _).alloc (Nat.le_refl _) _⟩
  · have n0:0≤c:=by omega
    by_cases h1:c≤1114111
    · have hh:hasB rs c=memR rs c:=by unfold hasB;rw [decide_eq_true n0,decide_eq_true h1];rfl
      have HH:=hid hh;clear hh
      have HC:=hid (has_contains rs sa sc w.heap.size c _ ⟨r1.out.1,r1.out.2.1,r1.out.2.2.imp id (fun ⟨b,o,e,hlt,hat⟩=>⟨b,o,e,by simp;omega,hat⟩)⟩ (Blk.cell k1.out (j:=0) rfl) k1.out.lt)
      have c0:=Blk.cell k1.out (j:=0) rfl
      go_enter Tryz.func136, Tryz.ntmps136
      go_wp2_with fail
      refine (HC.out).mono ?_
      rintro e w1 ⟨rfl,hB1⟩
      have B1:=hid hB1;clear hB1
      go_wp2_with fail
      go_ret
      refine ⟨by rw [HH.out];rfl,?_⟩
      have:=(Below.refl w.heap.size w).alloc (Nat.le_refl _) (.cells #[.int .i32 c] 21)
      exact this.trans (B1.out.mono (by simp))
    · have hh:hasB rs c=false:=by unfold hasB;rw [decide_eq_false h1];simp
      have HH:=hid hh;clear hh
      go_enter Tryz.func136, Tryz.ntmps136
      go_wp2_with fail
      go_ret
      exact ⟨by rw [HH.out];rfl,(Below.refl _ _).alloc (Nat.le_refl _) _⟩
end Go.Proofs.YtnhnldmldnhaoaaGreatDoor
namespace Go.Proofs.YtnhnldmldnhaoaaGreatDoor
open Go Go.RowKit Go.Proofs
def foldF (g:Int→Bool) (c:Int):Bool:=(orbL c).any g
theorem orb_sym:(lettersL.all fun y=>(orbL y).contains y && (orbL y).all fun x=>lettersL.contains x && decide (orbL x=orbL y))=true:=by kernel_rfl
theorem orb_self (c:Int):c ∈ orbL c:=by
  cases h:letterB c with
  | false=>rw [orbL_none h];simp
  | true=>
    have:=List.all_eq_true.1 orb_sym c (letter_mem h)
    simp only [Bool.and_eq_true] at this
    simpa using this.1
theorem orb_same {x y:Int} (hy:y ∈ lettersL) (hx:x ∈ orbL y):x ∈ lettersL∧orbL x=orbL y:=by
  have:=List.all_eq_true.1 orb_sym y hy
  simp only [Bool.and_eq_true,List.all_eq_true,decide_eq_true_eq] at this
  have h:=this.2 x hx
  exact ⟨by simpa using h.1,h.2⟩
def Gath (g:Int→Bool) (P M:List Int):Prop:=∀ x,x ∈ M↔∃ y ∈ P,g y=true∧x ∈ orbL y
theorem Gath.nil (g:Int→Bool):Gath g [] []:=fun x=>by simp
theorem Gath.skip {g:Int→Bool} {P M:List Int} (h:Gath g P M) {c:Int} (hc:g c=false):Gath g (P ++ [c]) M:=fun x=>by
  rw [h x]
  constructor
  · rintro ⟨y,hy,h1,h2⟩
    exact ⟨y,List.mem_append_left _ hy,h1,h2⟩
  · rintro ⟨y,hy,h1,h2⟩
    rcases List.mem_append.1 hy with hy | hy
    · exact ⟨y,hy,h1,h2⟩
    · rw [List.mem_singleton] at hy;subst hy;rw [hc] at h1;cases h1
theorem Gath.take {g:Int→Bool} {P M os:List Int} (h:Gath g P M) {c:Int} (hc:g c=true) (ho:os.Perm (orbL c)):Gath g (P ++ [c]) (M ++ os):=fun x=>by
  rw [List.mem_append,h x,ho.mem_iff]
  constructor
  · rintro (⟨y,hy,h1,h2⟩ | h2)
    · exact ⟨y,List.mem_append_left _ hy,h1,h2⟩
    · exact ⟨c,List.mem_append_right _ (by simp),hc,h2⟩
  · rintro ⟨y,hy,h1,h2⟩
    rcases List.mem_append.1 hy with hy | hy
    · exact .inl ⟨y,hy,h1,h2⟩
    · rw [List.mem_singleton] at hy;subst hy;exact .inr h2
theorem gath_fold {g:Int→Bool} {M:List Int} (h:Gath g lettersL M) (x:Int):(g x || decide (x ∈ M))=foldF g x:=by
  unfold foldF
  rw [Bool.eq_iff_iff,Bool.or_eq_true,decide_eq_true_eq,h x,List.any_eq_true]
  constructor
  · rintro (h1 | ⟨y,hy,h1,h2⟩)
    · exact ⟨x,orb_self x,h1⟩
    · exact ⟨y,by rw [(orb_same hy h2).2];exact orb_self y,h1⟩
  · rintro ⟨y,hy,h1⟩
    cases hl:letterB x with
    | false=>
      rw [orbL_none hl,List.mem_singleton] at hy
      subst hy;exact .inl h1
    | true=>
      have hs:=orb_same (letter_mem hl) hy
      exact .inr ⟨y,hs.1,h1,by rw [hs.2];exact orb_self x⟩
def dupR (M:List Int):List (Int × Int):=M.map fun x=>(x,x)
theorem memR_dup (M:List Int) (c:Int):memR (dupR M) c=decide (c ∈ M):=by
  unfold memR dupR
  rw [Bool.eq_iff_iff,List.any_eq_true,decide_eq_true_eq]
  constructor
  · rintro ⟨r,hr,h⟩
    rw [List.mem_map] at hr
    obtain ⟨x,hx,rfl⟩:=hr
    simp only [Bool.and_eq_true,decide_eq_true_eq] at h
    have:x=c:=by omega
    rw [← this];exact hx
  · intro h
    exact ⟨(c,c),List.mem_map.2 ⟨c,h,rfl⟩,by simp⟩
def lettersS (s:Int × Int × Int) (k:Nat):List Int:=(List.range k).flatMap fun (k:Nat)=>[s.1+(k:Int),s.1+(k:Int)+s.2.2]
theorem lettersS_succ (s:Int × Int × Int) (k:Nat):lettersS s (k+1)=lettersS s k ++ [s.1+(k:Int)] ++ [s.1+(k:Int)+s.2.2]:=by
  unfold lettersS
  rw [List.range_succ,List.flatMap_append]
  simp
theorem lettersS_len (s:Int × Int × Int) (k:Nat):(lettersS s k).length=2 * k:=by
  induction k with
  | zero=>rfl
  | succ k ih=>rw [lettersS_succ];simp only [List.length_append,List.length_cons,List.length_nil,ih];omega
def lettersJ (j:Nat):List Int:=(stretchL.take j).flatMap fun s=>lettersS s (s.2.1 - s.1+1).toNat
theorem lettersJ_succ (j:Nat) (s:Int × Int × Int) (h:stretchL[j]? = some s):lettersJ (j+1)=lettersJ j ++ lettersS s (s.2.1 - s.1+1).toNat:=by
  unfold lettersJ
  obtain ⟨hl,e⟩:=List.getElem?_eq_some_iff.1 h
  rw [List.take_succ_eq_append_getElem hl,List.flatMap_append,e]
  simp
theorem lettersJ_le (j:Nat) (hj:j≤13):(lettersJ j).length≤300:=by
  have h:((List.range 14).all fun j=>decide ((lettersJ j).length≤300))=true:=by kernel_rfl
  simpa using List.all_eq_true.1 h j (List.mem_range.2 (by omega))
theorem stretch_more:∀ s ∈ stretchL,s.1≤s.2.1∧s.2.1 - s.1≤40∧0≤s.1+s.2.2∧s.2.1+s.2.2≤10000:=by decide
end Go.Proofs.YtnhnldmldnhaoaaGreatDoor
namespace Go.Proofs.YtnhnldmldnhaoaaGreatDoor
structure NormInv (rs L:List (Int × Int)):Prop where
  sorted:L.Pairwise fun a b=>a.1≤b.1
  ok:∀ x ∈ L,0≤x.1∧x.1≤x.2∧x.2≤1114111
  mem:∀ c,memR L c=(decide (0≤c) && decide (c≤1114111) && memR rs c)
  len:L.length≤rs.length
theorem NormInv.nil:NormInv [] []:=⟨List.Pairwise.nil,fun _ h=>by simp at h,fun c=>by simp [memR],Nat.le_refl _⟩
structure MergeInv (L:List (Int × Int)) (i:Nat) (O:List (Int × Int)):Prop where
  right:setRight O=true
  mem:∀ c,memR O c=memR (L.take i) c
  le:∀ x ∈ O,∀ y ∈ L.drop i,x.1≤y.1
  len:O.length≤i
theorem MergeInv.nil (L:List (Int × Int)):MergeInv L 0 []:=⟨rfl,fun c=>by simp,fun _ h=>by simp at h,Nat.le_refl _⟩
end Go.Proofs.YtnhnldmldnhaoaaGreatDoor
namespace Go.Proofs.YtnhnldmldnhaoaaGreatDoor
open Go Go.RowKit Go.Proofs Go.Shelf
end Go.Proofs.YtnhnldmldnhaoaaGreatDoor
namespace Go.Proofs.YtnhnldmldnhaoaaGreatDoor
open Go Go.RowKit Go.Proofs Go.Shelf
theorem flatR_one (L:List (Int × Int)):∀ u ∈ flatR L,u.oneCell'=true:=by
  induction L with
  | nil=>intro u hu;simp [flatR] at hu
  | cons x L ih=>
    intro u hu
    rw [show flatR (x :: L) = .int .i32 x.1 :: .int .i32 x.2 :: flatR L by simp [flatR]] at hu
    simp only [List.mem_cons] at hu
    rcases hu with rfl | rfl | hu
    · rfl
    · rfl
    · exact ih u hu
theorem ownsRow_drewR {w:World} {base n k:Nat} {e:TypeId} {v:Value} {xs:List Value} (h:w.ownsRow base e k v n xs):w.drew.ownsRow base e k v n xs:=h
end Go.Proofs.YtnhnldmldnhaoaaGreatDoor
namespace Go.Proofs.YtnhnldmldnhaoaaGreatDoor
open Go Go.RowKit Go.Proofs Go.Shelf
def AllV (w:World) (B:Nat) (v:Value) (out:List (Int × Int)):Prop:=
  ∃ sa sc,v = .slice sa out.length sc∧out.length≤sc∧((sa=none∧out=[]∧sc=0)∨∃ g cur,sa=some ⟨g,0,none⟩∧B≤g∧w.heap[g]? = some (.cells cur 61 (0,0))∧cur.toList.take (out.length * 2)=flatR out)
theorem AllV.of_own {w:World} {B:Nat} {v:Value} {out:List (Int × Int)} (h:w.ownsRow B 61 2 v out.length (flatR out)):AllV w B v out:=by
  rcases h.2 with ⟨rfl,h0⟩ | ⟨g,cap,cur,rfl,hb,hg,hc,hm,hs,hx⟩
  · exact ⟨none,0,by rw [h0],by omega,.inl ⟨rfl,List.eq_nil_of_length_eq_zero h0,rfl⟩⟩
  · exact ⟨_,_,rfl,hc,.inr ⟨g,cur,rfl,hb,hg,hx⟩⟩
theorem AllV.grown {w w':World} {B b:Nat} {v:Value} {out:List (Int × Int)} (h:AllV w B v out) (hg:w.grownBy w' (some b)) (hb:b < B):AllV w' B v out:=by
  obtain ⟨sa,sc,rfl,h1,h2⟩:=h
  refine ⟨sa,sc,rfl,h1,?_⟩
  rcases h2 with h2 | ⟨g,cur,rfl,h3,h4,h5⟩
  · exact .inl h2
  · exact .inr ⟨g,cur,rfl,h3,by rw [hg.block g (Array.getElem?_eq_some_iff.1 h4).1 (ne_some (by omega))];exact h4,h5⟩
theorem AllV.mono {w:World} {B B':Nat} {v:Value} {out:List (Int × Int)} (h:AllV w B v out) (hb:B'≤B):AllV w B' v out:=by
  obtain ⟨sa,sc,rfl,h1,h2⟩:=h
  refine ⟨sa,sc,rfl,h1,?_⟩
  rcases h2 with h2 | ⟨g,cur,rfl,h3,h4,h5⟩
  · exact .inl h2
  · exact .inr ⟨g,cur,rfl,by omega,h4,h5⟩
theorem AllV.cut {w:World} {B sc:Nat} {sa:Option Addr} {out:List (Int × Int)} (h:AllV w B (.slice sa out.length sc) out):AllV w B (.slice sa out.length out.length) out:=by
  obtain ⟨sa',sc',e,h1,h2⟩:=h
  cases e
  refine ⟨sa,_,rfl,Nat.le_refl _,?_⟩
  rcases h2 with ⟨h3,h4,_⟩ | h2
  · exact .inl ⟨h3,h4,by rw [h4];rfl⟩
  · exact .inr h2
theorem cell_row {w:World} {g:Nat} {cur:Array Value} {e:TypeId} {xs:List Value} {n:Nat} (h4:w.heap[g]? = some (.cells cur e (0,0))) (h5:cur.toList.take n=xs) (j:Nat) (u:Value) (hj:xs[j]? = some u):w.cell? ⟨g,j,none⟩=some u:=by
  have hu:cur.toList[j]? = some u:=by
    rw [← h5] at hj
    have hlt:=(List.getElem?_eq_some_iff.1 hj).1
    rw [List.getElem?_take_of_lt (by simp at hlt;omega)] at hj
    exact hj
  simp only [World.cell?,h4]
  simpa using hu
theorem AllV.ranges {w:World} {B:Nat} {v:Value} {out:List (Int × Int)} (h:AllV w B v out) (hN:out.length≤140737488351232):∃ sa sc,v = .slice sa out.length sc∧RangesV w w.heap.size out sa out.length sc:=by
  obtain ⟨sa,sc,rfl,h1,h2⟩:=h
  refine ⟨sa,sc,rfl,rfl,⟨h1,hN⟩,?_⟩
  rcases h2 with ⟨_,h2,_⟩ | ⟨g,cur,rfl,h3,h4,h5⟩
  · exact .inl (by rw [h2];rfl)
  · refine .inr ⟨g,0,rfl,(Array.getElem?_eq_some_iff.1 h4).1,RangesAt.of_cells out 0 fun j hj=>?_⟩
    have hf:=flatR_get out j hj
    exact ⟨cell_row h4 h5 _ _ (by rw [Nat.zero_add];exact hf.1),cell_row h4 h5 _ _ (by rw [Nat.zero_add];exact hf.2)⟩
theorem run_append_full (w:World) (B B2:Nat) (ty:TypeId) (sa:Option Addr) (out out2:List (Int × Int)) (v2:Value) (hA:AllV w B (.slice sa out.length out.length) out) (h2:w.ownsRow B2 61 2 v2 out2.length (flatR out2)) (hN:out.length+out2.length≤1000000000000) (hB:B≤w.heap.size) :
    ∃ v' w',(Builtin.append_ #[26,26] ty #[.slice sa out.length out.length,v2]).run Tryz.prog w = .ok v' w'∧AllV w' B v' (out ++ out2)∧w.grownBy w' none:=by
  obtain ⟨i0,hi,hz0,hz1,hz2⟩:=info_parts infoRange
  obtain ⟨sa',sc',e,h1,hA⟩:=hA
  cases e
  by_cases hm:out2=[]
  · subst hm
    rw [List.append_nil]
    refine ⟨_,w,?_,⟨sa,_,rfl,Nat.le_refl _,hA⟩,grownBy_refl _ _⟩
    rcases h2.2 with ⟨rfl,_⟩ | ⟨g,cap,cur,rfl,_,_,hnc,_⟩
    · rcases hA with ⟨rfl,h3,h4⟩ | ⟨g,cur,rfl,h3,h4,h5⟩
      · simp [Builtin.append_,run_underlying Tryz.underlying26,sizeOf,typeInfo,hi,Builtin.lenOf,Builtin.firstCells,h4]
      · simp [Builtin.append_,run_underlying Tryz.underlying26,sizeOf,typeInfo,hi,Builtin.lenOf,Builtin.firstCells,storeCells]
    · have hlc:∀ a,(loadCells a 0).run Tryz.prog w = .ok #[] w:=fun a=>by simpa using run_loadCells (P:=Tryz.prog) w a 0 (fun _=>undef) (fun j hj=>absurd hj (by omega))
      rcases hA with ⟨rfl,h3,h4⟩ | ⟨g,cur,rfl,h3,h4,h5⟩
      · simp [Builtin.append_,run_underlying Tryz.underlying26,sizeOf,typeInfo,hi,Builtin.lenOf,Builtin.firstCells,h4,hlc,Result.andThen]
      · simp [Builtin.append_,run_underlying Tryz.underlying26,sizeOf,typeInfo,hi,Builtin.lenOf,Builtin.firstCells,storeCells,hlc,Result.andThen]
  · have hl:0 < out2.length:=List.length_pos_iff.2 hm
    rcases h2.2 with ⟨rfl,h0⟩ | ⟨g2,cap,cur2,rfl,_,hg2,hnc,_,_,hx2⟩
    · omega
    have hnews:∀ j u,(flatR out2)[j]? = some u→w.cell? ((⟨g2,0,none⟩:Addr).add j)=some u:=fun j u hj=>by
      rw [Addr.add_lit,Nat.zero_add];exact cell_row hg2 hx2 j u hj
    rcases hA with ⟨rfl,rfl,h4⟩ | ⟨g,cur,rfl,h3,h4,h5⟩
    · obtain ⟨v',w',hrun,r1,r2,_⟩:=run_append_own (P:=Tryz.prog) w w.heap.size 26 ty 61 i0 _ 2 8 Tryz.underlying26 hi hz0 hz1 hz2 rfl (by decide) (.slice none 0 0) 0 [] (World.ownsRow_nil w _ _ _) ⟨g2,0,none⟩ out2.length cap (flatR out2) (by rw [flatR_length];try omega) hnews (flatR_one out2) (by unfold maxLen;omega) (by omega) (Nat.le_refl _)
      refine ⟨v',w',hrun,?_,r2⟩
      exact (AllV.of_own (by simpa using r1)).mono hB
    · obtain ⟨v',w',hrun,r1,r2⟩:=run_append_arg_grows (P:=Tryz.prog) w 26 ty 61 i0 _ 2 8 Tryz.underlying26 hi hz0 hz1 hz2 rfl (by decide) ⟨g,0,none⟩ out.length out.length (flatR out) (by rw [flatR_length];try omega) (fun j u hj=>by rw [Addr.add_lit,Nat.zero_add];exact cell_row h4 h5 j u hj) ⟨g2,0,none⟩ out2.length cap (flatR out2) (by rw [flatR_length];try omega) hnews (by omega) (by unfold maxLen;omega) (by omega)
      refine ⟨v',w',hrun,?_,r2⟩
      exact (AllV.of_own (by simpa [flatR] using r1)).mono hB
theorem step_append_full {ops:Array Oper} {o:Oper} {a:Act} {w:World} {K:Act→World→Prop} {Q:Exit→Act→World→Prop} {E:Prop} (hgd:o.guard=none) (s x:Operand) (hop:o.op=Op.call { callee:=Callee.builtin Builtin.append,args:=#[s,x],argTypes:=#[26,26] })
    (B B2:Nat) (sa:Option Addr) (out out2:List (Int × Int)) (v2:Value) (hs:a.eval s = .slice sa out.length out.length) (hx:a.eval x=v2) (hA:AllV w B (.slice sa out.length out.length) out) (h2:w.ownsRow B2 61 2 v2 out2.length (flatR out2)) (hN:out.length+out2.length≤1000000000000) (hB:B≤w.heap.size)
    (hK:∀ v' w',AllV w' B v' (out ++ out2)→w.grownBy w' none→K (a.put o.dst v') w') :
    if Region.wanted o (yielded ops a.tmps)=true then Oper.wp Tryz.prog o a w K Q else E:=by
  have hw:Region.wanted o (yielded ops a.tmps)=true:=by simp [Region.wanted,hgd]
  rw [if_pos hw]
  obtain ⟨v',w',hrun,r1,r2⟩:=run_append_full w B B2 o.type sa out out2 v2 hA h2 hN hB
  unfold Oper.wp
  simp [execOp,hop,resolve,invoke,builtin,hs,hx,hrun,Result.andThen]
  exact hK v' w' r1 r2
end Go.Proofs.YtnhnldmldnhaoaaGreatDoor
