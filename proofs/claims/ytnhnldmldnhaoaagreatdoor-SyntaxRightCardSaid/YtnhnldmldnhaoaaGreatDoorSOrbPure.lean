/- Orbits: what tables.Orbit computes, and the document's orbits. -/
import Derived.KernelRfl
import Derived.Test.YtnhnldmldnhaoaaGreatDoorSNext
import Derived.Test.YtnhnldmldnhaoaaGreatDoorSBase
import Derived.Test.YtnhnldmldnhaoaaGreatDoorSThose
import Derived.Test.YtnhnldmldnhaoaaGreatDoorShelfS
import Derived.Deep.QuietTactic
import Derived.BigQuiet
import Derived.BigRegion
import Derived.LoopTactic
import Derived.ChangeAlike
import Derived.IntWalk
import Derived.Maps.AppendAt
import Derived.Deep.AppendLies
set_option maxRecDepth 100000
set_option maxHeartbeats 16000000
open Go.Lib (hid)
namespace Go.Proofs.YtnhnldmldnhaoaaGreatDoor
open Go
def stretchL:List (Int × Int × Int):=[(65,90,32),(192,214,32),(216,222,32),(913,929,32),(931,937,32),(1040,1071,32),(376,376,-121),(7838,7838,-7615),(75,75,8415),(83,83,300),(197,197,8294),(924,924,-743),(931,931,31)]
def addU (out:List Int) (x:Int):List Int:=if out.contains x then out else out ++ [x]
def stepU (x:Int) (out:List Int) (s:Int × Int × Int):List Int:=
  let o1:=if s.1≤x∧x≤s.2.1 then addU out (x+s.2.2) else out
  if s.1≤x - s.2.2∧x - s.2.2≤s.2.1 then addU o1 (x - s.2.2) else o1
def roundU (x:Int) (out:List Int):List Int:=stretchL.foldl (stepU x) out
def orbU:Nat→Nat→List Int→List Int
  | 0,_,_=>[]
  | n+1,i,out=>match out[i]? with
    | none=>out
    | some x=>orbU n (i+1) (roundU x out)
def orbF (c:Int):List Int:=orbU 10 0 [c]
def groupsL:List (List Int):=[[75,107,8490],[83,115,383],[197,229,8491],[181,924,956],[931,962,963],[223,7838],[255,376]]
def greatB (c:Int):Bool:=!(c == 75 || c == 83 || c == 197 || c == 924) && ((65≤c && c≤90) || (192≤c && c≤214) || (216≤c && c≤222) || (913≤c && c≤929) || (932≤c && c≤937) || (1040≤c && c≤1071))
def orbL (c:Int):List Int:=match groupsL.find? (·.contains c) with
  | some l=>l
  | none=>if greatB c then [c,c+32] else if 32≤c && greatB (c - 32) then [c - 32,c] else [c]
def lettersL:List Int:=stretchL.flatMap fun s=>(List.range (s.2.1 - s.1+1).toNat).flatMap fun (k:Nat)=>[s.1+(k:Int),s.1+(k:Int)+s.2.2]
def goodB (c:Int):Bool:=!(orbF c).isEmpty && decide ((orbF c).length≤3) && (orbF c).all (fun x=>decide (0≤x) && decide (x≤1114111)) && (orbF c).isPerm (orbL c)
theorem letters_good:lettersL.all goodB=true:=by kernel_rfl
def letterB (c:Int):Bool:=stretchL.any fun s=>(decide (s.1≤c) && decide (c≤s.2.1)) || (decide (s.1≤c - s.2.2) && decide (c - s.2.2≤s.2.1))
theorem letter_mem {c:Int} (h:letterB c=true):c ∈ lettersL:=by
  unfold letterB at h
  rw [List.any_eq_true] at h
  obtain ⟨s,hs,h⟩:=h
  unfold lettersL
  rw [List.mem_flatMap]
  refine ⟨s,hs,?_⟩
  rw [List.mem_flatMap]
  simp only [Bool.or_eq_true,Bool.and_eq_true,decide_eq_true_eq] at h
  rcases h with h | h
  · refine ⟨(c - s.1).toNat,by rw [List.mem_range];omega,?_⟩
    have:s.1+((c - s.1).toNat:Int)=c:=by omega
    rw [this];simp
  · refine ⟨(c - s.2.2 - s.1).toNat,by rw [List.mem_range];omega,?_⟩
    have:s.1+((c - s.2.2 - s.1).toNat:Int)+s.2.2=c:=by omega
    rw [this];simp
theorem fold_same {α β:Type} (f:β→α→β) (b:β):∀ l:List α,(∀ a ∈ l,f b a=b)→l.foldl f b=b
  | [],_=>rfl
  | a :: l,h=>by
    rw [List.foldl_cons,h a List.mem_cons_self]
    exact fold_same f b l fun x hx=>h x (List.mem_cons_of_mem _ hx)
theorem round_none {c:Int} (h:letterB c=false) (out:List Int):roundU c out=out:=by
  unfold roundU
  refine fold_same _ _ _ fun s hs=>?_
  unfold letterB at h
  rw [List.any_eq_false] at h
  have:=h s hs
  simp only [Bool.or_eq_true,Bool.and_eq_true,decide_eq_true_eq,not_or] at this
  unfold stepU
  simp only [this,if_false]
theorem orbF_none {c:Int} (h:letterB c=false):orbF c=[c]:=by
  unfold orbF
  show orbU 9 1 (roundU c [c])=[c]
  rw [round_none h]
  rfl
theorem groups_letters:(groupsL.all fun l=>l.all letterB)=true:=by kernel_rfl
theorem great_letter {c:Int} (h:greatB c=true):letterB c=true∧letterB (c+32)=true:=by
  unfold greatB at h
  simp only [Bool.and_eq_true,Bool.or_eq_true,decide_eq_true_eq] at h
  unfold letterB stretchL
  simp only [List.any_cons,List.any_nil,Bool.or_false,Bool.or_eq_true,Bool.and_eq_true,decide_eq_true_eq]
  omega
theorem orbL_none {c:Int} (h:letterB c=false):orbL c=[c]:=by
  unfold orbL
  have hg:groupsL.find? (·.contains c)=none:=by
    rw [List.find?_eq_none]
    intro l hl hc
    have h1:=List.all_eq_true.1 (List.all_eq_true.1 groups_letters l hl) c (by simpa using hc)
    rw [h] at h1;cases h1
  rw [hg]
  simp only
  have g1:greatB c=false:=by
    rw [Bool.eq_false_iff];intro e
    have:=(great_letter e).1;rw [h] at this;cases this
  have g2:greatB (c - 32)=false:=by
    rw [Bool.eq_false_iff];intro e
    have:=(great_letter e).2;rw [Int.sub_add_cancel,h] at this;cases this
  rw [g1,g2]
  simp
theorem orb_good {c:Int} (h0:0≤c) (h1:c≤1114111):orbF c≠[]∧(orbF c).length≤3∧(∀ x ∈ orbF c,0≤x∧x≤1114111)∧(orbF c).Perm (orbL c):=by
  cases hl:letterB c with
  | false=>
    rw [orbF_none hl,orbL_none hl]
    exact ⟨by simp,by simp,by simp;omega,List.Perm.refl _⟩
  | true=>
    have hg:=List.all_eq_true.1 letters_good c (letter_mem hl)
    unfold goodB at hg
    simp only [Bool.and_eq_true,Bool.not_eq_true',decide_eq_true_eq,List.all_eq_true] at hg
    refine ⟨?_,hg.1.1.2,hg.1.2,List.isPerm_iff.1 hg.2⟩
    intro e
    have:=hg.1.1.1
    rw [e] at this;cases this
theorem addU_prefix (out:List Int) (x:Int):out <+: addU out x:=by
  unfold addU
  split
  · exact List.prefix_rfl
  · exact List.prefix_append _ _
theorem stepU_prefix (x:Int) (out:List Int) (s:Int × Int × Int):out <+: stepU x out s:=by
  unfold stepU
  have h1:out <+: (if s.1≤x∧x≤s.2.1 then addU out (x+s.2.2) else out):=by
    split
    · exact addU_prefix _ _
    · exact List.prefix_rfl
  simp only
  split
  · exact h1.trans (addU_prefix _ _)
  · exact h1
theorem foldU_prefix (x:Int):∀ (l:List (Int × Int × Int)) (out:List Int),out <+: l.foldl (stepU x) out
  | [],_=>List.prefix_rfl
  | s :: l,out=>(stepU_prefix x out s).trans (foldU_prefix x l _)
theorem orbU_prefix:∀ (n i:Nat) (out F:List Int),orbU n i out=F→F≠[]→out <+: F
  | 0,_,_,F,h,hF=>absurd h.symm hF
  | n+1,i,out,F,h,hF=>by
    unfold orbU at h
    cases hx:out[i]? with
    | none=>rw [hx] at h;rw [← h];exact List.prefix_rfl
    | some x=>
      rw [hx] at h
      exact (foldU_prefix x stretchL out).trans (orbU_prefix n (i+1) _ F h hF)
theorem prefix_get {a b:List Int} (h:a <+: b) {i:Nat} {x:Int} (hx:a[i]? = some x):b[i]? = some x:=by
  obtain ⟨t,rfl⟩:=h
  rw [List.getElem?_append_left (List.getElem?_eq_some_iff.1 hx).1,hx]
theorem stretch_bounds:∀ s ∈ stretchL,0≤s.1∧s.1≤10000∧0≤s.2.1∧s.2.1≤10000∧-10000≤s.2.2∧s.2.2≤10000:=by decide
end Go.Proofs.YtnhnldmldnhaoaaGreatDoor
namespace Go.Proofs.YtnhnldmldnhaoaaGreatDoor
open Go Go.RowKit Go.Proofs Go.Shelf
noncomputable def normL (p:Int→Bool):List (Int × Int):=by
  classical
  exact if h:∃ out,IsSet out p then Classical.choose h else []
theorem normL_is {p:Int→Bool} {out:List (Int × Int)} (h:IsSet out p):normL p=out:=by
  unfold normL
  rw [dif_pos ⟨out,h⟩]
  exact IsSet.unique (Classical.choose_spec (⟨out,h⟩:∃ out,IsSet out p)) h
noncomputable def atomT (f c:Int):T:=if onB f 1=true∧1 < (orbL c).length then setT (normL fun x=>decide (x ∈ orbL c)) else leafT 3 c [] 0
end Go.Proofs.YtnhnldmldnhaoaaGreatDoor
namespace Go.Proofs.YtnhnldmldnhaoaaGreatDoor
open Go Go.RowKit Go.Proofs
def vR (xs:List Int):List Value:=xs.map (Value.int .i32)
theorem vR_get (xs:List Int) (j:Nat) (h:j < xs.length):(vR xs)[j]? = some (.int .i32 xs[j]):=by simp [vR,h]
abbrev OwnR (w:World) (B:Nat) (v:Value) (xs:List Int):Prop:=w.ownsRow B 21 1 v xs.length (vR xs)
theorem cmp_isNaN (x:Int) (w:World):Calls Tryz.prog 145 #[.int .i32 x] w fun e w'=>e = .returned (.bool false)∧w=w':=by
  go_enter Tryz.func145, Tryz.ntmps145
  go_wp2
  go_ret
  exact ⟨rfl,rfl⟩
theorem cmp_Less (x y:Int) (w:World):Calls Tryz.prog 120 #[.int .i32 x,.int .i32 y] w fun e w'=>e = .returned (.bool (decide (x < y)))∧w=w':=by
  go_enter Tryz.func120, Tryz.ntmps120
  go_wp2_with (go_at_call 145;refine (cmp_isNaN _ _).mono ?_;rintro e w' ⟨rfl,rfl⟩)
  go_ret
  exact ⟨rfl,rfl⟩
theorem take_has {xs:List Int} {x:Int} {k:Nat} (h:k < xs.length) (hm:(xs.take k).contains x=false) (hx:xs[k]≠x):(xs.take (k+1)).contains x=false:=by
  rw [List.take_succ_eq_append_getElem h]
  simp only [List.contains_eq_mem,List.mem_append,List.mem_singleton,decide_eq_false_iff_not,not_or] at hm ⊢
  exact ⟨hm,fun e=>hx e.symm⟩
def IdxOut (xs:List Int) (x:Int) (w:World) (e:Ending) (w':World):Prop:=(∃ n:Int,e = .returned (.int .i64 n)∧decide (0≤n)=xs.contains x)∧w'=w
theorem idx_mk {xs:List Int} {x n:Int} {w:World} (h:decide (0≤n)=xs.contains x):IdxOut xs x w (.returned (.int .i64 n)) w:=⟨⟨n,rfl,h⟩,rfl⟩
theorem runes_Index (xs:List Int) (b o c:Nat) (x:Int) (w:World) (hc:∀ k (h:k < xs.length),w.cell? ⟨b,o+k,none⟩=some (.int .i32 xs[k])) (hn:xs.length≤1000000) :
    Calls Tryz.prog 91 #[.slice (some ⟨b,o,none⟩) xs.length c,.int .i32 x] w (IdxOut xs x w):=by
  have HC:=hid hc;clear hc
  go_enter Tryz.func91, Tryz.ntmps91
  go_wp2_with fail
  go_loop [8] (fun i=>∃ k:Nat,k≤xs.length∧i = .int .i64 k∧(xs.take k).contains x=false) (fun i=>xs.length - (intOf i).toNat)
  case atStart=>exact ⟨0,Nat.zero_le _,rfl,rfl⟩
  case round=>
    obtain ⟨k,hk,rfl,hm⟩:=hrel
    have HM:=hid hm;clear hm
    by_cases hlt:k < xs.length
    · have g:=HC.out k hlt
      obtain ⟨y,hy⟩:∃ y,xs[k]=y:=⟨_,rfl⟩
      rw [hy] at g
      have HY:=hid hy;clear hy
      by_cases hxy:x=y
      · subst hxy
        have e:(x == x)=true:=by simp
        go_wp2_with fail
        go_ret
        refine idx_mk ?_
        have:xs.contains x=true:=by
          simp only [List.contains_eq_mem,decide_eq_true_eq]
          have:=List.getElem_mem hlt;rw [HY.out] at this;exact this
        rw [this];simp
      · have e:(x == y)=false:=by simpa using hxy
        go_wp2_with fail
        go_round
        case rel=>exact ⟨k+1,hlt,by go_num,take_has hlt HM.out (by rw [HY.out];exact fun h=>hxy h.symm)⟩
        case measure=>simp [intOf];omega
    · obtain rfl:k=xs.length:=by omega
      rw [List.take_length] at HM
      go_wp2_with fail
      go_ret
      exact idx_mk (by rw [HM.out];rfl)
theorem runes_Contains (xs:List Int) (b o c:Nat) (x:Int) (w:World) (hc:∀ k (h:k < xs.length),w.cell? ⟨b,o+k,none⟩=some (.int .i32 xs[k])) (hn:xs.length≤1000000) :
    Calls Tryz.prog 72 #[.slice (some ⟨b,o,none⟩) xs.length c,.int .i32 x] w fun e w'=>e = .returned (.bool (xs.contains x))∧w'=w:=by
  have HI:=hid (runes_Index xs b o c x w hc hn);clear hc
  go_enter Tryz.func72, Tryz.ntmps72
  go_wp2_with fail
  refine (HI.out).mono ?_
  rintro e w' ⟨⟨n,rfl,hd⟩,rfl⟩
  have HD:=hid hd;clear hd
  go_wp2_with fail
  go_ret
  exact ⟨by rw [← HD.out];rfl,rfl⟩
def SortedR (w:World) (B g cap:Nat) (xs:List Int) (w':World):Prop:=∃ ys:List Int,ys.Perm xs∧w'.ownsRow B 21 1 (.slice (some ⟨g,0,none⟩) xs.length cap) xs.length (vR ys)∧w.grownBy w' (some g)
theorem swap_perm (ys:List Int) (j:Nat) (h0:0 < j) (h:j < ys.length):((ys.set (j - 1) (ys[j])).set j (ys[j - 1]'(by omega))).Perm ys:=by
  obtain ⟨i,rfl⟩:∃ i,j=i+1:=⟨j - 1,by omega⟩
  simp only [Nat.add_sub_cancel]
  have e:ys=ys.take i ++ (ys[i]'(by omega)) :: ys[i+1] :: ys.drop (i+2):=by
    rw [List.getElem_cons_drop,List.getElem_cons_drop,List.take_append_drop]
  have e2:(ys.set i ys[i+1]).set (i+1) (ys[i]'(by omega))=ys.take i ++ ys[i+1] :: (ys[i]'(by omega)) :: ys.drop (i+2):=by
    apply List.ext_getElem?
    intro k
    rw [List.getElem?_set,List.getElem?_set]
    by_cases k1:i+1=k
    · subst k1
      rw [List.getElem?_append_right (by simp;omega)]
      simp [List.length_take,Nat.min_eq_left (show i≤ys.length by omega),h]
    · by_cases k2:i=k
      · subst k2
        rw [List.getElem?_append_right (by rw [List.length_take];omega)]
        simp [List.length_take,Nat.min_eq_left (show i≤ys.length by omega),show i < ys.length by omega]
      · rw [if_neg k1,if_neg k2]
        by_cases k3:k < i
        · rw [List.getElem?_append_left (by simp;omega),List.getElem?_take_of_lt k3]
        · rw [List.getElem?_append_right (by simp;omega)]
          obtain ⟨m,rfl⟩:∃ m,k=i+2+m:=⟨k - (i+2),by omega⟩
          simp [List.length_take,Nat.min_eq_left (show i≤ys.length by omega),show i+2+m - i=m+1+1 by omega]
  rw [e2]
  conv=>rhs;rw [e]
  exact List.Perm.append_left _ (List.Perm.swap _ _ _)
end Go.Proofs.YtnhnldmldnhaoaaGreatDoor
namespace Go.Proofs.YtnhnldmldnhaoaaGreatDoor
open Go Go.RowKit Go.Proofs
theorem cmp_LessQ (x y:Int) (b:Bool) (h:decide (x < y)=b) (w:World):Calls Tryz.prog 120 #[.int .i32 x,.int .i32 y] w fun e w'=>e = .returned (.bool b)∧w'=w:=
  (cmp_Less x y w).mono fun _ _ ⟨he,hw⟩=>⟨by rw [he,h],hw.symm⟩
structure InsAt (w:World) (B g cap:Nat) (xs:List Int) (W:World) (ys:List Int):Prop where
  p:ys.Perm xs
  r:W.ownsRow B 21 1 (.slice (some ⟨g,0,none⟩) xs.length cap) xs.length (vR ys)
  g:w.grownBy W (some g)
theorem InsAt.cell {w W:World} {B g cap:Nat} {xs ys:List Int} (h:InsAt w B g cap xs W ys) (j:Nat) (hj:j < xs.length):W.cell? ⟨g,j,none⟩=some (.int .i32 (ys[j]'(by rw [h.p.length_eq];exact hj))):=by
  rw [h.r.cellAt j (by omega),vR_get ys j (by rw [h.p.length_eq];exact hj)]
theorem InsAt.look {w W:World} {B g cap:Nat} {xs ys:List Int} (h:InsAt w B g cap xs W ys) (j:Nat) (hj:j < xs.length):∃ x,ys[j]? = some x∧W.cell? ⟨g,j,none⟩=some (.int .i32 x):=
  ⟨_,List.getElem?_eq_getElem (by rw [h.p.length_eq];exact hj),h.cell j hj⟩
theorem swap_at {ys:List Int} {k:Nat} {x y:Int} (h1:ys[k+1]? = some x) (h0:ys[k]? = some y):((ys.set k x).set (k+1) y).Perm ys:=by
  obtain ⟨l1,e1⟩:=List.getElem?_eq_some_iff.1 h1
  obtain ⟨l0,e0⟩:=List.getElem?_eq_some_iff.1 h0
  have:=swap_perm ys (k+1) (by omega) l1
  simp only [Nat.add_sub_cancel] at this
  rw [e1,e0] at this
  exact this
theorem InsAt.swap {w W:World} {B g cap:Nat} {xs ys:List Int} (h:InsAt w B g cap xs W ys) {k:Nat} {x y:Int} (h1:ys[k+1]? = some x) (h0:ys[k]? = some y) :
    InsAt w B g cap xs ((W.setCell ⟨g,k+1,none⟩ (.int .i32 y)).setCell ⟨g,k,none⟩ (.int .i32 x)) ((ys.set k x).set (k+1) y):=by
  have s1:=h.r.stored (k+1) (.int .i32 y)
  have s2:=s1.1.stored k (.int .i32 x)
  refine ⟨(swap_at h1 h0).trans h.p,?_,grownBy_trans h.g (grownBy_trans s1.2 s2.2)⟩
  have e:vR ((ys.set k x).set (k+1) y)=((vR ys).set (k+1) (.int .i32 y)).set k (.int .i32 x):=by
    unfold vR
    rw [List.set_comm _ _ (by omega),List.map_set,List.map_set]
  rw [e]
  exact s2.1
theorem InsAt.drew1 {w W:World} {B g cap:Nat} {xs ys:List Int} (h:InsAt w B g cap xs W ys):InsAt w B g cap xs W.drew ys:=⟨h.p,h.r,grownBy_trans h.g (grownBy_drew _ _)⟩
theorem InsAt.drew {w W:World} {B g cap:Nat} {xs ys:List Int} (h:InsAt w B g cap xs W ys) (n:Nat):InsAt w B g cap xs (W.drewN n) ys:=⟨h.p,h.r,grownBy_trans h.g (grownBy_drewN _ _ _)⟩
theorem insertion_runes (xs:List Int) (B g cap:Nat) (w:World) (h:w.ownsRow B 21 1 (.slice (some ⟨g,0,none⟩) xs.length cap) xs.length (vR xs)) (h0:0 < xs.length) (hcap:xs.length≤cap) (hcm:cap≤9223372036854775807) :
    Calls Tryz.prog 114 #[.slice (some ⟨g,0,none⟩) xs.length cap,.int .i64 0,.int .i64 xs.length] w fun e w'=>e = .returned (.tuple #[])∧SortedR w B g cap xs w':=by
  have HA:=hid (show InsAt w B g cap xs w xs from ⟨List.Perm.refl _,h,grownBy_refl _ _⟩);clear h
  go_enter Tryz.func114, Tryz.ntmps114
  go_wp2_with fail
  go_loopw [6] (fun iv W=>∃ (i:Nat) (ys:List Int),1≤i∧i≤xs.length∧iv = .int .i64 i∧InsAt w B g cap xs W ys) (fun iv _=>xs.length - (intOf iv).toNat)
  case atStart=>exact ⟨1,xs,Nat.le_refl _,h0,rfl,HA.out⟩
  case round=>
    obtain ⟨i,ys,hi1,hi2,rfl,hA⟩:=hrel
    have A1:=hid hA;clear hA
    obtain ⟨wo,hwo⟩:∃ wo:World,wo=wr:=⟨_,rfl⟩
    by_cases hlt:i < xs.length
    · go_wp2_with fail
      go_loopw [7] (fun jv W=>∃ (j:Nat) (ys:List Int),j≤i∧jv = .int .i64 j∧InsAt w B g cap xs W ys) (fun jv _=>(intOf jv).toNat)
      case atStart=>exact ⟨i,ys,Nat.le_refl _,rfl,A1.out⟩
      case round=>
        obtain ⟨j,zs,hj,rfl,hZ⟩:=hrel
        have Z1:=hid hZ;clear hZ
        by_cases hj0:j=0
        · subst hj0
          have d0:decide ((0:Int) < 0)=false:=by decide
          go_wp2_with fail
          go_quiet (fail)
          go_wp2_with fail
          go_roundw
          case rel=>exact ⟨i+1,zs,by omega,hlt,by go_num,Z1.out.drew _⟩
          case measure=>simp [intOf];omega
        · obtain ⟨k,rfl⟩:∃ k,j=k+1:=⟨j - 1,by omega⟩
          obtain ⟨x,hx,g1⟩:=Z1.out.look (k+1) (by omega)
          obtain ⟨y,hy,g0⟩:=Z1.out.look k (by omega)
          have f1:=Z1.out.r.frozenAt (k+1)
          have f0:=Z1.out.r.frozenAt k
          have hk:k < xs.length:=by omega
          have hk1:k+1 < xs.length:=by omega
          have hk2:(k:Int)+1 < (xs.length:Int):=by omega
          have hk3:(k:Int) < (xs.length:Int):=by omega
          have hk4:(0:Int)≤(k:Int)+1:=by omega
          have hk5:(0:Int)≤(k:Int):=by omega
          have hk6:((k:Int)+1).toNat=k+1:=by omega
          have hk7:IntKind.i64.wrap (k:Int)=(k:Int):=IntWalk.i64_in _ (by omega)
          have HX:=hid hx;have HY:=hid hy
          clear hx hy
          have d0:decide ((0:Int) < (k:Int)+1)=true:=decide_eq_true (by omega)
          by_cases hxy:x < y
          · have dx:decide (x < y)=true:=decide_eq_true hxy
            go_wp2_with fail
            go_quiet ((go_at_call 120;exact Calls.quiet_of_same (cmp_LessQ _ _ _ dx _)))
            go_wp2_with fail
            generalize hW5:wr.drewN _=W5
            have Z5:=hid (show InsAt w B g cap xs W5 zs by rw [← hW5];exact Z1.out.drew _)
            have e1:W5.cell? ⟨g,k+1,none⟩=some (.int .i32 x):=by rw [← hW5];exact g1
            have e0:W5.cell? ⟨g,k,none⟩=some (.int .i32 y):=by rw [← hW5];exact g0
            have u1:W5.frozen? ⟨g,k+1,none⟩=false:=by rw [← hW5];exact f1
            have u0:W5.frozen? ⟨g,k,none⟩=false:=by rw [← hW5];exact f0
            clear hW5 g1 g0 f1 f0
            go_region
            have Z7:=hid (InsAt.drew1 (Z5.out.swap HX.out HY.out))
            clear e1 e0 u1 u0
            go_wp2_with fail
            go_roundw
            case rel=>exact ⟨k,_,by omega,by go_num,Z7.out⟩
            case measure=>simp [intOf];try omega
          · have dx:decide (x < y)=false:=decide_eq_false hxy
            go_wp2_with fail
            go_quiet ((go_at_call 120;exact Calls.quiet_of_same (cmp_LessQ _ _ _ dx _)))
            go_wp2_with fail
            go_roundw
            case rel=>exact ⟨i+1,zs,by omega,hlt,by go_num,Z1.out.drew _⟩
            case measure=>simp [intOf];omega
    · obtain rfl:i=xs.length:=by omega
      go_wp2_with fail
      go_end0
      exact ⟨rfl,ys,A1.out.p,A1.out.r,A1.out.g⟩
theorem pdq_runes (xs:List Int) (B g cap:Nat) (l:Int) (w:World) (h:w.ownsRow B 21 1 (.slice (some ⟨g,0,none⟩) xs.length cap) xs.length (vR xs)) (h0:0 < xs.length) (hn:xs.length≤12) (hcap:xs.length≤cap) (hcm:cap≤9223372036854775807) :
    Calls Tryz.prog 92 #[.slice (some ⟨g,0,none⟩) xs.length cap,.int .i64 0,.int .i64 xs.length,.int .i64 l] w fun e w'=>e = .returned (.tuple #[])∧SortedR w B g cap xs w':=by
  have HI:=hid (insertion_runes xs B g cap w h h0 hcap hcm);clear h
  have hle:(xs.length:Int)≤12:=by omega
  go_enter Tryz.func92, Tryz.ntmps92
  go_wp2_with fail
  go_loopg [1,2] 1 (fun k a b W=>a = .int .i64 0∧b = .int .i64 xs.length∧W=w)
  case atStart=>exact ⟨rfl,rfl,rfl⟩
  case round=>
    obtain ⟨rfl,rfl,rfl⟩:=hrel
    go_wp2_with fail
    refine (HI.out).mono ?_
    rintro e w1 ⟨rfl,hS⟩
    have HS:=hid hS;clear hS
    go_wp2_with fail
    refine ⟨rfl,.tuple #[],by simp [results,Tryz.results92],rfl,HS.out⟩
theorem sort_runes (xs:List Int) (B g cap:Nat) (w:World) (h:w.ownsRow B 21 1 (.slice (some ⟨g,0,none⟩) xs.length cap) xs.length (vR xs)) (h0:0 < xs.length) (hn:xs.length≤12) (hcap:xs.length≤cap) (hcm:cap≤9223372036854775807) :
    Calls Tryz.prog 74 #[.slice (some ⟨g,0,none⟩) xs.length cap] w fun e w'=>e = .returned (.tuple #[])∧SortedR w B g cap xs w':=by
  have HP:=hid (fun l=>pdq_runes xs B g cap l w h h0 hn hcap hcm);clear h
  go_enter Tryz.func74, Tryz.ntmps74
  go_wp2_with fail
  refine (Tryz.bits_Len _ _ (by omega) (by omega)).mono ?_
  rintro e w1 ⟨rfl,rfl⟩
  go_wp2_with fail
  refine (HP.out _).mono ?_
  rintro e w1 ⟨rfl,hS⟩
  have HS:=hid hS;clear hS
  go_wp2_with fail
  go_end0
  exact ⟨rfl,HS.out⟩
end Go.Proofs.YtnhnldmldnhaoaaGreatDoor
namespace Go.Proofs.YtnhnldmldnhaoaaGreatDoor
open Go Go.RowKit Go.Proofs
structure Kept (w w':World) (bad:Nat→Prop):Prop where
  os:w'.os=w.os
  tape:w'.tape=w.tape
  output:w'.output=w.output
  size:w.heap.size≤w'.heap.size
  block:∀ k,k < w.heap.size→¬ bad k→w'.heap[k]? = w.heap[k]?
theorem Kept.refl (w:World) (bad:Nat→Prop):Kept w w bad:=⟨rfl,rfl,rfl,Nat.le_refl _,fun _ _ _=>rfl⟩
theorem Kept.of_grown {w w':World} {row:Option Nat} {bad:Nat→Prop} (h:w.grownBy w' row) (hb:∀ k,row=some k→bad k):Kept w w' bad:=
  ⟨h.os,h.tape,h.output,h.size,fun k hk hn=>h.block k hk (fun e=>hn (hb k e.symm))⟩
theorem Kept.trans {a b c:World} {bad:Nat→Prop} (h:Kept a b bad) (k:Kept b c bad):Kept a c bad:=
  ⟨k.os.trans h.os,k.tape.trans h.tape,k.output.trans h.output,Nat.le_trans h.size k.size,fun i hi hn=>(k.block i (Nat.lt_of_lt_of_le hi h.size) hn).trans (h.block i hi hn)⟩
theorem Kept.blk {w w':World} {bad:Nat→Prop} {b:Nat} {cs:List Value} {t:TypeId} (h:Kept w w' bad) (hb:Blk w b cs t) (hn:¬ bad b):Blk w' b cs t:=Blk.of_block hb (h.block b hb.lt hn)
theorem Kept.below {w w':World} {B:Nat} {bad:Nat→Prop} (h:Kept w w' bad) (hb:B≤w.heap.size) (hn:∀ k,bad k→B≤k):Below B w w':=
  ⟨h.os,h.tape,h.output,h.size,fun k hk=>h.block k (Nat.lt_of_lt_of_le hk hb) (fun e=>by have:=hn k e;omega)⟩
def AddOut (w:World) (bo B:Nat) (v:Value) (out:List Int) (e:Ending) (w':World):Prop:=
  e = .returned (.tuple #[])∧∃ v':Value,Blk w' bo [v'] 97∧OwnR w' B v' out∧v'.ownBlock≠some bo∧(v'.ownBlock=v.ownBlock∨∃ k,v'.ownBlock=some k∧w.heap.size≤k)∧Kept w w' (fun k=>k=bo∨v.ownBlock=some k)
theorem infoI32:(Tryz.prog.info? 21).map (fun i=>(i.zero,i.size,i.bytes))=some (some (.int .i32 0),1,4):=by kernel_rfl
theorem orbit_add_old (x:Int) (bo g cap:Nat) (out:List Int) (w:World) (B:Nat) (hb:Blk w bo [.slice (some ⟨g,0,none⟩) out.length cap] 97) (ho:OwnR w B (.slice (some ⟨g,0,none⟩) out.length cap) out) (hne:g≠bo) (hl:out.length≤1000) (hx:out.contains x=true) :
    Calls Tryz.prog 71 #[.int .i32 x,.pointer (some ⟨bo,0,none⟩)] w (AddOut w bo B (.slice (some ⟨g,0,none⟩) out.length cap) out):=by
  have HO:=hid ho;have HB:=hid hb
  have c0:=Blk.cell hb (j:=0) rfl
  have HC:=hid (runes_Contains out g 0 cap x w (fun k hk=>by rw [Nat.zero_add,ho.cellAt k (by omega),vR_get out k hk]) (by omega))
  clear hb ho
  go_enter Tryz.func71, Tryz.ntmps71
  go_wp2_with fail
  refine (HC.out).mono ?_
  rintro e w1 ⟨rfl,rfl⟩
  rw [hx]
  go_wp2_with fail
  go_end0
  exact ⟨rfl,_,HB.out,HO.out,by show (some g)≠some bo;exact ne_some hne,.inl rfl,Kept.refl _ _⟩
theorem orbit_add_new (x:Int) (bo g cap:Nat) (out:List Int) (w:World) (B:Nat) (hb:Blk w bo [.slice (some ⟨g,0,none⟩) out.length cap] 97) (ho:OwnR w B (.slice (some ⟨g,0,none⟩) out.length cap) out) (hne:g≠bo) (hl:out.length≤1000) (hx:out.contains x=false) :
    Calls Tryz.prog 71 #[.int .i32 x,.pointer (some ⟨bo,0,none⟩)] w (AddOut w bo B (.slice (some ⟨g,0,none⟩) out.length cap) (out ++ [x])):=by
  obtain ⟨i0,hi,hz0,hz1,hz2⟩:=info_parts infoI32
  have HO:=hid ho;have HB:=hid hb
  have c0:=Blk.cell hb (j:=0) rfl
  have f0:=hb.frozen 0
  have hlt:=hb.lt
  have HC:=hid (runes_Contains out g 0 cap x w (fun k hk=>by rw [Nat.zero_add,ho.cellAt k (by omega),vR_get out k hk]) (by omega))
  have hBg:=ho.lt g rfl
  clear hb ho
  go_enter Tryz.func71, Tryz.ntmps71
  go_wp2_with fail
  refine (HC.out).mono ?_
  rintro e w1 ⟨rfl,rfl⟩
  rw [hx]
  go_wp2_with (at_builtin;refine wpList_append_own_at _ rfl _ _ 97 rfl B 21 i0 (.int .i32 0) 1 4 Tryz.underlying97 hi hz0 hz1 hz2 rfl (by decide) (.slice (some ⟨g,0,none⟩) out.length cap) out.length (vR out) rfl (HO.out.alloc (.cells #[.int .i32 x] 21)) ⟨w1.heap.size,0,none⟩ 1 1 [.int .i32 x] rfl rfl (cell_one_new _ _ _) (by intro u hu;rw [List.mem_singleton] at hu;subst hu;rfl) (by unfold maxLen;omega) (by omega) (by simp;omega) ?_;intro v' w2 hown hgrow hiff)
  intro hat
  clear hiff
  obtain ⟨g2,cap2,rfl,hgb,hgl⟩:=World.ownsRow.form hown (Nat.succ_pos out.length)
  have B2:=hid ((HB.out.alloc (.cells #[.int .i32 x] 21)).grown hgrow (fun e=>hne (Option.some.inj e).symm))
  have c2:=Blk.cell B2.out (j:=0) rfl
  have f2:=B2.out.frozen 0
  have HW:=hid hown
  have HG:=hid hgrow
  have HA:=hid hat
  clear hown hgrow hat c0 f0
  go_wp2_with fail
  go_end0
  have hz2:=HG.out.size
  have hg2:g2≠bo:=by
    rcases HA.out with h | h
    · simp [Value.ownBlock] at h;omega
    · simp [Value.ownBlock] at h;omega
  refine ⟨rfl,.slice (some ⟨g2,0,none⟩) (out.length+1) cap2,B2.out.set 0 _,?_,?_,?_,?_⟩
  · unfold OwnR
    have:=ownsRow_setCell_other (a:=⟨bo,0,none⟩) HW.out (by simpa [Value.ownBlock] using hg2) (.slice (some ⟨g2,0,none⟩) (out.length+1) cap2)
    simpa [vR] using this
  · simpa [Value.ownBlock] using hg2
  · rcases HA.out with h | h
    · exact .inl h
    · exact .inr ⟨_,h,by omega⟩
  · have k1:Kept w1 (w1.alloc (.cells #[.int .i32 x] 21)) (fun k=>k=bo∨(Value.slice (some ⟨g,0,none⟩) out.length cap).ownBlock=some k):=Kept.of_grown (grownBy_alloc w1 _ none) (by simp)
    exact (k1.trans (Kept.of_grown HG.out fun k h=>.inr h)).trans (Kept.of_grown (grownBy_setCell w2 bo 0 _) fun k h=>.inl (Option.some.inj h).symm)
theorem orbit_add (x:Int) (bo:Nat) (v:Value) (out:List Int) (w:World) (B:Nat) (hb:Blk w bo [v] 97) (ho:OwnR w B v out) (hne:v.ownBlock≠some bo) (h0:0 < out.length) (hl:out.length≤1000) :
    Calls Tryz.prog 71 #[.int .i32 x,.pointer (some ⟨bo,0,none⟩)] w (AddOut w bo B v (addU out x)):=by
  obtain ⟨g,cap,rfl,_,_⟩:=World.ownsRow.form ho h0
  have hg:g≠bo:=fun e=>hne (by rw [e];rfl)
  unfold addU
  cases hx:out.contains x with
  | true=>rw [if_pos rfl];exact orbit_add_old x bo g cap out w B hb ho hg hl hx
  | false=>rw [if_neg (by simp)];exact orbit_add_new x bo g cap out w B hb ho hg hl hx
end Go.Proofs.YtnhnldmldnhaoaaGreatDoor
