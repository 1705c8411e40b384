/- Where the reader stands; what is wrong lies within the text: the scanners. -/
import Derived.Test.YtnhnldmldnhaoaaGreatDoorSEscGo
import Derived.Lib.IndexMore
import Derived.Test.YtnhnldmldnhaoaaGreatDoorSSyAtom
namespace Go.Proofs.YtnhnldmldnhaoaaGreatDoor
open Go Go.RowKit Go.Proofs Go.Shelf
def Within (s:ByteArray) (e f t:Int):Prop:=e≠0∧0≤f∧f≤t∧t≤s.size
def Behind (s:ByteArray) (p q:Nat):Prop:=p < q∧q≤s.size∧Bd s q
theorem toList_len (s:ByteArray):s.data.toList.length=s.size:=by simp
theorem hexs_low:∀ c:UInt8,hexs.contains c=true→c.toNat < 128:=by
  have h:∀ c ∈ hexs,c.toNat < 128:=by decide
  intro c hc
  exact h c (by simpa using hc)
theorem stands_lt' {s:ByteArray} {p:Nat} {c:UInt8} {t:List UInt8} (h:stands s p (c :: t)=true):p < s.size:=by
  have h1:=stands_at h 0 c rfl
  have h2:=(List.getElem?_eq_some_iff.1 h1).1
  rw [toList_len] at h2
  omega
theorem Bd.at {s:ByteArray} {p q:Nat} {x:List UInt8} (h:Bd s p) (hpq:p≤q) (hs:stands s q x=true) (k:Nat) (c:UInt8) (hk:x[k]? = some c) (h128:c.toNat < 128):Bd s (q+k+1)∧q+k < s.size:=by
  have h1:=stands_at hs k c hk
  have h2:=(List.getElem?_eq_some_iff.1 h1).1
  rw [toList_len] at h2
  exact ⟨h.behind (by omega) h1 h128,by omega⟩
theorem codeP_fit {s:ByteArray} {q:Nat} {n:Int} {r:Nat} (hq:q≤s.size) (hb:Bd s q) (h:codeP s q=some (n,r)):Behind s q r:=by
  have hr:=codeP_q hq h
  refine ⟨hr.1,hr.2,?_⟩
  unfold codeP at h
  by_cases c1:stands s q [123]=true
  · rw [if_pos c1] at h
    by_cases h2:(bracedN s q).2.1=true
    · rw [if_pos h2] at h
      simp only [Option.some.injEq,Prod.mk.injEq] at h
      obtain ⟨_,rfl⟩:=h
      unfold bracedN at h2 ⊢
      simp only [Bool.and_eq_true] at h2
      simp only [Bool.and_eq_true]
      rw [if_pos h2.1]
      exact (hb.at (by omega) h2.1.2 0 125 rfl (by decide)).1
    · rw [if_neg h2] at h;cases h
  · rw [if_neg c1] at h
    by_cases h3:q+1 < s.size
    · rw [drop_two s q h3] at h
      simp only at h
      split at h
      · rename_i hx
        cases h
        have e0:s.data.toList[q]? = some s[q]:=byte_at (by omega)
        have e1:s.data.toList[q+1]? = some s[q+1]:=byte_at (by omega)
        exact (hb.one e0 (hexs_low _ hx.1)).one e1 (hexs_low _ hx.2)
      · cases h
    · split at h
      · rename_i heq;exact absurd heq (drop_short s q (by omega) _ _ _)
      · cases h
theorem propP_fit {s:ByteArray} {q:Nat} {nm:ByteArray} {r:Nat} (hq:q≤s.size) (hb:Bd s q) (h:propP s q=some (nm,r)):Behind s q r:=by
  have hr:=propP_q hq h
  refine ⟨hr.1,hr.2,?_⟩
  unfold propP at h
  by_cases c1:stands s q [123]=true
  · rw [if_pos c1] at h
    by_cases h2:0≤Lib.indexByte (s.data.toList.drop (q+1)) 125
    · rw [if_pos h2] at h
      simp only [Option.some.injEq,Prod.mk.injEq] at h
      obtain ⟨_,rfl⟩:=h
      obtain ⟨o,ho⟩:∃ o:Nat,Lib.indexByte (s.data.toList.drop (q+1)) 125=o:=⟨(Lib.indexByte (s.data.toList.drop (q+1)) 125).toNat,by omega⟩
      rw [ho]
      obtain ⟨h1,_⟩:=Lib.indexByte_some ho
      rw [List.getElem?_drop] at h1
      simp only [Int.toNat_natCast]
      exact hb.behind (by omega) h1 (by decide)
    · rw [if_neg h2] at h;cases h
  · rw [if_neg c1] at h
    by_cases h3:q < s.size
    · rw [if_pos h3] at h
      simp only [Option.some.injEq,Prod.mk.injEq] at h
      obtain ⟨_,rfl⟩:=h
      exact hb.next
    · rw [if_neg h3] at h;cases h
def EscFit (s:ByteArray) (p:Nat):EscR→Prop
  | .wrong e f t=>Within s e f t
  | .lit k _ _ q=>(k=1∨k=3∨k=4)∧∃ Q:Nat,q=Q∧Behind s p Q
  | .set _ q=>∃ Q:Nat,q=Q∧Behind s p Q
theorem within_mk {s:ByteArray} {p q:Nat} (e:Int) (he:e≠0) (hpq:p≤q) (hq:q≤s.size):Within s e p q:=⟨he,by omega,by omega,by omega⟩
theorem escP_fit (s:ByteArray) (p:Nat) (perl:Bool) (hb:Bd s p) (hs:stands s p [92]=true):EscFit s p (escP s p perl):=by
  have hp:=stands_lt' hs
  have hb1:Bd s (p+1):=hb.sign (Nat.le_refl _) hs (by decide)
  unfold escP
  rw [if_neg (by simp [hs])]
  split
  · exact ⟨by decide,by omega,by omega,by omega⟩
  rename_i h1
  have hg:=nextW_gt s (p+1) (by omega)
  have hl:=nextW_le s (p+1) (by omega)
  have hb2:=hb1.next
  have ok:∃ Q:Nat,((nextW s (p+1):Nat):Int)=Q∧Behind s p Q:=⟨_,rfl,by omega,hl,hb2⟩
  split
  · exact ⟨.inl rfl,ok⟩
  split
  · exact ⟨.inl rfl,ok⟩
  split
  · unfold escX
    cases hc:codeP s (nextW s (p+1)) with
    | none=>exact within_mk 61 (by decide) (by omega) hl
    | some x=>
      have:=codeP_fit hl hb2 hc
      exact ⟨.inl rfl,_,rfl,by have:=this.1;omega,this.2⟩
  split
  · unfold escPr
    cases hc:propP s (nextW s (p+1)) with
    | none=>exact within_mk 61 (by decide) (by omega) hl
    | some x=>
      have:=propP_fit hl hb2 hc
      simp only
      split
      · exact within_mk 63 (by decide) (by have:=this.1;omega) this.2.1
      · exact ⟨_,rfl,by have:=this.1;omega,this.2⟩
  split
  · exact within_mk 61 (by decide) (by omega) hl
  unfold escPl
  split
  · exact ⟨.inr (.inl rfl),ok⟩
  split
  · exact ⟨.inr (.inr rfl),ok⟩
  split
  · exact within_mk 61 (by decide) (by omega) hl
  · exact ok
theorem oneP_fit (s:ByteArray) (p:Nat) (perl:Bool) (hb:Bd s p) (hp:p < s.size):EscFit s p (oneP s p perl):=by
  unfold oneP
  split
  · rename_i h;exact escP_fit s p perl hb h
  · exact ⟨.inl rfl,_,rfl,nextW_gt s p hp,nextW_le s p (by omega),hb.next⟩
def ItemFit (s:ByteArray) (p:Nat):ItemR→Prop
  | .wrong e f t=>Within s e f t
  | .ok _ q=>Behind s p q
theorem namedP_fit {s:ByteArray} {p k:Nat} (hp:p≤s.size) (hb:Bd s p) (h:namedP s p=some k):Behind s p (k+2):=by
  have hq:=namedP_q hp h
  refine ⟨by omega,hq.2,?_⟩
  unfold namedP at h
  by_cases c1:stands s p [91,58]=true
  · rw [if_pos c1] at h
    by_cases c2:stands s (p+2+(runP s (p+2) nmL).length) [58,93]=true
    · rw [if_pos c2] at h
      cases h
      exact (hb.at (by omega) c2 1 93 rfl (by decide)).1
    · rw [if_neg c2] at h;cases h
  · rw [if_neg c1] at h;cases h
theorem itemP_fit (s:ByteArray) (p:Nat) (perl:Bool) (fr:Int) (hp:p≤s.size) (hb:Bd s p) (h0:0≤fr) (h1:fr≤s.size):ItemFit s p (itemP s p perl fr):=by
  unfold itemP
  cases hn:namedP s p with
  | some k=>
    have hk:=namedP_fit hp hb hn
    simp only
    split
    · exact within_mk 72 (by decide) (by have:=hk.1;omega) hk.2.1
    · exact hk
  | none=>
    simp only
    split
    · exact ⟨by decide,h0,h1,Int.le_refl _⟩
    rename_i hlt
    have hf:=oneP_fit s p perl hb (by omega)
    cases ho:oneP s p perl with
    | wrong e f t=>rw [ho] at hf;exact hf
    | set f' q'=>
      rw [ho] at hf
      obtain ⟨Q,rfl,h2⟩:=hf
      exact h2
    | lit k r a q'=>
      rw [ho] at hf
      obtain ⟨_,Q,rfl,h2⟩:=hf
      simp only [Int.toNat_natCast]
      split
      · exact within_mk 72 (by decide) (by have:=h2.1;omega) h2.2.1
      split
      · rename_i hr
        unfold rangedP at hr
        simp only [Bool.and_eq_true,decide_eq_true_eq] at hr
        have hb2:=Bd.sign h2.2.2 (Nat.le_refl _) hr.1.1 (by decide)
        have hf2:=oneP_fit s (Q+1) perl hb2 hr.1.2
        cases ho2:oneP s (Q+1) perl with
        | wrong e f t=>rw [ho2] at hf2;exact hf2
        | set f' q'=>
          rw [ho2] at hf2
          obtain ⟨Q2,rfl,h3⟩:=hf2
          exact within_mk 72 (by decide) (by have:=h2.1;have:=h3.1;omega) h3.2.1
        | lit k r a q'=>
          rw [ho2] at hf2
          obtain ⟨_,Q2,rfl,h3⟩:=hf2
          simp only [Int.toNat_natCast]
          split
          · exact within_mk 72 (by decide) (by have:=h2.1;have:=h3.1;omega) h3.2.1
          · exact ⟨by have:=h2.1;have:=h3.1;omega,h3.2⟩
      · exact h2
theorem restP_fit (s:ByteArray) (perl:Bool) (fr:Int) (h0:0≤fr) (h1:fr≤s.size):∀ (n p:Nat) (g:Int→Bool),p≤s.size→Bd s p→s.size+1 - p≤n→ItemFit s p (restP s perl fr n p g)
  | 0,p,_,hp,_,hn=>by omega
  | n+1,p,g,hp,hb,hn=>by
    unfold restP
    split
    · rename_i hs
      have h2:=stands_lt' hs
      exact ⟨by omega,by omega,hb.sign (Nat.le_refl _) hs (by decide)⟩
    · have hi:=itemP_fit s p perl fr hp hb h0 h1
      cases hx:itemP s p perl fr with
      | wrong e f t=>rw [hx] at hi;exact hi
      | ok f q=>
        rw [hx] at hi
        have hr:=restP_fit s perl fr h0 h1 n q (fun c=>g c || f c) hi.2.1 hi.2.2 (by have:=hi.1;omega)
        simp only
        cases hy:restP s perl fr n q (fun c=>g c || f c) with
        | wrong e f t=>rw [hy] at hr;exact hr
        | ok f q2=>rw [hy] at hr;exact ⟨by have:=hi.1;have:=hr.1;omega,hr.2⟩
theorem clsQ_fit (s:ByteArray) (p:Nat) (perl:Bool) (F:Option ((Int→Bool)→Int→Bool)) (hp:p≤s.size) (hb:Bd s p):ItemFit s p (clsQ s p perl F):=by
  have key:ItemFit s p (clsP s p perl):=by
    unfold clsP
    by_cases hn:stands s p [91]=true
    · rw [if_neg (by simpa using hn)]
      have hb1:=hb.sign (Nat.le_refl _) hn (by decide)
      have hl:=stands_lt' hn
      have hc:p < clsAt s p∧clsAt s p≤s.size∧Bd s (clsAt s p):=by
        unfold clsAt
        split
        · rename_i h
          have:=stands_lt' h
          exact ⟨by omega,by omega,hb1.sign (Nat.le_refl _) h (by decide)⟩
        · exact ⟨by omega,by omega,hb1⟩
      have hi:=itemP_fit s (clsAt s p) perl p hc.2.1 hc.2.2 (by omega) (by omega)
      cases hx:itemP s (clsAt s p) perl p with
      | wrong e f t=>rw [hx] at hi;exact hi
      | ok f q=>
        rw [hx] at hi
        have hr:=restP_fit s perl p (by omega) (by omega) (s.size+1) q f hi.2.1 hi.2.2 (by omega)
        simp only
        cases hy:restP s perl p (s.size+1) q f with
        | wrong e f t=>rw [hy] at hr;exact hr
        | ok f q2=>rw [hy] at hr;exact ⟨by have:=hc.1;have:=hi.1;have:=hr.1;omega,hr.2⟩
    · rw [if_pos hn]
      exact within_mk 1 (by decide) (Nat.le_refl _) hp
  unfold clsQ
  cases hc:clsP s p perl with
  | wrong e f t=>rw [hc] at key;exact key
  | ok g q=>rw [hc] at key;exact key
def FlagsFit (s:ByteArray) (p:Nat):Except Nat (Int × Bool × Nat)→Prop
  | .error q=>p≤q∧q≤s.size
  | .ok (_,_,q)=>Behind s p q
theorem small_byte {s:ByteArray} {p:Nat} {c:Int} (h:nextC s p=c) (h0:0≤c) (h1:c < 128):p < s.size∧nextW s p=p+1∧(Bd s p→Bd s (p+1)):=by
  obtain ⟨hl,h2,h3,h4⟩:=nextC_small s p (by omega) (by omega)
  refine ⟨hl,h3,fun hb=>hb.one (c:=s[p]) (byte_at hl) h4⟩
theorem flagsRun_fit (s:ByteArray):∀ (k p:Nat) (f:Int) (off any:Bool),p≤s.size→Bd s p→FlagsFit s p (flagsRun s k p f off any)
  | 0,p,f,off,any,hp,hb=>⟨hp,Nat.le_refl _⟩
  | k+1,p,f,off,any,hp,hb=>by
    have more:∀ (f:Int) (off any:Bool),p < s.size→Bd s (p+1)→FlagsFit s p (flagsRun s k (p+1) f off any):=by
      intro f off any hl hb1
      have h:=flagsRun_fit s k (p+1) f off any (by omega) hb1
      cases hx:flagsRun s k (p+1) f off any with
      | error q=>rw [hx] at h;exact ⟨by have:=h.1;omega,h.2⟩
      | ok x=>rw [hx] at h;exact ⟨by have:=h.1;omega,h.2⟩
    unfold flagsRun
    split
    · rename_i hf
      have hs:=flagOf_small hf
      have hy:=small_byte (s:=s) (p:=p) rfl hs.1 hs.2
      split
      · exact more _ _ _ hy.1 (hy.2.2 hb)
      · exact more _ _ _ hy.1 (hy.2.2 hb)
    · split
      · rename_i h
        have hy:=small_byte h.1 (by decide) (by decide)
        exact more _ _ _ hy.1 (hy.2.2 hb)
      · split
        · rename_i h
          rcases h.1 with h | h
          · have hy:=small_byte h (by decide) (by decide)
            exact ⟨by omega,by omega,hy.2.2 hb⟩
          · have hy:=small_byte h (by decide) (by decide)
            exact ⟨by omega,by omega,hy.2.2 hb⟩
        · refine ⟨?_,nextW_le s p hp⟩
          by_cases hl:p < s.size
          · exact Nat.le_of_lt (nextW_gt s p hl)
          · rw [(nextC_end s p (by omega)).2];exact Nat.le_refl _
theorem nextW_ge (s:ByteArray) (p:Nat):p≤nextW s p:=by
  by_cases hl:p < s.size
  · exact Nat.le_of_lt (nextW_gt s p hl)
  · rw [(nextC_end s p (by omega)).2];exact Nat.le_refl _
theorem flagsP_fit (s:ByteArray) (p:Nat) (f:Int) (hp:p≤s.size) (hb:Bd s p):FlagsFit s p (flagsP s p f):=by
  unfold flagsP
  split
  · exact ⟨nextW_ge s p,nextW_le s p hp⟩
  rename_i h1
  have hy:=small_byte (by simpa using h1) (by decide) (by decide)
  split
  · exact ⟨by have:=nextW_ge s (p+1);omega,nextW_le s (p+1) (by omega)⟩
  rename_i h2
  have hz:=small_byte (by simpa using h2) (by decide) (by decide)
  have h:=flagsRun_fit s (s.size+1 - (p+2)) (p+2) f false false (by omega) (hz.2.2 (hy.2.2 hb))
  cases hx:flagsRun s (s.size+1 - (p+2)) (p+2) f false false with
  | error q=>rw [hx] at h;exact ⟨by have:=h.1;omega,h.2⟩
  | ok x=>rw [hx] at h;exact ⟨by have:=h.1;omega,h.2⟩
def NameFit (s:ByteArray) (p:Nat):Except Nat (ByteArray × Nat)→Prop
  | .error q=>p≤q∧q≤s.size
  | .ok (_,q)=>Behind s p q
theorem nameP_fit (s:ByteArray) (p:Nat) (hp:p≤s.size) (hb:Bd s p):NameFit s p (nameP s p):=by
  have he:p≤endP s p∧endP s p≤s.size:=by
    unfold endP
    split
    · rename_i h
      obtain ⟨o,ho⟩:∃ o:Nat,Lib.indexByte (s.data.toList.drop p) 62=o:=⟨(Lib.indexByte (s.data.toList.drop p) 62).toNat,by omega⟩
      obtain ⟨h1,_⟩:=Lib.indexByte_some ho
      have h2:=(List.getElem?_eq_some_iff.1 h1).1
      rw [List.length_drop,toList_len] at h2
      rw [ho];simp only [Int.toNat_natCast];omega
    · exact ⟨hp,Nat.le_refl _⟩
  unfold nameP
  cases hf:fromP s p with
  | none=>exact he
  | some q=>
    simp only
    have hq:p < q:=by
      unfold fromP at hf
      split at hf
      · cases hf;omega
      · split at hf
        · cases hf;omega
        · cases hf
    split
    · rename_i h
      obtain ⟨o,ho⟩:∃ o:Nat,Lib.indexByte (s.data.toList.drop q) 62=o:=⟨(Lib.indexByte (s.data.toList.drop q) 62).toNat,by omega⟩
      obtain ⟨h1,_⟩:=Lib.indexByte_some ho
      rw [List.getElem?_drop] at h1
      have h2:=(List.getElem?_eq_some_iff.1 h1).1
      rw [toList_len] at h2
      rw [ho];simp only [Int.toNat_natCast]
      exact ⟨by omega,by omega,hb.behind (by omega) h1 (by decide)⟩
    · exact he
theorem countP_fit {s:ByteArray} {p:Nat} {a b:Int} {q:Nat} (_:p≤s.size) (hb:Bd s p) (h:countP s p=some (a,b,q)):Behind s p q:=by
  unfold countP at h
  split at h
  case isFalse=>cases h
  split at h
  · cases h
  split at h
  · rename_i c
    cases h
    have:=hb.at (by omega) c 0 125 rfl (by decide)
    exact ⟨by omega,by omega,this.1⟩
  split at h
  · rename_i c
    cases h
    have:=hb.at (by omega) c 1 125 rfl (by decide)
    exact ⟨by omega,by omega,this.1⟩
  split at h
  · split at h
    · cases h
    split at h
    · rename_i c
      cases h
      have:=hb.at (by omega) c 0 125 rfl (by decide)
      exact ⟨by omega,by omega,this.1⟩
    · cases h
  · cases h
theorem signP_some {s:ByteArray} {p:Nat} {x:Int × Int × Int} {q:Nat} (hp:p≤s.size) (hb:Bd s p) (h:signP s p=(some x,q)):Behind s p q:=by
  unfold signP at h
  split at h
  · rename_i c
    cases h
    have:=hb.at (Nat.le_refl _) c 0 42 rfl (by decide)
    exact ⟨by omega,by omega,this.1⟩
  split at h
  · rename_i c
    cases h
    have:=hb.at (Nat.le_refl _) c 0 43 rfl (by decide)
    exact ⟨by omega,by omega,this.1⟩
  split at h
  · rename_i c
    cases h
    have:=hb.at (Nat.le_refl _) c 0 63 rfl (by decide)
    exact ⟨by omega,by omega,this.1⟩
  split at h
  · rename_i a b q' hc
    cases h
    exact countP_fit hp hb hc
  · cases h
theorem behindLazy_fit {s:ByteArray} {p:Nat} {f:Int} (hp:p≤s.size) (hb:Bd s p):p≤behindLazy s p f∧behindLazy s p f≤s.size∧Bd s (behindLazy s p f):=by
  unfold behindLazy
  split
  · rename_i h
    unfold lazyAt at h
    simp only [Bool.and_eq_true] at h
    have:=hb.at (Nat.le_refl _) h.2 0 63 rfl (by decide)
    exact ⟨by omega,by omega,this.1⟩
  · exact ⟨Nat.le_refl _,hp,hb⟩
def RepFit (s:ByteArray) (p:Nat):Except (Int × Int × Int) (Bool × Nat)→Prop
  | .error (e,f,t)=>Within s e f t
  | .ok (_,q)=>p≤q∧q≤s.size∧Bd s q
theorem repeatP_fit (s:ByteArray) (fr p:Nat) (f op mn mx:Int) (hfr:fr≤p) (hp:p≤s.size) (hb:Bd s p):RepFit s p (repeatP s fr p f op mn mx):=by
  unfold repeatP
  split
  · exact within_mk 85 (by decide) hfr hp
  have h1:=behindLazy_fit (f:=f) hp hb
  cases hs:signP s (behindLazy s p f) with
  | mk o q=>
    cases o with
    | none=>exact h1
    | some x=>
      obtain ⟨o2,a2,b2⟩:=x
      have h2:=signP_some h1.2.1 h1.2.2 hs
      simp only
      split
      · exact within_mk 85 (by decide) (Nat.le_of_lt h2.1) h2.2.1
      · have h3:=behindLazy_fit (f:=f) h2.2.1 h2.2.2
        exact within_mk 83 (by decide) (by have:=h1.1;have:=h2.1;have:=h3.1;omega) h3.2.1
theorem quoteP_fit (s:ByteArray) (p:Nat) (hp:p≤s.size) (hb:Bd s p):p≤(quoteP s p).2∧(quoteP s p).2≤s.size∧Bd s (quoteP s p).2:=by
  unfold quoteP
  split
  · rename_i h
    rcases Lib.index_spec (s.data.toList.drop p) [92,69] with ⟨h1,_⟩ | ⟨i,h1,h2,h3,_⟩
    · omega
    · rw [h1]
      simp only [Int.toNat_natCast]
      have hst:stands s (p+i) [92,69]=true:=by
        unfold Lib.occAt at h3
        rw [List.drop_drop] at h3
        exact h3
      have:=hb.at (by omega) hst 1 69 rfl (by decide)
      exact ⟨by omega,by omega,this.1⟩
  · exact ⟨hp,Nat.le_refl _,Bd.end_ s⟩
end Go.Proofs.YtnhnldmldnhaoaaGreatDoor
namespace Go.Proofs.YtnhnldmldnhaoaaGreatDoor
open Go Go.RowKit Go.Proofs Go.Shelf
def Fit (s:ByteArray) (p:Nat) {α:Type}:PR α→Prop
  | .out=>False
  | .wrong e f t=>Within s e f t
  | .ok _ st=>p≤st.p∧st.p≤s.size∧Bd s st.p
def FitS (s:ByteArray) (p:Nat) {α:Type}:PR α→Prop
  | .out=>False
  | .wrong e f t=>Within s e f t
  | .ok _ st=>p < st.p∧st.p≤s.size∧Bd s st.p
theorem FitS.le {s:ByteArray} {p:Nat} {α:Type} {r:PR α} (h:FitS s p r):Fit s p r:=by
  cases r with
  | out=>exact h
  | wrong e f t=>exact h
  | ok a st=>exact ⟨Nat.le_of_lt h.1,h.2⟩
theorem Fit.lower {s:ByteArray} {p p':Nat} {α:Type} {r:PR α} (h:Fit s p r) (hp:p'≤p):Fit s p' r:=by
  cases r with
  | out=>exact h
  | wrong e f t=>exact h
  | ok a st=>exact ⟨Nat.le_trans hp h.1,h.2⟩
theorem escapeP_fit (s:ByteArray) (st:St) (hb:Bd s st.p) (hs:stands s st.p [92]=true):FitS s st.p (escapeP s st):=by
  have h:=escP_fit s st.p (onB st.f 32) hb hs
  unfold escapeP
  cases hx:escP s st.p (onB st.f 32) with
  | wrong e f t=>rw [hx] at h;exact h
  | set g q=>
    rw [hx] at h
    obtain ⟨Q,rfl,h⟩:=h
    exact h
  | lit k r a q=>
    rw [hx] at h
    obtain ⟨_,Q,rfl,h⟩:=h
    simp only [Int.toNat_natCast]
    split
    · exact h
    split
    · exact h
    · have hq:=quoteP_fit s Q h.2.1 h.2.2
      exact ⟨by have:=h.1;have:=hq.1;show st.p < (quoteP s Q).2;omega,hq.2⟩
structure SynFit (s:ByteArray) (n:Nat):Prop where
  parts:∀ st:St,st.p≤s.size→Bd s st.p→8 * (s.size - st.p)+4≤n→Fit s st.p (partsP s n st)
  alt:∀ (st:St) (l:List T),st.p≤s.size→Bd s st.p→8 * (s.size - st.p)+1≤n→Fit s st.p (altP s n st l)
  part:∀ (st:St) (l:List T),st.p≤s.size→Bd s st.p→8 * (s.size - st.p)+3≤n→Fit s st.p (partP s n st l)
  atoms:∀ st:St,st.p < s.size→Bd s st.p→8 * (s.size - st.p)+2≤n→FitS s st.p (atomsP s n st)
  open_ : ∀ st : St, st.p < s.size → Bd s st.p → nextC s st.p = 40 → 8 * (s.size - st.p) + 1 ≤ n → FitS s st.p (openP s n st)
  group:∀ (st:St) (nm:ByteArray),st.p≤s.size→Bd s st.p→8 * (s.size - st.p)+6≤n→Fit s st.p (groupP s n st nm)
  close:∀ st:St,st.p≤s.size→Bd s st.p→8 * (s.size - st.p)+5≤n→Fit s st.p (closeP s n st)
theorem stands_of_nextC {s:ByteArray} {p:Nat} {c:UInt8} (h:nextC s p=(c.toNat:Int)) (h128:c.toNat < 128):stands s p [c]=true:=by
  obtain ⟨hl,h2,h3,h4⟩:=nextC_small s p (by omega) (by omega)
  refine (stands_one s p c).2 ⟨hl,?_⟩
  exact UInt8.toNat_inj.1 (by omega)
theorem syn_fit (s:ByteArray):∀ n,SynFit s n
  | 0=>⟨fun _ _ _ h=>by omega,fun _ _ _ _ h=>by omega,fun _ _ _ _ h=>by omega,fun _ _ _ h=>by omega,fun _ _ _ _ h=>by omega,fun _ _ _ _ h=>by omega,fun _ _ _ h=>by omega⟩
  | n+1=>by
    have ih:=syn_fit s n
    refine ⟨?_,?_,?_,?_,?_,?_,?_⟩
    · intro st hp hb hn
      unfold partsP
      have h:=ih.part st [] hp hb (by omega)
      cases hx:partP s n st [] with
      | out=>rw [hx] at h;exact h
      | wrong e f t=>rw [hx] at h;exact h
      | ok t st'=>
        rw [hx] at h
        exact (ih.alt st' [t] h.2.1 h.2.2 (by have:=h.1;omega)).lower h.1
    · intro st l hp hb hn
      unfold altP
      split
      · rename_i hs
        have h1:=hb.at (Nat.le_refl _) hs 0 124 rfl (by decide)
        have h:=ih.part { st with p:=st.p+1 } [] (by have:=h1.2;show st.p+1≤s.size;omega) h1.1 (by have:=h1.2;show 8 * (s.size - (st.p+1))+3≤n;omega)
        cases hx:partP s n { st with p:=st.p+1 } [] with
        | out=>rw [hx] at h;exact h
        | wrong e f t=>rw [hx] at h;exact h
        | ok t st'=>
          rw [hx] at h
          have h3:st.p+1≤st'.p:=h.1
          exact (ih.alt st' (l ++ [t]) h.2.1 h.2.2 (by omega)).lower (by omega)
      · match l with
        | []=>exact ⟨Nat.le_refl _,hp,hb⟩
        | [t]=>exact ⟨Nat.le_refl _,hp,hb⟩
        | a :: b :: r=>exact ⟨Nat.le_refl _,hp,hb⟩
    · intro st l hp hb hn
      unfold partP
      split
      · exact ⟨Nat.le_refl _,hp,hb⟩
      rename_i hc
      have hlt:st.p < s.size:=by
        by_cases hlt:st.p < s.size
        · exact hlt
        · exact absurd (.inl (nextC_end s st.p (by omega)).1) hc
      cases hs:signP s st.p with
      | mk o q=>
        cases o with
        | none=>
          simp only
          have h:=ih.atoms st hlt hb (by omega)
          cases hx:atomsP s n st with
          | out=>rw [hx] at h;exact h
          | wrong e f t=>rw [hx] at h;exact h
          | ok ts st'=>
            rw [hx] at h
            have h3:st.p < st'.p:=h.1
            exact (ih.part st' (l ++ ts) h.2.1 h.2.2 (by omega)).lower (by omega)
        | some x=>
          obtain ⟨op,mn,mx⟩:=x
          have h1:=signP_some hp hb hs
          simp only
          cases hl:l.getLast? with
          | none=>exact within_mk 82 (by decide) (Nat.le_of_lt h1.1) h1.2.1
          | some k=>
            simp only
            have h2:=repeatP_fit s st.p q st.f op mn mx (Nat.le_of_lt h1.1) h1.2.1 h1.2.2
            cases hr:repeatP s st.p q st.f op mn mx with
            | error x=>obtain ⟨e,f,t⟩:=x;rw [hr] at h2;exact h2
            | ok x=>
              obtain ⟨lz,q'⟩:=x
              rw [hr] at h2
              have h3:q≤q':=h2.1
              have h4:=h1.1
              exact (ih.part { st with p:=q' } (l.dropLast ++ [repT op k mn mx lz]) h2.2.1 h2.2.2 (by show 8 * (s.size - q')+3≤n;omega)).lower (by show st.p≤q';omega)
    · intro st hp hb hn
      have next:FitS s st.p (PR.ok ([]:List T) { st with p:=nextW s st.p }):=⟨nextW_gt s st.p hp,nextW_le s st.p (by omega),hb.next⟩
      unfold atomsP
      split
      · rename_i hc;exact ih.open_ st hp hb hc (by omega)
      split
      · rename_i hc;exact escapeP_fit s st hb (stands_of_nextC (c:=92) hc (by decide))
      split
      · have h:=clsQ_fit s st.p (onB st.f 32) (if onB st.f 1 then some foldF else none) (by omega) hb
        cases hx:clsQ s st.p (onB st.f 32) (if onB st.f 1 then some foldF else none) with
        | wrong e f t=>rw [hx] at h;exact h
        | ok g q=>rw [hx] at h;exact h
      split
      · exact next
      split
      · exact next
      split
      · exact next
      · exact next
    · intro st hp hb hc hn
      have hy:=small_byte hc (by decide) (by decide)
      unfold openP
      split
      · split
        · have h:=nameP_fit s st.p (by omega) hb
          cases hx:nameP s st.p with
          | error q=>rw [hx] at h;exact within_mk 64 (by decide) h.1 h.2
          | ok x=>
            obtain ⟨nm,q⟩:=x
            rw [hx] at h
            simp only
            split
            · exact within_mk 64 (by decide) (Nat.le_of_lt h.1) h.2.1
            · have h1:=h.1
              have h2:=ih.group { st with p:=q } nm h.2.1 h.2.2 (by show 8 * (s.size - q)+6≤n;omega)
              cases hg:groupP s n { st with p:=q } nm with
              | out=>rw [hg] at h2;exact h2
              | wrong e f t=>rw [hg] at h2;exact h2
              | ok t st'=>rw [hg] at h2;exact ⟨Nat.lt_of_lt_of_le h1 h2.1,h2.2⟩
        · have h:=flagsP_fit s st.p st.f (by omega) hb
          cases hx:flagsP s st.p st.f with
          | error q=>rw [hx] at h;exact within_mk 65 (by decide) h.1 h.2
          | ok x=>
            obtain ⟨g,grp,q⟩:=x
            rw [hx] at h
            simp only
            split
            · have h1:=h.1
              have h2:=ih.close { st with p:=q,f:=g } h.2.1 h.2.2 (by show 8 * (s.size - q)+5≤n;omega)
              cases hg:closeP s n { st with p:=q,f:=g } with
              | out=>rw [hg] at h2;exact h2
              | wrong e f t=>rw [hg] at h2;exact h2
              | ok t st'=>rw [hg] at h2;exact ⟨Nat.lt_of_lt_of_le h1 h2.1,h2.2⟩
            · exact h
      · have h2:=ih.group { st with p:=st.p+1 } ⟨#[]⟩ (by show st.p+1≤s.size;omega) (hy.2.2 hb) (by show 8 * (s.size - (st.p+1))+6≤n;omega)
        cases hg:groupP s n { st with p:=st.p+1 } ⟨#[]⟩ with
        | out=>rw [hg] at h2;exact h2
        | wrong e f t=>rw [hg] at h2;exact h2
        | ok t st'=>
          rw [hg] at h2
          have h3:st.p+1≤st'.p:=h2.1
          exact ⟨by omega,h2.2⟩
    · intro st nm hp hb hn
      unfold groupP
      have h:=ih.close { st with ns:=st.ns ++ [nm] } hp hb (by show 8 * (s.size - st.p)+5≤n;omega)
      cases hx:closeP s n { st with ns:=st.ns ++ [nm] } with
      | out=>rw [hx] at h;exact h
      | wrong e f t=>rw [hx] at h;exact h
      | ok t st'=>rw [hx] at h;exact h
    · intro st hp hb hn
      unfold closeP
      have h:=ih.parts st hp hb (by omega)
      cases hx:partsP s n st with
      | out=>rw [hx] at h;exact h
      | wrong e f t=>rw [hx] at h;exact h
      | ok t st'=>
        rw [hx] at h
        simp only
        split
        · rename_i hs
          have h1:=Bd.at h.2.2 (Nat.le_refl _) hs 0 41 rfl (by decide)
          exact ⟨by have:=h.1;show st.p≤st'.p+1;omega,by show st'.p+1≤s.size;omega,h1.1⟩
        · exact ⟨by decide,by decide,by omega,Int.le_refl _⟩
end Go.Proofs.YtnhnldmldnhaoaaGreatDoor
namespace Go.Proofs.YtnhnldmldnhaoaaGreatDoor
open Go Go.RowKit Go.Proofs Go.Shelf
def Mx (w:World):Prop:=∃ m,w.cell? ⟨2,0,none⟩=some (.int .i64 m)
theorem Mx.lt {w:World} (h:Mx w):2 < w.heap.size:=by obtain ⟨m,h⟩:=h;exact cell_lt h
theorem Mx.of_block {w w':World} (h:Mx w) (hb:w'.heap[2]? = w.heap[2]?):Mx w':=by obtain ⟨m,h⟩:=h;exact ⟨m,(World.cell?_of_block (w:=w) hb).trans h⟩
theorem Mx.below {w w':World} (h:Mx w) (hB:Below w.heap.size w w'):Mx w':=h.of_block (hB.block _ h.lt)
def TabsM (w:World):Prop:=Tabs w∧Mx w
theorem TabsM.below {w w':World} (h:TabsM w) (hB:Below w.heap.size w w'):TabsM w':=⟨h.1.below hB,h.2.below hB⟩
structure Env (lo:Nat) (w:World):Prop where
  t:Tabs w
  a:0 < lo
  c:1 < lo
  le:lo≤w.heap.size
  m:Mx w
  d:2 < lo
structure SynIn (w:World) (b lo:Nat) (s:ByteArray) (st:St) (nv:Value):Prop where
  r:SyR w b s st.f st.p nv
  o:w.ownsRow lo 9 1 nv st.ns.length (st.ns.map Value.string)
  n:nv.ownBlock≠some b
  l:lo≤b
  e:Env lo w
  p:st.p≤s.size
  d:Bd s st.p
  m:st.ns.length≤st.p
def Mine (b:Nat) (nv:Value) (k:Nat):Prop:=k=b∨nv.ownBlock=some k
theorem SynIn.lt {w:World} {b lo:Nat} {s:ByteArray} {st:St} {nv:Value} (h:SynIn w b lo s st nv):∀ k,Mine b nv k→lo≤k∧k < w.heap.size:=by
  rintro k (rfl | hk)
  · exact ⟨h.l,h.r.lt⟩
  · exact h.o.lt k hk
theorem Env.grown {lo:Nat} {w w':World} {F:Nat→Prop} (h:Env lo w) (hg:GrownF F w w') (hF:∀ k,F k→lo≤k):Env lo w':=
  ⟨h.t.of_blocks (hg.block _ h.t.lt.1 fun hf=>by have:=hF _ hf;have:=h.a;omega) (hg.block _ h.t.lt.2 fun hf=>by have:=hF _ hf;have:=h.c;omega),h.a,h.c,Nat.le_trans h.le hg.size,h.m.of_block (hg.block _ h.m.lt fun hf=>by have:=hF _ hf;have:=h.d;omega),h.d⟩
structure Left (w w':World) (b lo:Nat) (s:ByteArray) (nv:Value) (st:St) (nv':Value):Prop where
  i:SynIn w' b lo s st nv'
  g:GrownF (Mine b nv) w w'
  v:∀ k,nv'.ownBlock=some k→nv.ownBlock=some k∨w.heap.size≤k
theorem Left.mine {w w':World} {b lo:Nat} {s:ByteArray} {nv nv':Value} {st:St} (h:Left w w' b lo s nv st nv'):∀ k,k < w.heap.size→Mine b nv' k→Mine b nv k:=by
  rintro k hk (rfl | h2)
  · exact .inl rfl
  · rcases h.v k h2 with h3 | h3
    · exact .inr h3
    · omega
theorem Left.trans {w w' w'':World} {b lo:Nat} {s:ByteArray} {nv nv' nv'':Value} {st st':St} (h:Left w w' b lo s nv st nv') (h':Left w' w'' b lo s nv' st' nv''):Left w w'' b lo s nv st' nv'':=
  ⟨h'.i,h.g.trans h'.g h.mine,fun k hk=>by
    rcases h'.v k hk with h3 | h3
    · exact h.v k h3
    · exact .inr (Nat.le_trans h.g.size h3)⟩
theorem SynIn.below {w w':World} {b lo:Nat} {s:ByteArray} {st:St} {nv:Value} (h:SynIn w b lo s st nv) (hB:Below w.heap.size w w'):Left w w' b lo s nv st nv:=
  ⟨⟨Blk.below h.r hB h.r.lt,ownsRow_kept h.o fun g hg=>hB.block g (h.o.lt g hg).2,h.n,h.l,h.e.grown (GrownF.of_below (F:=fun _=>False) hB) (fun _ hf=>hf.elim),h.p,h.d,h.m⟩,GrownF.of_below hB,fun _ hk=>.inl hk⟩
theorem SynIn.grown {w w':World} {b lo:Nat} {s:ByteArray} {st st':St} {nv:Value} (h:SynIn w b lo s st nv) (hr:SyR w' b s st'.f st'.p nv) (hG:w.grownBy w' (some b)) (hns:st'.ns=st.ns) (hp:st'.p≤s.size) (hd:Bd s st'.p) (hm:st'.ns.length≤st'.p):Left w w' b lo s nv st' nv:=by
  have hg:GrownF (Mine b nv) w w':=GrownF.of_grown hG (fun k e _=>by cases e;exact .inl rfl)
  refine ⟨⟨hr,?_,h.n,h.l,h.e.grown hg (fun k hk=>(h.lt k hk).1),hp,hd,hm⟩,hg,fun _ hk=>.inl hk⟩
  rw [hns]
  exact ownsRow_kept h.o fun g hg=>hG.block g (h.o.lt g hg).2 (fun e=>h.n (by rw [hg];exact e))
abbrev FreshN (w w':World) (nv:Value) (k:Nat):Prop:=Fresh w w' k∧nv.ownBlock≠some k
def TreeOut (w:World) (b lo:Nat) (s:ByteArray) (nv:Value) (r:PR T) (e:Ending) (w':World):Prop:=match r with
  | .out=>False
  | .wrong x a d=>e=synE x a d∧GrownF (Mine b nv) w w'
  | .ok t st=>∃ cs nv',e = .returned (.agg cs.toArray)∧TreeF w' (FreshN w w' nv') t cs∧Left w w' b lo s nv st nv'
def ListsOut (w:World) (b lo:Nat) (s:ByteArray) (nv:Value) (r:PR (List T)) (e:Ending) (w':World):Prop:=match r with
  | .out=>False
  | .wrong x a d=>e=synE x a d∧GrownF (Mine b nv) w w'
  | .ok ts st=>∃ v xs nv',e = .returned v∧RowF w' w.heap.size (fun k=>nv'.ownBlock=some k) ts v xs∧Left w w' b lo s nv st nv'
theorem ListOut.lists {w w':World} {b lo:Nat} {s:ByteArray} {nv nv':Value} {st:St} {ts:List T} {v:Value} {e:Ending} (he:e = .returned v) (h:ListOut w w' ts v) (hl:Left w w' b lo s nv st nv') (hn:nv'=nv) (hi:∀ k,nv.ownBlock=some k→k < w.heap.size):ListsOut w b lo s nv (.ok ts st) e w':=by
  subst hn
  obtain ⟨xs,h1,h2⟩:=h
  exact ⟨v,xs,nv',he,⟨h1,h2.turned (fun _ _=>rfl) (fun k hk=>⟨⟨hk.1.1,hk.1.2,fun e=>by have:=hi k e;have:=hk.1.1;omega⟩,hk.2⟩),fun k hk e=>by have:=hi k e;have:=(h1.lt k hk).1;omega⟩,hl⟩
theorem Left.new10 {w W:World} {b lo:Nat} {s:ByteArray} {nv nv':Value} {st:St} (h:Left w W b lo s nv st nv') {k:Nat} (hk:w.heap.size≤k) (hb:b < w.heap.size) (hl:lo≤w.heap.size) (hn:nv'.ownBlock≠some k) (v0 v1 v2 v3 v4 v5 v6 v7 v8 v9:Value):Left w (World.set10 W k v0 v1 v2 v3 v4 v5 v6 v7 v8 v9) b lo s nv st nv':=by
  have hg:=grownBy_set10 W k v0 v1 v2 v3 v4 v5 v6 v7 v8 v9
  have g:GrownF (fun x=>x=k) W (World.set10 W k v0 v1 v2 v3 v4 v5 v6 v7 v8 v9):=GrownF.of_grown hg (fun x e _=>by cases e;rfl)
  refine ⟨⟨Blk.set10_other h.i.r (by omega) _ _ _ _ _ _ _ _ _ _,ownsRow_kept h.i.o fun x hx=>hg.block x (h.i.o.lt x hx).2 (fun e=>hn (by rw [hx];exact e)),h.i.n,h.i.l,h.i.e.grown g (fun x e=>by subst e;omega),h.i.p,h.i.d,h.i.m⟩,h.g.trans g (fun x hx e=>by subst e;omega),h.v⟩
theorem Left.newrow {w W W':World} {b lo:Nat} {s:ByteArray} {nv nv':Value} {st:St} (h:Left w W b lo s nv st nv') {row:Option Nat} (hg:W.grownBy W' row) (hb:b < w.heap.size) (hl:lo≤w.heap.size) (hr:∀ k,row=some k→w.heap.size≤k∧nv'.ownBlock≠some k):Left w W' b lo s nv st nv':=by
  have g:GrownF (fun x=>row=some x) W W':=GrownF.of_grown hg (fun x e _=>e)
  refine ⟨⟨h.i.r.grown hg (fun e=>by have:=(hr b e.symm).1;omega),ownsRow_kept h.i.o fun x hx=>hg.block x (h.i.o.lt x hx).2 (fun e=>(hr x e.symm).2 hx),h.i.n,h.i.l,h.i.e.grown g (fun x e=>by have:=(hr x e).1;omega),h.i.p,h.i.d,h.i.m⟩,h.g.trans g (fun x hx e=>by have:=(hr x e).1;omega),h.v⟩
theorem Left.below {w W W':World} {b lo:Nat} {s:ByteArray} {nv nv':Value} {st:St} (h:Left w W b lo s nv st nv') (hB:Below W.heap.size W W'):Left w W' b lo s nv st nv':=h.trans (h.i.below hB)
theorem Left.grown {w W W':World} {b lo:Nat} {s:ByteArray} {nv nv':Value} {st st':St} (h:Left w W b lo s nv st nv') (hr:SyR W' b s st'.f st'.p nv') (hG:W.grownBy W' (some b)) (hns:st'.ns=st.ns) (hp:st'.p≤s.size) (hd:Bd s st'.p) (hm:st'.ns.length≤st'.p):Left w W' b lo s nv st' nv':=h.trans (h.i.grown hr hG hns hp hd hm)
theorem Left.start {w:World} {b lo:Nat} {s:ByteArray} {nv:Value} {st:St} (h:SynIn w b lo s st nv):Left w w b lo s nv st nv:=⟨h,GrownF.refl _ _,fun _ hk=>.inl hk⟩
theorem tree_on {w W W':World} {nv nv':Value} {F:Nat→Prop} {t:T} {cs:List Value} (h:TreeF W (FreshN w W nv) t cs) (hg:GrownF F W W') (hF:∀ k,FreshN w W nv k→¬ F k∧nv'.ownBlock≠some k):TreeF W' (FreshN w W' nv') t cs:=
  h.turned (fun k hk=>hg.block k hk.1.2 (hF k hk).1) (fun k hk=>⟨⟨hk.1.1,Nat.lt_of_lt_of_le hk.1.2 hg.size⟩,(hF k hk).2⟩)
theorem tree_down {w w0 W:World} {nv:Value} {t:T} {cs:List Value} (h:TreeF W (FreshN w0 W nv) t cs) (hz:w.heap.size≤w0.heap.size):TreeF W (FreshN w W nv) t cs:=
  h.turned (fun _ _=>rfl) (fun _ hk=>⟨⟨Nat.le_trans hz hk.1.1,hk.1.2⟩,hk.2⟩)
end Go.Proofs.YtnhnldmldnhaoaaGreatDoor
