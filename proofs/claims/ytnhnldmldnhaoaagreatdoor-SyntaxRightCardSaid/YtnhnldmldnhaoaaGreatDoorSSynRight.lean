/- What the reader reads is right, but for its depth, its weight. -/
import Derived.Test.YtnhnldmldnhaoaaGreatDoorSSyEsc
import Derived.Test.YtnhnldmldnhaoaaGreatDoorSRight
import Derived.Test.YtnhnldmldnhaoaaGreatDoorSSyCatch
namespace Go.Proofs.YtnhnldmldnhaoaaGreatDoor
open Go Go.RowKit Go.Proofs Go.Shelf
def NsS (ns:List ByteArray):Nat × List (List UInt8):=(ns.length,(ns.map fun x=>x.data.toList).reverse)
def Runs (l:List T) (a b:List ByteArray):Prop:=l.foldl stepR (some (NsS a))=some (NsS b)
theorem Runs.nil (a:List ByteArray):Runs [] a a:=rfl
theorem Runs.append {l m:List T} {a b c:List ByteArray} (h:Runs l a b) (h':Runs m b c):Runs (l ++ m) a c:=by
  unfold Runs at *
  rw [List.foldl_append,h,h']
def Plain1 (t:T):Prop:=plainT t=true∧t.op≠6
theorem Runs.cons {t:T} {l:List T} {a b:List ByteArray} (ht:Plain1 t) (h:Runs l a b):Runs (t :: l) a b:=by
  unfold Runs at *
  rw [List.foldl_cons]
  have e:stepR (some (NsS a)) t=some (NsS a):=by
    unfold stepR NsS
    simp only
    rw [if_neg (by rw [ht.1];simp),if_neg ht.2]
  rw [e];exact h
theorem parts_leaf (op rune:Int) (set:List (Int × Int)) (pl:Int):parts (leafT op rune set pl)=[leafT op rune set pl]:=by simp [leafT,parts,partsL]
theorem parts_kids (op:Int) (l:List T):parts (kidsT op l)=kidsT op l :: partsL l:=by simp [kidsT,parts]
theorem parts_rep (op:Int) (k:T) (mn mx:Int) (lz:Bool):parts (repT op k mn mx lz)=repT op k mn mx lz :: parts k:=by simp [repT,parts,partsL]
theorem parts_cap (k:T) (n:Nat) (nm:ByteArray):parts (capT k n nm)=capT k n nm :: parts k:=by simp [capT,parts,partsL]
theorem partsL_one (t:T):partsL [t]=parts t:=by simp [partsL]
theorem Runs.leaf {op rune:Int} {set:List (Int × Int)} {pl:Int} (a:List ByteArray) (h:Plain1 (leafT op rune set pl)):Runs (parts (leafT op rune set pl)) a a:=by
  rw [parts_leaf];exact Runs.cons h (Runs.nil a)
theorem plainL_rune {c:Int} (h0:0≤c) (h1:c≤1114111):Plain1 (leafT 3 c [] 0):=by
  refine ⟨?_,by show (3:Int)≠6;decide⟩
  unfold plainT bareOk kindOk leafT
  simp [T.op,T.rune,T.set,T.pl,T.cap,T.name,T.mn,T.mx,T.lz,T.kids,h0,h1]
theorem plainL_none:Plain1 (leafT 1 0 [] 0):=⟨by decide,by decide⟩
theorem plainL_empty:Plain1 (leafT 2 0 [] 0):=⟨by decide,by decide⟩
theorem plainL_at {pl:Int} (h:pl=1∨pl=2∨pl=4∨pl=8∨pl=16∨pl=32):Plain1 (leafT 5 0 [] pl):=by
  rcases h with rfl | rfl | rfl | rfl | rfl | rfl <;> exact ⟨by decide,by decide⟩
theorem plainL_setT {l:List (Int × Int)} (h:setRight l=true):∃ op rune set pl,setT l=leafT op rune set pl∧Plain1 (leafT op rune set pl):=by
  unfold setT
  by_cases h0:l.length=0
  · rw [if_pos h0];exact ⟨_,_,_,_,rfl,plainL_none⟩
  · rw [if_neg h0]
    refine ⟨_,_,_,_,rfl,?_,by show (4:Int)≠6;decide⟩
    unfold plainT bareOk kindOk leafT
    simp [T.op,T.rune,T.set,T.pl,T.cap,T.name,T.mn,T.mx,T.lz,T.kids,h]
    exact decide_eq_true (by omega)
theorem Runs.set {l:List (Int × Int)} (a:List ByteArray) (h:setRight l=true):Runs (parts (setT l)) a a:=by
  obtain ⟨op,rune,set,pl,e,hp⟩:=plainL_setT h
  rw [e];exact Runs.leaf a hp
theorem normL_right (p:Int→Bool):setRight (normL p)=true:=by
  unfold normL
  split
  · rename_i h;exact (Classical.choose_spec h).1
  · rfl
theorem dotL_right (f:Int):setRight (dotL f)=true:=by unfold dotL;split <;> decide
theorem Runs.atom {f c:Int} (a:List ByteArray) (h0:0≤c) (h1:c≤1114111):Runs (parts (atomT f c)) a a:=by
  unfold atomT
  split
  · exact Runs.set a (normL_right _)
  · exact Runs.leaf a (plainL_rune h0 h1)
theorem runesN_in (s:ByteArray):∀ n p,∀ c ∈ runesN s n p,0≤c∧c≤1114111
  | 0,p,c,h=>by simp [runesN] at h
  | n+1,p,c,h=>by
    unfold runesN at h
    split at h
    · rename_i hp
      rcases List.mem_cons.1 h with rfl | h
      · exact nextC_in' s p hp
      · exact runesN_in s n _ c h
    · cases h
theorem Runs.text (f:Int) (s:ByteArray) (a:List ByteArray):Runs (partsL (runesT f s)) a a:=by
  unfold runesT
  have h:=runesN_in s s.size 0
  unfold runesL
  generalize runesN s s.size 0=L at h
  induction L with
  | nil=>exact Runs.nil a
  | cons c L ih=>
    rw [List.map_cons,partsL]
    exact (Runs.atom a (h c (List.mem_cons_self ..)).1 (h c (List.mem_cons_self ..)).2).append (ih fun x hx=>h x (List.mem_cons_of_mem _ hx))
theorem Runs.cat {l:List T} {a b:List ByteArray} (h:Runs (partsL l) a b):Runs (parts (catT l)) a b:=by
  unfold catT
  split
  · have e:a=b∨True:=.inr trivial
    have h2:NsS a=NsS b:=by unfold Runs partsL at h;exact Option.some.inj h
    rw [parts_leaf]
    unfold Runs
    rw [← h2]
    exact Runs.cons plainL_empty (Runs.nil a)
  · rw [partsL_one] at h;exact h
  · rw [parts_kids]
    refine Runs.cons ⟨?_,by show (11:Int)≠6;decide⟩ h
    unfold plainT bareOk kindOk kidsT
    simp [T.op,T.rune,T.set,T.pl,T.cap,T.name,T.mn,T.mx,T.lz]
theorem Runs.alts {l:List T} {a b:List ByteArray} (hl:l≠[]) (h:Runs (partsL l) a b):Runs (parts (altsT l)) a b:=by
  unfold altsT
  split
  · rw [partsL_one] at h;exact h
  · rw [parts_kids]
    refine Runs.cons ⟨?_,by show (12:Int)≠6;decide⟩ h
    unfold plainT bareOk kindOk kidsT
    simp [T.op,T.rune,T.set,T.pl,T.cap,T.name,T.mn,T.mx,T.lz,T.kids]
    exact decide_eq_true (List.length_pos_iff.2 hl)
def GoodRep (op mn mx:Int):Prop:=((op=7∨op=8∨op=9)∧mn=0∧mx=0)∨(op=10∧0≤mn∧mn≤1000∧(mx = -1∨mn≤mx∧mx≤1000))
theorem plainL_rep {op mn mx:Int} {k:T} {lz:Bool} (h:GoodRep op mn mx):Plain1 (repT op k mn mx lz):=by
  rcases h with ⟨h | h | h,rfl,rfl⟩ | ⟨rfl,h1,h2,h3⟩
  · subst h;refine ⟨?_,by show (7:Int)≠6;decide⟩
    unfold plainT bareOk kindOk repT
    simp [T.op,T.rune,T.set,T.pl,T.cap,T.name,T.mn,T.mx,T.lz,T.kids]
  · subst h;refine ⟨?_,by show (8:Int)≠6;decide⟩
    unfold plainT bareOk kindOk repT
    simp [T.op,T.rune,T.set,T.pl,T.cap,T.name,T.mn,T.mx,T.lz,T.kids]
  · subst h;refine ⟨?_,by show (9:Int)≠6;decide⟩
    unfold plainT bareOk kindOk repT
    simp [T.op,T.rune,T.set,T.pl,T.cap,T.name,T.mn,T.mx,T.lz,T.kids]
  · refine ⟨?_,by show (10:Int)≠6;decide⟩
    unfold plainT bareOk kindOk repT
    simp [T.op,T.rune,T.set,T.pl,T.cap,T.name,T.mn,T.mx,T.lz,T.kids,h1,h2]
    rcases h3 with h3 | ⟨h3,h4⟩
    · exact .inl (decide_eq_true h3)
    · exact .inr ⟨decide_eq_true h3,decide_eq_true h4⟩
theorem numP_in (l:List UInt8) (h:∀ c ∈ l,digs.contains c=true):0≤numP 10 1000 0 l:=by
  have hd:∀ c ∈ l,isDig c:=fun c hc=>by
    have:=h c hc
    have h2:=List.contains_iff_mem.1 this
    simp only [digs,List.mem_cons,List.not_mem_nil,or_false] at h2
    unfold isDig
    rcases h2 with rfl | rfl | rfl | rfl | rfl | rfl | rfl | rfl | rfl | rfl <;> decide
  exact (numP_bd 10 1000 (by omega) (by omega) l 0 hd (by omega) (by omega)).1
theorem countP_in {s:ByteArray} {p:Nat} {a b:Int} {q:Nat} (h:countP s p=some (a,b,q)):0≤a∧-1≤b:=by
  have n1:=numP_in (runP s (p+1) digs) (runP_digs s (p+1))
  have n2:=numP_in (runP s (p+1+(runP s (p+1) digs).length+1) digs) (runP_digs s _)
  unfold countP at h
  split at h
  · split at h
    · cases h
    split at h
    · cases h;omega
    split at h
    · cases h;omega
    split at h
    · split at h
      · cases h
      split at h
      · cases h;omega
      · cases h
    · cases h
  · cases h
theorem sign_good {s:ByteArray} {p:Nat} {op mn mx:Int} {q:Nat} (h:signP s p=(some (op,mn,mx),q)) (hb:¬ badCount op mn mx):GoodRep op mn mx:=by
  unfold signP at h
  split at h
  · cases h;exact .inl ⟨.inl rfl,rfl,rfl⟩
  split at h
  · cases h;exact .inl ⟨.inr (.inl rfl),rfl,rfl⟩
  split at h
  · cases h;exact .inl ⟨.inr (.inr rfl),rfl,rfl⟩
  cases hc:countP s p with
  | none=>rw [hc] at h;cases h
  | some y=>
    obtain ⟨a,b,q2⟩:=y
    rw [hc] at h
    cases h
    have h1:=countP_in hc
    unfold badCount at hb
    exact .inr ⟨rfl,by omega⟩
theorem repeat_good {s:ByteArray} {fr p:Nat} {f op mn mx:Int} {lz:Bool} {q:Nat} (h:repeatP s fr p f op mn mx = .ok (lz,q)):¬ badCount op mn mx:=by
  unfold repeatP at h
  split at h
  · cases h
  · assumption
theorem name_good {s:ByteArray} {p:Nat} {nm:ByteArray} {q:Nat} (h:nameP s p = .ok (nm,q)):nameB nm=true:=by
  unfold nameP at h
  split at h
  · cases h
  · split at h
    · rename_i c
      cases h
      exact c.2
    · cases h
theorem esc_place {s:ByteArray} {p:Nat} {perl:Bool} {r a q:Int} (h:escP s p perl = .lit 3 r a q):a=1∨a=2∨a=4∨a=8∨a=16∨a=32:=by
  unfold escP at h
  split at h
  · cases h
  split at h
  · cases h
  split at h
  · cases h
  split at h
  · cases h
  split at h
  · unfold escX at h
    split at h <;> cases h
  split at h
  · unfold escPr at h
    split at h
    · cases h
    · split at h <;> cases h
  split at h
  · cases h
  · unfold escPl at h
    split at h
    · rename_i c
      cases h
      unfold placeI at c ⊢
      repeat' split
      all_goals simp_all
    split at h
    · cases h
    split at h <;> cases h
theorem esc_runs {s:ByteArray} {st st':St} {ts:List T} (h:escapeP s st = .ok ts st'):Runs (partsL ts) st.ns st'.ns:=by
  unfold escapeP at h
  cases hx:escP s st.p (onB st.f 32) with
  | wrong e a b=>rw [hx] at h;cases h
  | set g q=>
    rw [hx] at h
    cases h
    rw [partsL_one]
    exact Runs.set _ (normL_right _)
  | lit k r a q=>
    rw [hx] at h
    simp only at h
    split at h
    · rename_i hk
      subst hk
      cases h
      rw [partsL_one]
      rcases escP_rune hx with h1 | h1 | h1
      · exact Runs.atom _ h1.2.1 h1.2.2
      · cases h1
      · cases h1
    split at h
    · rename_i _ hk
      subst hk
      cases h
      rw [partsL_one]
      exact Runs.leaf _ (plainL_at (esc_place hx))
    · cases h
      exact Runs.text _ _ _
theorem cap_runs {t:T} {ns ns':List ByteArray} {nm:ByteArray} (hn:nm.size=0∨nameB nm=true∧ns.contains nm=false) (h:Runs (parts t) (ns ++ [nm]) ns'):Runs (parts (capT t (ns.length+1) nm)) ns ns':=by
  rw [parts_cap]
  unfold Runs at *
  rw [List.foldl_cons]
  have e:stepR (some (NsS ns)) (capT t (ns.length+1) nm)=some (NsS (ns ++ [nm])):=by
    have hp:plainT (capT t (ns.length+1) nm)=true:=by
      unfold plainT bareOk kindOk capT
      rcases hn with h1 | ⟨h1,_⟩ <;> simp [T.op,T.rune,T.set,T.pl,T.cap,T.name,T.mn,T.mx,T.lz,T.kids,h1]
    rw [show NsS ns=(ns.length,(ns.map fun x=>x.data.toList).reverse) from rfl]
    unfold stepR
    simp only
    rw [if_neg (by rw [hp];simp),if_pos (show (capT t (ns.length+1) nm).op=6 from rfl),if_neg ?_]
    · simp [capT,T.name,NsS]
    · rintro (h1 | ⟨h1,h2⟩)
      · exact h1 (by simp [capT,T.cap])
      · rcases hn with h3 | ⟨_,h3⟩
        · exact h1 h3
        · simp only [capT,T.name,List.mem_reverse,List.mem_map] at h2
          obtain ⟨x,hx,he⟩:=h2
          have:ns.contains nm=true:=by
            rw [List.contains_eq_any_beq,List.any_eq_true]
            exact ⟨x,hx,(Go.MapKept.bytes_beq nm x).2 (WideShapes.bytes_inj he).symm⟩
          rw [h3] at this
          cases this
  rw [e];exact h
structure RunS (s:ByteArray) (n:Nat):Prop where
  parts:∀ (st st':St) (t:T),partsP s n st = .ok t st'→Runs (parts t) st.ns st'.ns
  alt:∀ (st st':St) (l:List T) (t:T) (a:List ByteArray),l≠[]→altP s n st l = .ok t st'→Runs (partsL l) a st.ns→Runs (Go.Proofs.YtnhnldmldnhaoaaGreatDoor.parts t) a st'.ns
  part:∀ (st st':St) (l:List T) (t:T) (a:List ByteArray),partP s n st l = .ok t st'→Runs (partsL l) a st.ns→Runs (Go.Proofs.YtnhnldmldnhaoaaGreatDoor.parts t) a st'.ns
  atoms:∀ (st st':St) (ts:List T),st.p < s.size→atomsP s n st = .ok ts st'→Runs (partsL ts) st.ns st'.ns
  op:∀ (st st':St) (ts:List T),openP s n st = .ok ts st'→Runs (partsL ts) st.ns st'.ns
  group:∀ (st st':St) (nm:ByteArray) (t:T),(nm.size=0∨nameB nm=true∧st.ns.contains nm=false)→groupP s n st nm = .ok t st'→Runs (Go.Proofs.YtnhnldmldnhaoaaGreatDoor.parts t) st.ns st'.ns
  close:∀ (st st':St) (t:T),closeP s n st = .ok t st'→Runs (Go.Proofs.YtnhnldmldnhaoaaGreatDoor.parts t) st.ns st'.ns
theorem partsL_last {l:List T} {k:T} (h:l.getLast? = some k):partsL l=partsL l.dropLast ++ parts k:=by
  have e:l=l.dropLast ++ [k]:=by
    obtain ⟨ys,rfl⟩:=List.getLast?_eq_some_iff.1 h
    simp
  conv=>lhs;rw [e]
  rw [partsL_append,partsL_one]
theorem foldl_none (l:List T):l.foldl stepR none=none:=foldl_stepR_none l
theorem rep_runs {l:List T} {k:T} {a b:List ByteArray} {op mn mx:Int} {lz:Bool} (hl:l.getLast? = some k) (hg:GoodRep op mn mx) (h:Runs (partsL l) a b):Runs (partsL (l.dropLast ++ [repT op k mn mx lz])) a b:=by
  rw [partsL_last hl] at h
  rw [partsL_append,partsL_one,parts_rep]
  unfold Runs at *
  rw [List.foldl_append] at h ⊢
  rw [List.foldl_cons]
  cases hx:(partsL l.dropLast).foldl stepR (some (NsS a)) with
  | none=>rw [hx,foldl_none] at h;cases h
  | some y=>
    rw [hx] at h
    have hp:=plainL_rep (k:=k) (lz:=lz) hg
    have e:stepR (some y) (repT op k mn mx lz)=some y:=by
      obtain ⟨n,S⟩:=y
      unfold stepR
      simp only
      rw [if_neg (by rw [hp.1];simp),if_neg hp.2]
    rw [e];exact h
theorem syn_runs (s:ByteArray):∀ n,RunS s n
  | 0=>⟨fun st st' t h=>(by unfold partsP at h;cases h),fun st st' l t a _ h=>(by unfold altP at h;cases h),fun st st' l t a h=>(by unfold partP at h;cases h),fun st st' ts _ h=>(by unfold atomsP at h;cases h),fun st st' ts h=>(by unfold openP at h;cases h),fun st st' nm t _ h=>(by unfold groupP at h;cases h),fun st st' t h=>(by unfold closeP at h;cases h)⟩
  | n+1=>by
    have I:=syn_runs s n
    constructor
    · intro st st' t h
      rw [partsP] at h
      cases hx:partP s n st [] with
      | out=>rw [hx] at h;cases h
      | wrong a b c=>rw [hx] at h;cases h
      | ok t1 st1=>
        rw [hx] at h
        exact I.alt st1 st' [t1] t st.ns (by simp) h (by rw [partsL_one];exact I.part st st1 [] t1 st.ns hx (Runs.nil _))
    · intro st st' l t a hl h hr
      rw [altP_eq] at h
      split at h
      · cases hx:partP s n { st with p:=st.p+1 } [] with
        | out=>rw [hx] at h;cases h
        | wrong a b c=>rw [hx] at h;cases h
        | ok t1 st1=>
          rw [hx] at h
          refine I.alt st1 st' (l ++ [t1]) t a (by simp) h ?_
          rw [partsL_append,partsL_one]
          exact hr.append (I.part _ st1 [] t1 st.ns hx (Runs.nil _))
      · cases h
        exact hr.alts hl
    · intro st st' l t a h hr
      rw [partP] at h
      split at h
      · cases h;exact hr.cat
      · rename_i hstop
        cases hs:signP s st.p with
        | mk x q=>
          rw [hs] at h
          cases x with
          | none=>
            simp only at h
            cases hx:atomsP s n st with
            | out=>rw [hx] at h;cases h
            | wrong a b c=>rw [hx] at h;cases h
            | ok ts st1=>
              rw [hx] at h
              have hp:st.p < s.size:=by
                apply Classical.byContradiction
                intro hn
                exact hstop (.inl (nextC_end s st.p (by omega)).1)
              refine I.part st1 st' (l ++ ts) t a h ?_
              rw [partsL_append]
              exact hr.append (I.atoms st st1 ts hp hx)
          | some y=>
            obtain ⟨op,mn,mx⟩:=y
            simp only at h
            cases hl:l.getLast? with
            | none=>rw [hl] at h;cases h
            | some k=>
              rw [hl] at h
              simp only at h
              cases hrp:repeatP s st.p q st.f op mn mx with
              | error e=>rw [hrp] at h;cases h
              | ok r=>
                obtain ⟨lz,q'⟩:=r
                rw [hrp] at h
                exact I.part _ st' _ t a h (rep_runs hl (sign_good hs (repeat_good hrp)) hr)
    · intro st st' ts hp h
      have hc:=nextC_in' s st.p hp
      rw [atomsP] at h
      split at h
      · exact I.op st st' ts h
      split at h
      · exact esc_runs h
      split at h
      · cases hx:clsQ s st.p (onB st.f 32) (if onB st.f 1 then some foldF else none) with
        | wrong a b c=>rw [hx] at h;cases h
        | ok g q=>rw [hx] at h;cases h;rw [partsL_one];exact Runs.set _ (normL_right _)
      split at h
      · cases h;rw [partsL_one];exact Runs.set _ (dotL_right _)
      split at h
      · cases h;rw [partsL_one];exact Runs.leaf _ (plainL_at (by split <;> simp))
      split at h
      · cases h;rw [partsL_one];exact Runs.leaf _ (plainL_at (by split <;> simp))
      · cases h;rw [partsL_one];exact Runs.atom _ hc.1 hc.2
    · intro st st' ts h
      rw [openP] at h
      split at h
      · split at h
        · cases hx:nameP s st.p with
          | error q=>rw [hx] at h;cases h
          | ok y=>
            obtain ⟨nm,q⟩:=y
            rw [hx] at h
            simp only at h
            split at h
            · cases h
            · rename_i hc
              cases hg:groupP s n { st with p:=q } nm with
              | out=>rw [hg] at h;cases h
              | wrong a b c=>rw [hg] at h;cases h
              | ok t st1=>
                rw [hg] at h
                cases h
                rw [partsL_one]
                exact I.group { st with p:=q } _ nm t (.inr ⟨name_good hx,by simpa using hc⟩) hg
        · cases hx:flagsP s st.p st.f with
          | error q=>rw [hx] at h;cases h
          | ok y=>
            obtain ⟨g,grp,q⟩:=y
            rw [hx] at h
            simp only at h
            split at h
            · cases hg:closeP s n { st with p:=q,f:=g } with
              | out=>rw [hg] at h;cases h
              | wrong a b c=>rw [hg] at h;cases h
              | ok t st1=>
                rw [hg] at h
                cases h
                rw [partsL_one]
                exact I.close { st with p:=q,f:=g } st1 t hg
            · cases h;exact Runs.nil _
      · cases hg:groupP s n { st with p:=st.p+1 } ⟨#[]⟩ with
        | out=>rw [hg] at h;cases h
        | wrong a b c=>rw [hg] at h;cases h
        | ok t st1=>
          rw [hg] at h
          cases h
          rw [partsL_one]
          exact I.group { st with p:=st.p+1 } _ _ t (.inl rfl) hg
    · intro st st' nm t hn h
      rw [groupP] at h
      cases hg:closeP s n { st with ns:=st.ns ++ [nm] } with
      | out=>rw [hg] at h;cases h
      | wrong a b c=>rw [hg] at h;cases h
      | ok t1 st1=>
        rw [hg] at h
        cases h
        exact cap_runs hn (I.close { st with ns:=st.ns ++ [nm] } st1 t1 hg)
    · intro st st' t h
      rw [closeP] at h
      cases hg:partsP s n st with
      | out=>rw [hg] at h;cases h
      | wrong a b c=>rw [hg] at h;cases h
      | ok t1 st1=>
        rw [hg] at h
        simp only at h
        split at h
        · cases h;exact I.parts st st1 t hg
        · cases h
theorem parse_right {s:ByteArray} {f:Int} {t:T} (h:parseP s f = .ok t):rightB t=true:=by
  unfold parseP at h
  split at h
  · cases h
  split at h
  · cases h
  split at h
  · cases h
  cases hw:wholeP s f with
  | out=>rw [hw] at h;cases h
  | wrong a b c=>rw [hw] at h;cases h
  | ok t1 st1=>
    rw [hw] at h
    simp only at h
    split at h
    · cases h
    split at h
    · cases h
    cases h
    have hr:∃ b,Runs (parts t) [] b:=by
      unfold wholeP at hw
      split at hw
      · cases hw
        exact ⟨[],Runs.cat (Runs.text f s [])⟩
      · cases hp:partsP s (8 * s.size+8) ⟨0,f,[]⟩ with
        | out=>rw [hp] at hw;cases hw
        | wrong a b c=>rw [hp] at hw;cases hw
        | ok t2 st2=>
          rw [hp] at hw
          simp only at hw
          split at hw
          · cases hw
          · cases hw
            exact ⟨_,(syn_runs s _).parts _ _ _ hp⟩
    obtain ⟨b,hb⟩:=hr
    unfold rightB runR
    unfold Runs at hb
    have e0:NsS []=(0,[]):=rfl
    rw [e0] at hb
    rw [hb]
    simp
    omega
end Go.Proofs.YtnhnldmldnhaoaaGreatDoor
