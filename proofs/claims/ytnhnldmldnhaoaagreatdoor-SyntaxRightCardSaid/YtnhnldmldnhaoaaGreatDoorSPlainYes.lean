/- Has a tree just the fields of its Op, and may they be? trees. -/
import Derived.Test.YtnhnldmldnhaoaaGreatDoorSBare
import Derived.Test.YtnhnldmldnhaoaaGreatDoorSBase
import Derived.Test.YtnhnldmldnhaoaaGreatDoorProg
import Derived.Maps.OwnIn
import Derived.Maps.Views
import Derived.RangeFuncWrites
import Derived.StringKeys
import Derived.WalkKit
import Derived.Lib.Hide
import Derived.WalkSpells
import Derived.WalkLawsBesides
set_option maxRecDepth 100000
set_option maxHeartbeats 16000000
open Go.Lib (hid)
namespace Go.Proofs.YtnhnldmldnhaoaaGreatDoor
open Go Go.RowKit Go.Proofs
theorem plain_yes (op:Int) (ka:Option Addr) (kn kc:Nat) (rune:Int) (sa:Option Addr) (sn sc:Nat) (pl cap:Int) (name:ByteArray) (mn mx:Int) (lz:Bool) (w:World) (so:Bool) (o5:¬ op=5) (hyes:bareOk op rune sn pl cap name mn mx lz=true)
    (hset:op=4→kn=0→0 < sn→∀ W,Below w.heap.size w W→Calls Tryz.prog 40 #[.slice sa sn sc] W fun e W'=>e = .returned (.bool so)∧Below W.heap.size W W') :
    Calls Tryz.prog 25 #[.agg #[.int .i64 op,.slice ka kn kc,.int .i32 rune,.slice sa sn sc,.int .i64 pl,.int .i64 cap,.string name,.int .i64 mn,.int .i64 mx,.bool lz]] w fun e w'=>
      e = .returned (.bool (kindOk op kn rune sn so pl name mn mx))∧Below w.heap.size w w':=by
  have HSET:=hid hset;clear hset
  go_enter Tryz.func25, Tryz.ntmps25
  go_wp2_with fail
  refine (trees_bare op ka kn kc rune sa sn sc pl cap name mn mx lz _).mono ?_
  rintro e w1 ⟨rfl,hB⟩
  obtain ⟨sa',sn',sc',hb,hsn⟩:=bareC_form op rune sa sn sc pl cap name mn mx lz
  rw [hb]
  have HB:=hid hB;clear hB hb
  unfold bareOk at hyes
  rw [← hsn] at hyes
  have HSN:=hid hsn;clear hsn
  generalize (if op=3 then rune else 0)=r' at hyes ⊢
  generalize (if op=5 then pl else 0)=p' at hyes ⊢
  generalize (if op=6 then cap else 0)=c' at hyes ⊢
  generalize (if op=6 then name else (⟨#[]⟩:ByteArray))=n' at hyes ⊢
  generalize (if op=10 then mn else 0)=mn' at hyes ⊢
  generalize (if op=10 then mx else 0)=mx' at hyes ⊢
  generalize (if op=7∨op=8∨op=9∨op=10 then lz else false)=l' at hyes ⊢
  have hsz:w.heap.size < w1.heap.size:=by have:=HB.out.size;simp only [World.size_alloc] at this;omega
  have ht:=(Blk.below (Blk.new w [.int .i64 op,.slice ka kn kc,.int .i32 rune,.slice sa sn sc,.int .i64 pl,.int .i64 cap,.string name,.int .i64 mn,.int .i64 mx,.bool lz] 29) HB.out (by simp))
  have t0:=Blk.cell ht (j:=0) rfl;have t1:=Blk.cell ht (j:=1) rfl;have t2:=Blk.cell ht (j:=2) rfl;have t3:=Blk.cell ht (j:=3) rfl;have t4:=Blk.cell ht (j:=4) rfl
  have t5:=Blk.cell ht (j:=5) rfl;have t6:=Blk.cell ht (j:=6) rfl;have t7:=Blk.cell ht (j:=7) rfl;have t8:=Blk.cell ht (j:=8) rfl;have t9:=Blk.cell ht (j:=9) rfl
  clear ht
  have B0:=hid (show Below w.heap.size w w1 from ((Below.refl _ w).alloc (Nat.le_refl _) _).trans (HB.out.mono (by simp)))
  clear HB
  simp only [Bool.and_eq_true,decide_eq_true_eq] at hyes
  obtain ⟨⟨⟨⟨⟨⟨⟨k1,k2⟩,k3⟩,k4⟩,k5⟩,k6⟩,k7⟩,k8⟩:=hyes
  subst k1 k2 k3 k4 k5 k6 k7 k8
  have B1:=hid (show ∀ o,Below w.heap.size w (w1.alloc o) from fun o=>B0.out.alloc (by omega) o)
  by_cases o1:op=1
  · subst o1
    go_wp2_with fail
    all_goals
      go_ret
      refine ⟨congrArg (fun z=>Ending.returned (Value.bool z)) (?_:_=kindOk _ _ _ _ _ _ _ _ _),B1.out _⟩
      refine Bool.eq_iff_iff.2 ?_
      simp [kindOk]
      try omega
  · by_cases o2:op=2
    · subst o2
      go_wp2_with fail
      all_goals
        go_ret
        refine ⟨congrArg (fun z=>Ending.returned (Value.bool z)) (?_:_=kindOk _ _ _ _ _ _ _ _ _),B1.out _⟩
        refine Bool.eq_iff_iff.2 ?_
        simp [kindOk]
        try omega
    · by_cases o3:op=3
      · subst o3
        go_wp2_with fail
        all_goals
          go_ret
          refine ⟨congrArg (fun z=>Ending.returned (Value.bool z)) (?_:_=kindOk _ _ _ _ _ _ _ _ _),B1.out _⟩
          refine Bool.eq_iff_iff.2 ?_
          simp [kindOk]
          try omega
      · by_cases o7:op=7
        · subst o7
          go_wp2_with fail
          all_goals
            go_ret
            refine ⟨congrArg (fun z=>Ending.returned (Value.bool z)) (?_:_=kindOk _ _ _ _ _ _ _ _ _),B1.out _⟩
            refine Bool.eq_iff_iff.2 ?_
            simp [kindOk]
            try omega
        · by_cases o8:op=8
          · subst o8
            go_wp2_with fail
            all_goals
              go_ret
              refine ⟨congrArg (fun z=>Ending.returned (Value.bool z)) (?_:_=kindOk _ _ _ _ _ _ _ _ _),B1.out _⟩
              refine Bool.eq_iff_iff.2 ?_
              simp [kindOk]
              try omega
          · by_cases o9:op=9
            · subst o9
              go_wp2_with fail
              all_goals
                go_ret
                refine ⟨congrArg (fun z=>Ending.returned (Value.bool z)) (?_:_=kindOk _ _ _ _ _ _ _ _ _),B1.out _⟩
                refine Bool.eq_iff_iff.2 ?_
                simp [kindOk]
                try omega
            · by_cases o10:op=10
              · subst o10
                go_wp2_with fail
                all_goals
                  go_ret
                  refine ⟨congrArg (fun z=>Ending.returned (Value.bool z)) (?_:_=kindOk _ _ _ _ _ _ _ _ _),B1.out _⟩
                  refine Bool.eq_iff_iff.2 ?_
                  simp [kindOk]
                  try omega
              · by_cases o11:op=11
                · subst o11
                  go_wp2_with fail
                  all_goals
                    go_ret
                    refine ⟨congrArg (fun z=>Ending.returned (Value.bool z)) (?_:_=kindOk _ _ _ _ _ _ _ _ _),B1.out _⟩
                    refine Bool.eq_iff_iff.2 ?_
                    simp [kindOk]
                    try omega
                · by_cases o12:op=12
                  · subst o12
                    go_wp2_with fail
                    all_goals
                      go_ret
                      refine ⟨congrArg (fun z=>Ending.returned (Value.bool z)) (?_:_=kindOk _ _ _ _ _ _ _ _ _),B1.out _⟩
                      refine Bool.eq_iff_iff.2 ?_
                      simp [kindOk]
                      try omega
                  · by_cases o4:op=4
                    · subst o4
                      by_cases q1:kn=0
                      · subst q1
                        by_cases q2:0 < sn'
                        · have q2':(0:Int) < (sn':Int):=by omega
                          have HC:=hid (HSET.out rfl rfl q2)
                          have HK:=hid (show kindOk 4 0 r' sn' so p' n' mn' mx'=so by unfold kindOk;simp [q2])
                          clear HSET
                          go_wp2_with fail
                          refine (HC.out _ (B1.out _)).mono ?_
                          rintro e w2 ⟨rfl,hB2⟩
                          have B2:=hid (below_next (B1.out _) (Nat.le_refl _) (grownBy_below hB2 none) (by simp));clear hB2
                          go_wp2_with fail
                          go_ret
                          exact ⟨by rw [HK.out];rfl,B2.out⟩
                        · have q2':¬ (0:Int) < (sn':Int):=by omega
                          have HK:=hid (show kindOk 4 0 r' sn' so p' n' mn' mx'=false by unfold kindOk;simp [q2])
                          clear HSET
                          go_wp2_with fail
                          go_ret
                          exact ⟨by rw [HK.out];rfl,B1.out _⟩
                      · have q1':((kn:Int) == 0)=false:=by simpa using q1
                        have HK:=hid (show kindOk 4 kn r' sn' so p' n' mn' mx'=false by unfold kindOk;simp [q1])
                        clear HSET
                        go_wp2_with fail
                        go_ret
                        exact ⟨by rw [HK.out];rfl,B1.out _⟩
                    · by_cases o6:op=6
                      · subst o6
                        by_cases q1:kn=1
                        · subst q1
                          by_cases q2:n'.size=0
                          · obtain rfl:=size_zero q2
                            have HK:=hid (show kindOk 6 1 r' sn' so p' ⟨#[]⟩ mn' mx'=true from rfl)
                            clear HSET q2
                            go_wp2_with fail
                            go_ret
                            exact ⟨by rw [HK.out];rfl,B1.out _⟩
                          · have q3:=list_ne q2
                            have HK:=hid (show kindOk 6 1 r' sn' so p' n' mn' mx'=nameB n' by unfold kindOk;simp [q2])
                            clear HSET
                            go_wp2_with fail
                            refine (trees_name n' _).mono ?_
                            rintro e w2 ⟨rfl,hB2⟩
                            have B2:=hid (below_next (B1.out _) (Nat.le_refl _) (grownBy_below hB2 none) (by simp));clear hB2
                            go_wp2_with fail
                            go_ret
                            exact ⟨by rw [HK.out];rfl,B2.out⟩
                        · have q1':((kn:Int) == 1)=false:=by simp;omega
                          have HK:=hid (show kindOk 6 kn r' sn' so p' n' mn' mx'=false by unfold kindOk;simp [q1])
                          clear HSET
                          go_wp2_with fail
                          go_ret
                          exact ⟨by rw [HK.out];rfl,B1.out _⟩
                      · have e1:(op == 1)=false:=by simpa using o1
                        have e2:(op == 2)=false:=by simpa using o2
                        have e3:(op == 3)=false:=by simpa using o3
                        have e7:(op == 7)=false:=by simpa using o7
                        have e8:(op == 8)=false:=by simpa using o8
                        have e9:(op == 9)=false:=by simpa using o9
                        have e10:(op == 10)=false:=by simpa using o10
                        have e11:(op == 11)=false:=by simpa using o11
                        have e12:(op == 12)=false:=by simpa using o12
                        have e4:(op == 4)=false:=by simpa using o4
                        have e5:(op == 5)=false:=by simpa using o5
                        have e6:(op == 6)=false:=by simpa using o6
                        have hk:kindOk op kn r' sn' so p' n' mn' mx'=false:=by unfold kindOk;simp [o1,o2,o3,o4,o5,o6,o7,o8,o9,o10,o11,o12]
                        have HK:=hid hk
                        clear o1 o2 o3 o4 o5 o6 o7 o8 o9 o10 o11 o12 hk
                        go_wp2_with fail
                        go_ret
                        exact ⟨by rw [HK.out];rfl,B1.out _⟩
end Go.Proofs.YtnhnldmldnhaoaaGreatDoor
namespace Go.Proofs.YtnhnldmldnhaoaaGreatDoor
open Go Go.RowKit Go.Proofs
def plainT (p:T):Bool:=
  bareOk p.op p.rune p.set.length p.pl p.cap p.name p.mn p.mx p.lz && kindOk p.op p.kids.length p.rune p.set.length (setRight p.set) p.pl p.name p.mn p.mx
def SetsRight (P:List (Int × Int)→Prop):Prop:=
  ∀ rs,P rs→∀ (B:Nat) (W:World) (sa:Option Addr) (sn sc:Nat),RangesV W B rs sa sn sc→B≤W.heap.size→0 < sn→
    Calls Tryz.prog 40 #[.slice sa sn sc] W fun e W'=>e = .returned (.bool (setRight rs))∧Below W.heap.size W W'
theorem plain_any {P:List (Int × Int)→Prop} (hS:SetsRight P) (t:T) (cs:List Value) (B:Nat) (w:World) (h:TreeV w B t cs) (hB:B≤w.heap.size) (hP:t.op=4→P t.set) :
    Calls Tryz.prog 25 #[.agg cs.toArray] w fun e w'=>e = .returned (.bool (plainT t))∧Below w.heap.size w w':=by
  obtain ⟨op,kids,rune,set,pl,cap,name,mn,mx,lz⟩:=t
  obtain ⟨ka,kn,kc,sa,sn,sc,rfl,⟨rfl,h2,h3⟩,hR⟩:=h.open
  have hsn:sn=set.length:=hR.1
  have hset:op=4→kids.length=0→0 < sn→∀ W,Below w.heap.size w W→Calls Tryz.prog 40 #[.slice sa sn sc] W fun e W'=>e = .returned (.bool (setRight set))∧Below W.heap.size W W':=
    fun h4 _ h0 W hW=>hS set (hP h4) B W sa sn sc (hR.below (hW.mono hB)) (Nat.le_trans hB hW.size) h0
  unfold plainT
  simp only [T.op,T.rune,T.set,T.pl,T.cap,T.name,T.mn,T.mx,T.lz,T.kids]
  rw [← hsn]
  cases hb:bareOk op rune sn pl cap name mn mx lz with
  | false=>exact (plain_no op ka kids.length kc rune sa sn sc pl cap name mn mx lz w hb).mono fun e w' h=>by simpa using h
  | true=>
    by_cases h5:op=5
    · subst h5
      exact (plain_at ka kids.length kc rune sa sn sc pl cap name mn mx lz w (setRight set) hb hset).mono fun e w' h=>by simpa using h
    · exact (plain_yes op ka kids.length kc rune sa sn sc pl cap name mn mx lz w (setRight set) h5 hb hset).mono fun e w' h=>by simpa using h
end Go.Proofs.YtnhnldmldnhaoaaGreatDoor
namespace Go.Proofs.YtnhnldmldnhaoaaGreatDoor
open Go Go.RowKit Go.Proofs Go.Maps
def SeenAt (W:World) (b n:Nat) (S:List (List UInt8)):Prop:=
  ∃ D:DataW Nat,W.ownsMap Tryz.prog 9 (plainElem Tryz.prog 4) b n D∧IsMap D∧∀ s:List UInt8,D.atKey (.string s) (.lit (.bool false)) = .lit (.bool (decide (s ∈ S)))
theorem seenLaw:Keyed Tryz.prog 9:=string_keyed Tryz.underlying9
theorem seenZero (w:World):(zeroValue 4).run Tryz.prog w = .ok (.bool false) w:=by kernel_rfl
theorem plainElem_bool_inv {H:Type} {P:Program} {e:TypeId} (he:P.underlying e=some .bool) {v:Value} {z:DataW H × List MemPlace} (h:plainElem P e v=some z):∃ x,v = .bool x∧z=(.lit (.bool x),[]):=by
  unfold plainElem at h
  rw [he] at h
  cases v <;> simp at h
  exact ⟨_,rfl,h.symm⟩
theorem SeenAt.made (w:World):SeenAt (w.alloc (.map #[] 0)) w.heap.size 0 []:=
  ⟨.map [],World.ownsMap_made w _ _ _,isMap_empty,fun s=>by simp [atKey_of_not_has (D:=(.map []:DataW Nat)) (k:=.string s) rfl]⟩
theorem SeenAt.kept {W W':World} {b n:Nat} {S:List (List UInt8)} {row:Option Nat} (h:SeenAt W b n S) (hg:W.grownBy W' row) (hne:some b≠row):SeenAt W' b n S:=by
  obtain ⟨D,h1,h2⟩:=h
  exact ⟨D,h1.kept hg hne,h2⟩
theorem SeenAt.alloc {W:World} {b n:Nat} {S:List (List UInt8)} (h:SeenAt W b n S) (o:Obj):SeenAt (W.alloc o) b n S:=h.kept (World.grownBy_alloc W o none) (by simp)
theorem SeenAt.lt {W:World} {b n:Nat} {S:List (List UInt8)} (h:SeenAt W b n S):b < W.heap.size:=by
  obtain ⟨D,h1,_⟩:=h
  exact h1.lt
theorem SeenAt.block {W:World} {b n:Nat} {S:List (List UInt8)} (h:SeenAt W b n S):∃ o,W.heap[b]? = some o∧o.isCells=false:=by
  obtain ⟨D,⟨es,ck,hh,_⟩,_⟩:=h
  exact ⟨_,hh,rfl⟩
theorem SeenAt.look {W:World} {b n:Nat} {S:List (List UInt8)} (h:SeenAt W b n S) (s:ByteArray) (hs:s.size≤maxLen) :
    (Instr.lookup 55 (.map (some b)) (.string s) false).run Tryz.prog W = .ok (.bool (decide (s.data.toList ∈ S))) W:=by
  obtain ⟨D,h1,_,h3⟩:=h
  obtain ⟨v,ps,hrun,hv⟩:=h1.lookup seenLaw Tryz.underlying55 (seenZero W) (plainElem_bool Tryz.underlying4 false) (WideMaps.keyOf_string_mk Tryz.underlying9 hs)
  obtain ⟨x,rfl,hz⟩:=plainElem_bool_inv Tryz.underlying4 hv
  rw [h3] at hz
  simp only [Prod.mk.injEq,DataW.lit.injEq,Lit.bool.injEq] at hz
  rw [hrun,hz.1]
theorem SeenAt.put {W':World} {b n:Nat} {S:List (List UInt8)} {D:DataW Nat} {s:List UInt8} (hm:IsMap D) (h3:∀ s:List UInt8,D.atKey (.string s) (.lit (.bool false)) = .lit (.bool (decide (s ∈ S))))
    (h:W'.ownsMap Tryz.prog 9 (plainElem Tryz.prog 4) b n (D.put (.string s) (.lit (.bool true)))):SeenAt W' b n (s :: S):=by
  refine ⟨_,h,hm.put _ _,fun s'=>?_⟩
  by_cases e:s'=s
  · subst e
    rw [atKey_put_same hm (by unfold WideAt.IsKeyLit;trivial)];simp
  · rw [atKey_put_other (fun h=>e (by cases h;rfl)),h3];simp [e]
theorem wpListIn_seen_put {F:Fence} {nF:Nat} (w:World) {ops:Array Oper} {rest:List Oper} {o:Oper} {a:Act} {Q:Exit→Act→World→Prop}
    (hg:o.guard=none) (m x v:Operand) (hop:o.op=Op.mapUpdate 55 m x v) (b n:Nat) (S:List (List UInt8))
    (hm:a.eval m = .map (some b)) (hown:SeenAt w b n S) (hn:n < maxLen) (s:ByteArray) (hs:s.size≤maxLen) (hx:a.eval x = .string s) (hv:a.eval v = .bool true)
    (hK:∀ w',SeenAt w' b (n+1) (s.data.toList :: S)→w.grownBy w' (some b)→wpListIn F nF Tryz.prog ops Q rest (a.put o.dst undef) w') :
    wpListIn F nF Tryz.prog ops Q (o :: rest) a w:=by
  obtain ⟨D,h1,h2,h3⟩:=hown
  exact wpListIn_mapUpdate_own w hg m x v 55 hop 9 4 seenLaw Tryz.underlying55 _ b n D hm h1 hn _ _ _ hx hv (WideMaps.keyOf_string_mk Tryz.underlying9 hs) _ [] (plainElem_bool Tryz.underlying4 true)
    fun w' hw hg'=>hK w' (SeenAt.put h2 h3 hw) hg'
end Go.Proofs.YtnhnldmldnhaoaaGreatDoor
namespace Go.Proofs.YtnhnldmldnhaoaaGreatDoor
open Go Go.RowKit Go.Proofs
mutual
def depth:T→Nat
  | .mk _ kids _ _ _ _ _ _ _ _=>depthL kids+1
def depthL:List T→Nat
  | []=>0
  | t :: ts=>max (depth t) (depthL ts)
end
theorem depth_le_depthL {l:List T} {k:Nat} (h:k < l.length):depth l[k]≤depthL l:=by
  induction l generalizing k with
  | nil=>simp at h
  | cons t l ih=>
    cases k with
    | zero=>simp [depthL];omega
    | succ k=>have:=ih (k:=k) (by simpa using h);simp [depthL];omega
theorem depthL_take_le (l:List T) (k:Nat):depthL (l.take k)≤depthL l:=by
  induction l generalizing k with
  | nil=>simp
  | cons t l ih=>
    cases k with
    | zero=>simp [depthL]
    | succ k=>have:=ih k;simp [depthL];omega
theorem depthL_take_succ (l:List T) (k:Nat) (h:k < l.length):depthL (l.take (k+1))=max (depthL (l.take k)) (depth l[k]):=by
  induction l generalizing k with
  | nil=>simp at h
  | cons t l ih=>
    cases k with
    | zero=>simp [depthL]
    | succ k=>simp [depthL,ih k (by simpa using h),Nat.max_assoc]
theorem depth_any (t:T):∀ (cs:List Value) (B:Nat) (w:World),TreeV w B t cs→B≤w.heap.size→depth t≤1000000→
    Calls Tryz.prog 22 #[.agg cs.toArray] w fun e w'=>e = .returned (.int .i64 (depth t))∧Below w.heap.size w w':=by
  induction t using T.ind with
  | h op kids rune set pl cap name mn mx lz ih=>
    intro cs B w h hB hd
    obtain ⟨ka,kn,kc,sa,sn,sc,rfl,⟨rfl,h2,h3⟩,h4⟩:=h.open
    have IH:=hid ih;clear ih
    have H3:=hid h3;clear h3
    clear h h4
    have hd0:depth (.mk op kids rune set pl cap name mn mx lz)=depthL kids+1:=by simp [depth]
    rw [hd0] at hd ⊢
    clear hd0
    go_enter Tryz.func22, Tryz.ntmps22
    go_wp2_with fail
    go_loopw [3,9] (fun n i wr=>∃ k:Nat,k≤kids.length∧i = .int .i64 k∧n = .int .i64 (depthL (kids.take k))∧Below w.heap.size w wr) (fun _ i _=>kids.length - (intOf i).toNat)
    case atStart=>exact ⟨0,Nat.zero_le _,rfl,by simp [depthL],(Below.refl _ _).alloc (Nat.le_refl _) _⟩
    case round=>
      obtain ⟨k,hk,rfl,rfl,hb⟩:=hrel
      by_cases hlt:k < kids.length
      · rcases H3.out with h0 | ⟨b,o,rfl,hbB,hK⟩
        · omega
        obtain ⟨cs,hc,hr⟩:=(hK.get k hlt)
        have hc':=hc.below (hb.mono hB)
        have hr':=hr.below (hb.mono hB) hbB
        have IHk:=hid (IH.out _ (List.getElem_mem hlt) cs B)
        obtain ⟨op1,ka1,kn1,kc1,rune1,sa1,sn1,sc1,pl1,cap1,name1,mn1,mx1,lz1,rfl⟩:=hc.form
        obtain ⟨g0,g1,g2,g3,g4,g5,g6,g7,g8,g9⟩:=hr'.ten
        have HC:=hid hc'
        have HB:=hid hb
        have HS:=hid hb.size
        clear hr hr' hc hc'
        go_wp2_with fail
        refine (IHk.out _ (HC.out.below ((Below.refl _ _).alloc (Nat.le_trans hB HS.out) _)) (by simp only [World.size_alloc];have:=HS.out;omega) ?hd).mono ?_
        case hd=>have:=depth_le_depthL hlt;omega
        rintro e w2 ⟨rfl,hb2⟩
        have HB2:=hid hb2;clear hb2
        have hq:=depthL_take_succ kids k hlt
        have HQ:=hid hq;clear hq
        go_wp2_with fail
        go_roundw
        case rel=>
          refine ⟨k+1,hlt,by go_num,?_,?_⟩
          · rw [HQ.out];go_num
          · exact (HB.out.alloc HS.out _).trans (HB2.out.mono (by simp only [World.size_alloc];have:=HS.out;omega))
        case measure=>simp [intOf];omega
      · have hk':k=kids.length:=by omega
        have ht:=depthL_take_le kids k
        have hq:depthL (kids.take k)=depthL kids:=by rw [hk',List.take_length]
        have HQ:=hid hq;clear hq
        have HK:=hid hk';clear hk'
        go_wp2_with fail
        go_ret
        exact ⟨by rw [HQ.out];go_num,hb⟩
end Go.Proofs.YtnhnldmldnhaoaaGreatDoor
namespace Go.Proofs.YtnhnldmldnhaoaaGreatDoor
open Go Go.RowKit Go.Proofs
def weightK (op n:Int) (kn:Nat) (mn mx:Int):Int:=
  min (if op=6 then n+2 else if op=12 then n+min (kn:Int) 4001 else if op=10 then n * min (max (max mn mx) 1) 4001+min (max (max mn mx) 1) 4001+1
    else if op=7∨op=8∨op=9∨op=11 then n+1 else 1) 4001
mutual
def weight:T→Int
  | .mk op kids _ _ _ _ _ mn mx _=>weightK op (weightF 0 kids) kids.length mn mx
def weightF (n:Int):List T→Int
  | []=>n
  | t :: ts=>weightF (min (n+weight t) 4001) ts
end
theorem weightF_snoc (n:Int) (l:List T) (t:T):weightF n (l ++ [t])=min (weightF n l+weight t) 4001:=by
  induction l generalizing n with
  | nil=>simp [weightF]
  | cons a l ih=>simp [weightF,ih]
theorem weightF_take (l:List T) (k:Nat) (h:k < l.length):weightF 0 (l.take (k+1))=min (weightF 0 (l.take k)+weight l[k]) 4001:=by
  rw [List.take_succ_eq_append_getElem h,weightF_snoc]
theorem weightK_le (op n:Int) (kn:Nat) (mn mx:Int) (h:0≤n):0≤weightK op n kn mn mx∧weightK op n kn mn mx≤4001:=by
  have hk:0≤n * min (max (max mn mx) 1) 4001:=Int.mul_nonneg h (by omega)
  unfold weightK
  generalize n * min (max (max mn mx) 1) 4001=q at *
  constructor
  · repeat' split
    all_goals omega
  · omega
theorem weight_le (t:T):0≤weight t∧weight t≤4001:=by
  induction t using T.ind with
  | h op kids rune set pl cap name mn mx lz ih=>
    have hf:∀ (l:List T) (n:Int),(∀ k ∈ l,0≤weight k∧weight k≤4001)→0≤n→0≤weightF n l:=by
      intro l
      induction l with
      | nil=>intro n _ h;simpa [weightF] using h
      | cons a l ihl=>intro n hl h;simp only [weightF];exact ihl _ (fun k hk=>hl k (List.mem_cons_of_mem _ hk)) (by have:=(hl a (List.mem_cons_self ..)).1;omega)
    simp only [weight]
    exact weightK_le _ _ _ _ _ (hf kids 0 ih (Int.le_refl _))
theorem weightF_le (l:List T):0≤weightF 0 l∧weightF 0 l≤4001:=by
  have:∀ (l:List T) (n:Int),0≤n→n≤4001→0≤weightF n l∧weightF n l≤4001:=by
    intro l
    induction l with
    | nil=>intro n h k;simpa [weightF] using ⟨h,k⟩
    | cons a l ih=>intro n h k;simp only [weightF];have:=weight_le a;exact ih _ (by omega) (by omega)
  exact this l 0 (Int.le_refl _) (by omega)
theorem weight_any (t:T):∀ (cs:List Value) (B:Nat) (w:World),TreeV w B t cs→B≤w.heap.size→
    Calls Tryz.prog 23 #[.agg cs.toArray] w fun e w'=>e = .returned (.int .i64 (weight t))∧Below w.heap.size w w':=by
  induction t using T.ind with
  | h op kids rune set pl cap name mn mx lz ih=>
    intro cs B w h hB
    obtain ⟨ka,kn,kc,sa,sn,sc,rfl,⟨rfl,h2,h3⟩,h4⟩:=h.open
    have IH:=hid ih;clear ih
    have H3:=hid h3;clear h3
    clear h h4
    have HW:=hid (show weight (.mk op kids rune set pl cap name mn mx lz)=weightK op (weightF 0 kids) kids.length mn mx by simp [weight])
    go_enter Tryz.func23, Tryz.ntmps23
    go_wp2_with fail
    go_loopw [3,10] (fun n i wr=>∃ k:Nat,k≤kids.length∧i = .int .i64 k∧n = .int .i64 (weightF 0 (kids.take k))∧Below w.heap.size w wr∧
      Blk wr w.heap.size [.int .i64 op,.slice ka kids.length kc,.int .i32 rune,.slice sa sn sc,.int .i64 pl,.int .i64 cap,.string name,.int .i64 mn,.int .i64 mx,.bool lz] 29) (fun _ i _=>kids.length - (intOf i).toNat)
    case atStart=>exact ⟨0,Nat.zero_le _,rfl,by simp [weightF],(Below.refl _ _).alloc (Nat.le_refl _) _,Blk.new w [.int .i64 op,.slice ka kids.length kc,.int .i32 rune,.slice sa sn sc,.int .i64 pl,.int .i64 cap,.string name,.int .i64 mn,.int .i64 mx,.bool lz] 29⟩
    case round=>
      obtain ⟨k,hk,rfl,rfl,hb,hbox⟩:=hrel
      have HBox:=hid hbox
      by_cases hlt:k < kids.length
      · rcases H3.out with h0 | ⟨b,o,rfl,hbB,hK⟩
        · omega
        obtain ⟨cs,hc,hr⟩:=(hK.get k hlt)
        have hc':=hc.below (hb.mono hB)
        have hr':=hr.below (hb.mono hB) hbB
        have IHk:=hid (IH.out _ (List.getElem_mem hlt) cs B)
        obtain ⟨op1,ka1,kn1,kc1,rune1,sa1,sn1,sc1,pl1,cap1,name1,mn1,mx1,lz1,rfl⟩:=hc.form
        obtain ⟨g0,g1,g2,g3,g4,g5,g6,g7,g8,g9⟩:=hr'.ten
        have HC:=hid hc'
        have HB:=hid hb
        have HS:=hid hb.size
        have hn:=weightF_le (kids.take k)
        have hq:=weightF_take kids k hlt
        have hw:=weight_le kids[k]
        have HQ:=hid hq;clear hq
        clear hr hr' hc hc' hbox
        obtain ⟨hn1,hn2⟩:=hn
        obtain ⟨hw1,hw2⟩:=hw
        obtain ⟨N,hN⟩:∃ N,N=weightF 0 (kids.take k):=⟨_,rfl⟩
        rw [← hN] at hn1 hn2 ⊢
        have HN:=hid hN;clear hN
        go_wp2_with fail
        refine (IHk.out _ (HC.out.below ((Below.refl _ _).alloc (Nat.le_trans hB HS.out) _)) (by simp only [World.size_alloc];have:=HS.out;omega)).mono ?_
        rintro e w2 ⟨rfl,hb2⟩
        have HB2:=hid hb2;clear hb2
        obtain ⟨V,hV⟩:∃ V,V=weight kids[k]:=⟨_,rfl⟩
        rw [← hV] at hw1 hw2 ⊢
        have HV:=hid hV;clear hV
        go_wp2_with fail
        go_roundw
        case rel=>
          refine ⟨k+1,hlt,by go_num,?_,?_,?_⟩
          · first
              | (rw [HQ.out,← HN.out,← HV.out];done)
              | (rw [HQ.out,← HN.out,← HV.out];exact congrArg (Value.int .i64) (by first | rfl | omega | (split <;> omega)))
          · exact (HB.out.alloc HS.out _).trans (HB2.out.mono (by simp only [World.size_alloc];have:=HS.out;omega))
          · exact (HBox.out.alloc _).below HB2.out (by simp only [World.size_alloc];have:=HBox.out.lt;omega)
        case measure=>simp [intOf];omega
      · have hk':k=kids.length:=by omega
        have hq:weightF 0 (kids.take k)=weightF 0 kids:=by rw [hk',List.take_length]
        rw [hq]
        have hn:=weightF_le kids
        obtain ⟨hn1,hn2⟩:=hn
        obtain ⟨N,hN⟩:∃ N,N=weightF 0 kids:=⟨_,rfl⟩
        rw [← hN] at hn1 hn2 ⊢
        have HN:=hid hN;clear hN hq
        have HW2:=hid (show weight (.mk op kids rune set pl cap name mn mx lz)=weightK op N kids.length mn mx by rw [HW.out,HN.out])
        clear hk'
        have t0:=Blk.cell hbox (j:=0) rfl;have t1:=Blk.cell hbox (j:=1) rfl;have t7:=Blk.cell hbox (j:=7) rfl;have t8:=Blk.cell hbox (j:=8) rfl
        have HB:=hid hb
        clear hbox hb
        by_cases o6:op=6
        · subst o6
          go_wp2_with fail
          all_goals
            go_ret
            refine ⟨?_,HB.out⟩
            rw [HW2.out]
            refine congrArg (fun z=>Ending.returned (Value.int .i64 z)) (?_:_=weightK _ _ _ _ _)
            simp [weightK]
            try omega
        · by_cases o12:op=12
          · subst o12
            go_wp2_with fail
            all_goals
              go_ret
              refine ⟨?_,HB.out⟩
              rw [HW2.out]
              refine congrArg (fun z=>Ending.returned (Value.int .i64 z)) (?_:_=weightK _ _ _ _ _)
              simp [weightK]
              try omega
          · by_cases o10:op=10
            · subst o10
              by_cases a1:mn < mx
              · by_cases a2:mx < 1
                · skip
                  obtain ⟨K,hK⟩:∃ K,min (1:Int) 4001=K:=⟨_,rfl⟩
                  have hK2:(if (4001:Int) < 1 then 4001 else 1)=K:=by rw [← hK];first | rfl | (split <;> omega)
                  have hKK:min (max (max mn mx) 1) 4001=K:=by rw [← hK];omega
                  have hK1:1≤K∧K≤4001:=by rw [← hK];omega
                  obtain ⟨P,hP⟩:∃ P,N * K=P:=⟨_,rfl⟩
                  have hP1:0≤P:=by rw [← hP];exact Int.mul_nonneg hn1 (by omega)
                  have hP2:P≤16008001:=by
                    rw [← hP]
                    have:=Int.mul_le_mul hn2 hK1.2 (by omega) (by omega)
                    omega
                  obtain ⟨hKa,hKb⟩:=hK1
                  have HP:=hid (show weightK 10 N kids.length mn mx=min (P+K+1) 4001 by unfold weightK;rw [if_neg (by decide),if_neg (by decide),if_pos rfl,hKK,hP])
                  clear hKK
                  go_wp2_with fail
                  all_goals
                    go_ret
                    refine ⟨?_,HB.out⟩
                    rw [HW2.out,HP.out]
                    refine congrArg (fun z=>Ending.returned (Value.int .i64 z)) (?_:_=min (P+K+1) 4001)
                    first | rfl | omega | (have hK9:K=1:=(by rw [← hK];rfl);have hP9:P=N:=(by rw [← hP,hK9];omega);omega)
                · skip
                  obtain ⟨K,hK⟩:∃ K,min (mx:Int) 4001=K:=⟨_,rfl⟩
                  have hK2:(if (4001:Int) < mx then 4001 else mx)=K:=by rw [← hK];first | rfl | (split <;> omega)
                  have hKK:min (max (max mn mx) 1) 4001=K:=by rw [← hK];omega
                  have hK1:1≤K∧K≤4001:=by rw [← hK];omega
                  obtain ⟨P,hP⟩:∃ P,N * K=P:=⟨_,rfl⟩
                  have hP1:0≤P:=by rw [← hP];exact Int.mul_nonneg hn1 (by omega)
                  have hP2:P≤16008001:=by
                    rw [← hP]
                    have:=Int.mul_le_mul hn2 hK1.2 (by omega) (by omega)
                    omega
                  obtain ⟨hKa,hKb⟩:=hK1
                  have HP:=hid (show weightK 10 N kids.length mn mx=min (P+K+1) 4001 by unfold weightK;rw [if_neg (by decide),if_neg (by decide),if_pos rfl,hKK,hP])
                  clear hKK
                  go_wp2_with fail
                  all_goals
                    go_ret
                    refine ⟨?_,HB.out⟩
                    rw [HW2.out,HP.out]
                    refine congrArg (fun z=>Ending.returned (Value.int .i64 z)) (?_:_=min (P+K+1) 4001)
                    first | rfl | omega | (have hK9:K=1:=(by rw [← hK];rfl);have hP9:P=N:=(by rw [← hP,hK9];omega);omega)
              · by_cases a2:mn < 1
                · skip
                  obtain ⟨K,hK⟩:∃ K,min (1:Int) 4001=K:=⟨_,rfl⟩
                  have hK2:(if (4001:Int) < 1 then 4001 else 1)=K:=by rw [← hK];first | rfl | (split <;> omega)
                  have hKK:min (max (max mn mx) 1) 4001=K:=by rw [← hK];omega
                  have hK1:1≤K∧K≤4001:=by rw [← hK];omega
                  obtain ⟨P,hP⟩:∃ P,N * K=P:=⟨_,rfl⟩
                  have hP1:0≤P:=by rw [← hP];exact Int.mul_nonneg hn1 (by omega)
                  have hP2:P≤16008001:=by
                    rw [← hP]
                    have:=Int.mul_le_mul hn2 hK1.2 (by omega) (by omega)
                    omega
                  obtain ⟨hKa,hKb⟩:=hK1
                  have HP:=hid (show weightK 10 N kids.length mn mx=min (P+K+1) 4001 by unfold weightK;rw [if_neg (by decide),if_neg (by decide),if_pos rfl,hKK,hP])
                  clear hKK
                  go_wp2_with fail
                  all_goals
                    go_ret
                    refine ⟨?_,HB.out⟩
                    rw [HW2.out,HP.out]
                    refine congrArg (fun z=>Ending.returned (Value.int .i64 z)) (?_:_=min (P+K+1) 4001)
                    first | rfl | omega | (have hK9:K=1:=(by rw [← hK];rfl);have hP9:P=N:=(by rw [← hP,hK9];omega);omega)
                · skip
                  obtain ⟨K,hK⟩:∃ K,min (mn:Int) 4001=K:=⟨_,rfl⟩
                  have hK2:(if (4001:Int) < mn then 4001 else mn)=K:=by rw [← hK];first | rfl | (split <;> omega)
                  have hKK:min (max (max mn mx) 1) 4001=K:=by rw [← hK];omega
                  have hK1:1≤K∧K≤4001:=by rw [← hK];omega
                  obtain ⟨P,hP⟩:∃ P,N * K=P:=⟨_,rfl⟩
                  have hP1:0≤P:=by rw [← hP];exact Int.mul_nonneg hn1 (by omega)
                  have hP2:P≤16008001:=by
                    rw [← hP]
                    have:=Int.mul_le_mul hn2 hK1.2 (by omega) (by omega)
                    omega
                  obtain ⟨hKa,hKb⟩:=hK1
                  have HP:=hid (show weightK 10 N kids.length mn mx=min (P+K+1) 4001 by unfold weightK;rw [if_neg (by decide),if_neg (by decide),if_pos rfl,hKK,hP])
                  clear hKK
                  go_wp2_with fail
                  all_goals
                    go_ret
                    refine ⟨?_,HB.out⟩
                    rw [HW2.out,HP.out]
                    refine congrArg (fun z=>Ending.returned (Value.int .i64 z)) (?_:_=min (P+K+1) 4001)
                    first | rfl | omega | (have hK9:K=1:=(by rw [← hK];rfl);have hP9:P=N:=(by rw [← hP,hK9];omega);omega)
            · by_cases o7:op=7
              · subst o7
                go_wp2_with fail
                all_goals
                  go_ret
                  refine ⟨?_,HB.out⟩
                  rw [HW2.out]
                  refine congrArg (fun z=>Ending.returned (Value.int .i64 z)) (?_:_=weightK _ _ _ _ _)
                  simp [weightK]
                  try omega
              · by_cases o8:op=8
                · subst o8
                  go_wp2_with fail
                  all_goals
                    go_ret
                    refine ⟨?_,HB.out⟩
                    rw [HW2.out]
                    refine congrArg (fun z=>Ending.returned (Value.int .i64 z)) (?_:_=weightK _ _ _ _ _)
                    simp [weightK]
                    try omega
                · by_cases o9:op=9
                  · subst o9
                    go_wp2_with fail
                    all_goals
                      go_ret
                      refine ⟨?_,HB.out⟩
                      rw [HW2.out]
                      refine congrArg (fun z=>Ending.returned (Value.int .i64 z)) (?_:_=weightK _ _ _ _ _)
                      simp [weightK]
                      try omega
                  · by_cases o11:op=11
                    · subst o11
                      go_wp2_with fail
                      all_goals
                        go_ret
                        refine ⟨?_,HB.out⟩
                        rw [HW2.out]
                        refine congrArg (fun z=>Ending.returned (Value.int .i64 z)) (?_:_=weightK _ _ _ _ _)
                        simp [weightK]
                        try omega
                    · have e6:(op == 6)=false:=by simpa using o6
                      have e12:(op == 12)=false:=by simpa using o12
                      have e10:(op == 10)=false:=by simpa using o10
                      have e7:(op == 7)=false:=by simpa using o7
                      have e8:(op == 8)=false:=by simpa using o8
                      have e9:(op == 9)=false:=by simpa using o9
                      have e11:(op == 11)=false:=by simpa using o11
                      have HK:=hid (show weightK op N kids.length mn mx=1 by unfold weightK;simp [o6,o12,o10,o7,o8,o9,o11];rfl)
                      clear o6 o12 o10 o7 o8 o9 o11
                      go_wp2_with fail
                      go_ret
                      exact ⟨by rw [HW2.out,HK.out];rfl,HB.out⟩
end Go.Proofs.YtnhnldmldnhaoaaGreatDoor
