/- syntax.Parse$1: the deferred closure, of a frame that returns, and of one that panics; Parse$2: what must be. -/
import Derived.Test.YtnhnldmldnhaoaaGreatDoorSSyParts
import Derived.Defers
import Derived.Recover
import Derived.Test.YtnhnldmldnhaoaaGreatDoorSEscGo
import Derived.Test.YtnhnldmldnhaoaaGreatDoorSPlainYes
import Derived.Test.YtnhnldmldnhaoaaGreatDoorShelfS
import Derived.Test.YtnhnldmldnhaoaaGreatDoorShelfB
import Derived.Deep.RegionHeld3
import Derived.Test.YtnhnldmldnhaoaaGreatDoorSSyEsc
import Derived.Test.YtnhnldmldnhaoaaGreatDoorSBrFull
import Derived.Test.YtnhnldmldnhaoaaGreatDoorSSyOpen2
set_option maxRecDepth 100000
set_option maxHeartbeats 16000000
open Go.Lib (hid)
namespace Go.Proofs.YtnhnldmldnhaoaaGreatDoor
open Go Go.RowKit Go.Proofs Go.Shelf
theorem parse_idle (a b:Value) (w:World) :
    CallsD Tryz.prog 18 #[a,b] .returning w fun e u' w'=>e = .returned (.tuple #[])∧u' = .returning∧w'=w:=by
  have hnn:∀ w,(binOp .eql 20 .nilIface .nilIface).run Tryz.prog w = .ok (.bool true) w:=fun w=>by kernel_rfl
  refine callsD_of_wpS Tryz.func18 rfl fun c₀ cs hu=>?_
  apply wpS_seq
  apply wpS_region
  simp [wpOpsS,go_sem,recoverD,hu,Tryz.ntmps18,Exit.thenS]
  refine wpS_of_wp ?_
  go_wp2_with fail
  cases c₀
  simp_all [bodyPostS,results,Tryz.results18]
theorem ten_all {cs:List Value} (h:cs.length=10):∃ c0 c1 c2 c3 c4 c5 c6 c7 c8 c9,cs=[c0,c1,c2,c3,c4,c5,c6,c7,c8,c9]:=by
  match cs,h with
  | [c0,c1,c2,c3,c4,c5,c6,c7,c8,c9],_=>exact ⟨c0,c1,c2,c3,c4,c5,c6,c7,c8,c9,rfl⟩
theorem parse_caught (b4 b5 B:Nat) (cs:List Value) (hcs:cs.length=10) (v0 v1 v2:Value) (e f t:Int) (w:World) (h4:Blk w b4 cs 29) (h5:Blk w b5 [v0,v1,v2] 32) (h45:b4≠b5) (hB4:B≤b4) (hB5:B≤b5) (hBw:B≤w.heap.size) :
    CallsD Tryz.prog 18 #[.pointer (some ⟨b4,0,none⟩),.pointer (some ⟨b5,0,none⟩)] (.panicking [{ v:=.iface 32 (synV e f t),recovered:=false }]) w fun en u' w'=>
      en = .returned (.tuple #[])∧u' = .panicking [{ v:=.iface 32 (synV e f t),recovered:=true }]∧Blk w' b4 zero10 29∧Blk w' b5 [.int .i64 e,.int .i64 f,.int .i64 t] 32∧Below B w w':=by
  have hta:∀ (w:World) (x:Value),(Instr.typeAssert (.iface 32 x) 20 32 true).run Tryz.prog w = .ok (.tuple #[x,.bool true]) w:=fun w x=>by kernel_rfl
  have hnn:∀ w v,(binOp .eql 20 (.iface 32 v) .nilIface).run Tryz.prog w = .ok (.bool false) w:=fun w v=>by kernel_rfl
  obtain ⟨w0,w1,w2,w3,w4,w5,w6,w7,w8,w9,rfl⟩:=ten_all hcs
  refine callsD_of_wpS Tryz.func18 rfl fun c₀ cs hu=>?_
  apply wpS_seq
  apply wpS_region
  simp [wpOpsS,go_sem,recoverD,hu,Tryz.ntmps18,Exit.thenS]
  rw [show (#[.pointer (some ⟨b4,0,none⟩),.pointer (some ⟨b5,0,none⟩)] ++ ((Array.replicate 11 undef).setIfInBounds 3 (.iface 32 (synV e f t))):Array Value) = #[.pointer (some ⟨b4,0,none⟩),.pointer (some ⟨b5,0,none⟩),undef,undef,undef,.iface 32 (synV e f t),undef,undef,undef,undef,undef,undef,undef] from rfl]
  refine wpS_of_wp ?_
  go_wp2_with fail
  have N:=Blk.new w [.int .i64 e,.int .i64 f,.int .i64 t] 32
  have K4:=h4.alloc (.cells #[.int .i64 e,.int .i64 f,.int .i64 t] 32)
  have K5:=h5.alloc (.cells #[.int .i64 e,.int .i64 f,.int .i64 t] 32)
  have KB:=(Below.refl B w).alloc hBw (.cells #[.int .i64 e,.int .i64 f,.int .i64 t] 32)
  have x4:w.heap.size≠b4:=by have:=h4.lt;omega
  have x5:w.heap.size≠b5:=by have:=h5.lt;omega
  have y4:=x4.symm;have y5:=x5.symm;have h54:=h45.symm
  change Blk (w.alloc (.cells #[.int .i64 e,.int .i64 f,.int .i64 t] 32)) _ _ _ at N
  generalize w.alloc (.cells #[.int .i64 e,.int .i64 f,.int .i64 t] 32)=W at N K4 K5 KB ⊢
  generalize w.heap.size=X at N x4 x5 y4 y5 ⊢
  have n0:=Blk.cell N (j:=0) rfl;have n1:=Blk.cell N (j:=1) rfl;have n2:=Blk.cell N (j:=2) rfl
  have f50:=K5.frozen 0;have f51:=K5.frozen 1;have f52:=K5.frozen 2
  have c50:=Blk.cell K5 (j:=0) rfl;have c51:=Blk.cell K5 (j:=1) rfl;have c52:=Blk.cell K5 (j:=2) rfl
  obtain ⟨c40,c41,c42,c43,c44,c45,c46,c47,c48,c49,f40,f41,f42,f43,f44,f45,f46,f47,f48,f49⟩:=K4.ten
  have HKB:=hid KB;have HN:=hid N;have HK4:=hid K4;have HK5:=hid K5
  clear N K4 K5 KB h4 h5 hta hnn
  go_region
  all_goals
    have A4:Blk ((((World.set10 W b4 (.int .i64 0) (.slice none 0 0) (.int .i32 0) (.slice none 0 0) (.int .i64 0) (.int .i64 0) (.string ⟨#[]⟩) (.int .i64 0) (.int .i64 0) (.bool false)).setCell ⟨b5,0,none⟩ (.int .i64 e)).setCell ⟨b5,1,none⟩ (.int .i64 f)).setCell ⟨b5,2,none⟩ (.int .i64 t)).drew b4 zero10 29:=Blk.drew ((((HK4.out.set10 (.int .i64 0) (.slice none 0 0) (.int .i32 0) (.slice none 0 0) (.int .i64 0) (.int .i64 0) (.string ⟨#[]⟩) (.int .i64 0) (.int .i64 0) (.bool false)).setCell_other (a:=⟨b5,0,none⟩) h45 _).setCell_other (a:=⟨b5,1,none⟩) h45 _).setCell_other (a:=⟨b5,2,none⟩) h45 _)
    have A5:Blk ((((World.set10 W b4 (.int .i64 0) (.slice none 0 0) (.int .i32 0) (.slice none 0 0) (.int .i64 0) (.int .i64 0) (.string ⟨#[]⟩) (.int .i64 0) (.int .i64 0) (.bool false)).setCell ⟨b5,0,none⟩ (.int .i64 e)).setCell ⟨b5,1,none⟩ (.int .i64 f)).setCell ⟨b5,2,none⟩ (.int .i64 t)).drew b5 [.int .i64 e,.int .i64 f,.int .i64 t] 32:=Blk.drew ((((Blk.set10_other HK5.out h54 (.int .i64 0) (.slice none 0 0) (.int .i32 0) (.slice none 0 0) (.int .i64 0) (.int .i64 0) (.string ⟨#[]⟩) (.int .i64 0) (.int .i64 0) (.bool false)).set 0 _).set 1 _).set 2 _)
    have AB:Below B w ((((World.set10 W b4 (.int .i64 0) (.slice none 0 0) (.int .i32 0) (.slice none 0 0) (.int .i64 0) (.int .i64 0) (.string ⟨#[]⟩) (.int .i64 0) (.int .i64 0) (.bool false)).setCell ⟨b5,0,none⟩ (.int .i64 e)).setCell ⟨b5,1,none⟩ (.int .i64 f)).setCell ⟨b5,2,none⟩ (.int .i64 t)).drew:=(((((((((((((HKB.out.setCell hB4 _).setCell hB4 _).setCell hB4 _).setCell hB4 _).setCell hB4 _).setCell hB4 _).setCell hB4 _).setCell hB4 _).setCell hB4 _).setCell hB4 _).setCell hB5 _).setCell hB5 _).setCell hB5 _).drew
    refine ⟨rfl,_,rfl,.tuple #[],?_,rfl,rfl,A4,A5,AB⟩
    simp [results,Tryz.results18]
theorem parse_must_ok (b2:Nat) (x:Int) (w:World):Calls Tryz.prog 19 #[.bool true,.int .i64 x,.pointer (some ⟨b2,0,none⟩)] w fun e w'=>e = .returned (.tuple #[])∧w=w':=by
  go_enter Tryz.func19, Tryz.ntmps19
  go_wp2_with fail
  exact ⟨rfl,.tuple #[],by simp [results,Tryz.results19],rfl,rfl⟩
theorem parse_must_no (b2:Nat) (s:ByteArray) (x:Int) (w:World) (h:Blk w b2 [.string s] 9):Calls Tryz.prog 19 #[.bool false,.int .i64 x,.pointer (some ⟨b2,0,none⟩)] w fun e w'=>e=synE x 0 s.size∧w=w':=by
  have c0:=Blk.cell h (j:=0) rfl
  go_enter Tryz.func19, Tryz.ntmps19
  go_wp2_with fail
  refine (syn_stop _ _ _ _).mono ?_
  rintro e w9 ⟨rfl,rfl⟩
  exact ⟨rfl,rfl,rfl⟩
end Go.Proofs.YtnhnldmldnhaoaaGreatDoor
namespace Go.Proofs.YtnhnldmldnhaoaaGreatDoor
open Go Go.RowKit Go.Proofs Go.Shelf
def DB (n:Nat):Nat:=(n+2) * (n+2)
theorem DB_succ (n:Nat):DB (n+1)=DB n+2 * n+5:=by
  unfold DB
  rw [show (n+1+2) * (n+1+2)=(n+2+1) * (n+2+1) from rfl,Nat.add_mul,Nat.mul_add,Nat.one_mul,Nat.mul_one]
  omega
theorem DB_pos (n:Nat):4≤DB n:=by
  induction n with
  | zero=>decide
  | succ n ih=>rw [DB_succ];omega
theorem depthL_append (l l':List T):depthL (l ++ l')=max (depthL l) (depthL l'):=by
  induction l with
  | nil=>simp [depthL]
  | cons t l ih=>simp only [List.cons_append,depthL,ih];omega
theorem depth_leaf (op rune:Int) (set:List (Int × Int)) (pl:Int):depth (leafT op rune set pl)=1:=by simp [leafT,depth,depthL]
theorem depth_set (l:List (Int × Int)):depth (setT l)=1:=by
  unfold setT
  split <;> exact depth_leaf _ _ _ _
theorem depth_atom (f c:Int):depth (atomT f c)=1:=by
  unfold atomT
  split
  · exact depth_set _
  · exact depth_leaf _ _ _ _
theorem depth_kids (op:Int) (l:List T):depth (kidsT op l)=depthL l+1:=by simp [kidsT,depth]
theorem depth_cat (l:List T):depth (catT l)≤depthL l+1:=by
  unfold catT
  split
  · simp [depth_leaf]
  · simp [depthL]
  · rw [depth_kids];exact Nat.le_refl _
theorem depth_rep (op:Int) (k:T) (mn mx:Int) (lz:Bool):depth (repT op k mn mx lz)=depth k+1:=by simp [repT,depth,depthL]
theorem depth_cap (k:T) (n:Nat) (nm:ByteArray):depth (capT k n nm)=depth k+1:=by simp [capT,depth,depthL]
theorem depth_text (f:Int) (s:ByteArray):depthL (runesT f s)≤1:=by
  unfold runesT
  generalize runesL s=l
  induction l with
  | nil=>simp [depthL]
  | cons c l ih=>rw [List.map_cons,depthL,depth_atom];omega
theorem depthL_one (t:T):depthL [t]=depth t:=by simp [depthL]
def DepT (k:Nat):PR T→Prop
  | .ok t _=>depth t≤k
  | _=>True
def DepL (k:Nat):PR (List T)→Prop
  | .ok l _=>depthL l≤k
  | _=>True
theorem escapeP_dep (s:ByteArray) (st:St):DepL 1 (escapeP s st):=by
  unfold escapeP
  cases escP s st.p (onB st.f 32) with
  | wrong e f t=>trivial
  | set g q=>show depthL [setT _]≤1;rw [depthL_one,depth_set];exact Nat.le_refl _
  | lit k r a q=>
    simp only
    split
    · show depthL [atomT _ _]≤1;rw [depthL_one,depth_atom];exact Nat.le_refl _
    split
    · show depthL [leafT _ _ _ _]≤1;rw [depthL_one,depth_leaf];exact Nat.le_refl _
    · exact depth_text _ _
structure SynDep (s:ByteArray) (n:Nat):Prop where
  parts:∀ st,DepT (DB n) (partsP s n st)
  alt:∀ st l,DepT (max (depthL l) (DB n+n+1)+1) (altP s n st l)
  part:∀ st l,DepT (max (depthL l) (DB n)+n+1) (partP s n st l)
  atoms:∀ st,DepL (DB n) (atomsP s n st)
  op:∀ st,DepL (DB n) (openP s n st)
  group:∀ st nm,DepT (DB n) (groupP s n st nm)
  close:∀ st,DepT (DB n) (closeP s n st)
theorem DepT.mono {k k':Nat} {r:PR T} (h:DepT k r) (hk:k≤k'):DepT k' r:=by
  cases r with
  | ok t st=>exact Nat.le_trans h hk
  | _=>trivial
theorem DepL.mono {k k':Nat} {r:PR (List T)} (h:DepL k r) (hk:k≤k'):DepL k' r:=by
  cases r with
  | ok t st=>exact Nat.le_trans h hk
  | _=>trivial
theorem dropLast_dep (l:List T):depthL l.dropLast≤depthL l:=by
  rw [List.dropLast_eq_take]
  exact depthL_take_le l _
theorem getLast_dep {l:List T} {k:T} (h:l.getLast? = some k):depth k≤depthL l:=by
  obtain ⟨l',rfl⟩:=List.getLast?_eq_some_iff.1 h
  rw [depthL_append,depthL_one]
  omega
theorem syn_dep (s:ByteArray):∀ n,SynDep s n
  | 0=>by
    refine ⟨fun _=>?_,fun _ _=>?_,fun _ _=>?_,fun _=>?_,fun _=>?_,fun _ _=>?_,fun _=>?_⟩
    · unfold partsP;trivial
    · unfold altP;trivial
    · unfold partP;trivial
    · unfold atomsP;trivial
    · unfold openP;trivial
    · unfold groupP;trivial
    · unfold closeP;trivial
  | n+1=>by
    have ih:=syn_dep s n
    have hB:=DB_succ n
    have hp:=DB_pos n
    refine ⟨?_,?_,?_,?_,?_,?_,?_⟩
    · intro st
      unfold partsP
      have h:=ih.part st []
      cases hx:partP s n st [] with
      | out=>trivial
      | wrong e f t=>trivial
      | ok t st'=>
        rw [hx] at h
        have h1:depth t≤max (depthL []) (DB n)+n+1:=h
        refine (ih.alt st' [t]).mono ?_
        rw [depthL_one]
        simp only [depthL] at h1
        omega
    · intro st l
      unfold altP
      split
      · have h:=ih.part { st with p:=st.p+1 } []
        cases hx:partP s n { st with p:=st.p+1 } [] with
        | out=>trivial
        | wrong e f t=>trivial
        | ok t st'=>
          rw [hx] at h
          have h1:depth t≤max (depthL []) (DB n)+n+1:=h
          refine (ih.alt st' (l ++ [t])).mono ?_
          rw [depthL_append,depthL_one]
          simp only [depthL] at h1
          omega
      · split
        · rename_i t
          show depth t≤_
          rw [depthL_one];omega
        · show depth (kidsT 12 _)≤_
          rw [depth_kids];omega
    · intro st l
      unfold partP
      split
      · exact Nat.le_trans (depth_cat l) (by omega)
      · cases hsg:signP s st.p with
        | mk o q=>
          cases o with
          | none=>
            have h:=ih.atoms st
            simp only
            cases hx:atomsP s n st with
            | out=>trivial
            | wrong e f t=>trivial
            | ok us st'=>
              rw [hx] at h
              have h1:depthL us≤DB n:=h
              refine (ih.part st' (l ++ us)).mono ?_
              rw [depthL_append];omega
          | some x=>
            obtain ⟨op,mn,mx⟩:=x
            simp only
            cases hl:l.getLast? with
            | none=>trivial
            | some k=>
              have hk:=getLast_dep hl
              simp only
              cases hr:repeatP s st.p q st.f op mn mx with
              | error e=>trivial
              | ok z=>
                obtain ⟨lz,q'⟩:=z
                simp only
                refine (ih.part _ _).mono ?_
                have:=dropLast_dep l
                rw [depthL_append,depthL_one,depth_rep];omega
    · intro st
      have h1:DepL (DB (n+1)) (.ok [setT (dotL st.f)] { st with p:=nextW s st.p }):=by show depthL [setT _]≤_;rw [depthL_one,depth_set];omega
      have h2:∀ pl:Int,DepL (DB (n+1)) (.ok [leafT 5 0 [] pl] { st with p:=nextW s st.p }):=fun pl=>by show depthL [leafT _ _ _ _]≤_;rw [depthL_one,depth_leaf];omega
      have h3:DepL (DB (n+1)) (.ok [atomT st.f (nextC s st.p)] { st with p:=nextW s st.p }):=by show depthL [atomT _ _]≤_;rw [depthL_one,depth_atom];omega
      unfold atomsP
      split
      · exact (ih.op st).mono (by omega)
      split
      · exact (escapeP_dep s st).mono (by omega)
      split
      · split
        · trivial
        · show depthL [setT _]≤_;rw [depthL_one,depth_set];omega
      split
      · exact h1
      split
      · exact h2 _
      split
      · exact h2 _
      · exact h3
    · intro st
      unfold openP
      split
      · split
        · split
          · trivial
          · split
            · trivial
            · rename_i nm q _ _
              have h:=ih.group { st with p:=q } nm
              cases hx:groupP s n { st with p:=q } nm with
              | out=>trivial
              | wrong e f t=>trivial
              | ok t st'=>
                rw [hx] at h
                show depthL [t]≤_
                rw [depthL_one]
                have h1:depth t≤DB n:=h
                omega
        · split
          · trivial
          · rename_i g grp q _
            split
            · have h:=ih.close { st with p:=q,f:=g }
              cases hx:closeP s n { st with p:=q,f:=g } with
              | out=>trivial
              | wrong e f t=>trivial
              | ok t st'=>
                rw [hx] at h
                show depthL [t]≤_
                rw [depthL_one]
                have h1:depth t≤DB n:=h
                omega
            · show depthL []≤_
              simp [depthL]
      · have h:=ih.group { st with p:=st.p+1 } ⟨#[]⟩
        cases hx:groupP s n { st with p:=st.p+1 } ⟨#[]⟩ with
        | out=>trivial
        | wrong e f t=>trivial
        | ok t st'=>
          rw [hx] at h
          show depthL [t]≤_
          rw [depthL_one]
          have h1:depth t≤DB n:=h
          omega
    · intro st nm
      unfold groupP
      have h:=ih.close { st with ns:=st.ns ++ [nm] }
      cases hx:closeP s n { st with ns:=st.ns ++ [nm] } with
      | out=>trivial
      | wrong e f t=>trivial
      | ok t st'=>
        rw [hx] at h
        have h1:depth t≤DB n:=h
        show depth (capT _ _ _)≤_
        rw [depth_cap];omega
    · intro st
      unfold closeP
      have h:=ih.parts st
      cases hx:partsP s n st with
      | out=>trivial
      | wrong e f t=>trivial
      | ok t st'=>
        rw [hx] at h
        have h1:depth t≤DB n:=h
        simp only
        split
        · show depth t≤_;omega
        · trivial
theorem whole_dep (s:ByteArray) (f:Int) (hs:s.size≤1024):DepT 1000000000 (wholeP s f):=by
  unfold wholeP
  split
  · have:=depth_text f s
    exact Nat.le_trans (depth_cat _) (by omega)
  · have h:=(syn_dep s (8 * s.size+8)).parts ⟨0,f,[]⟩
    cases hx:partsP s (8 * s.size+8) ⟨0,f,[]⟩ with
    | out=>trivial
    | wrong e f t=>trivial
    | ok t st=>
      rw [hx] at h
      have h1:depth t≤DB (8 * s.size+8):=h
      simp only
      split
      · trivial
      · show depth t≤_
        refine Nat.le_trans h1 ?_
        unfold DB
        exact Nat.le_trans (Nat.mul_le_mul (show 8 * s.size+8+2≤8202 by omega) (show 8 * s.size+8+2≤8202 by omega)) (by decide)
end Go.Proofs.YtnhnldmldnhaoaaGreatDoor
namespace Go.Proofs.YtnhnldmldnhaoaaGreatDoor
open Go Go.RowKit Go.Proofs
theorem depth_wide (t:T):∀ (cs:List Value) (B:Nat) (w:World),TreeV w B t cs→B≤w.heap.size→depth t≤1000000000→
    Calls Tryz.prog 22 #[.agg cs.toArray] w fun e w'=>e = .returned (.int .i64 (depth t))∧Below w.heap.size w w':=by
  induction t using T.ind with
  | h op kids rune set pl cap name mn mx lz ih=>
    intro cs B w h hB hd
    obtain ⟨ka,kn,kc,sa,sn,sc,rfl,⟨rfl,h2,h3⟩,h4⟩:=h.open
    have IH:=hid ih;clear ih
    have H3:=hid h3;clear h3
    clear h h4
    have hd0:depth (.mk op kids rune set pl cap name mn mx lz)=depthL kids+1:=by simp [depth]
    rw [hd0] at hd ⊢
    clear hd0
    go_enter Tryz.func22, Tryz.ntmps22
    go_wp2_with fail
    go_loopw [3,9] (fun n i wr=>∃ k:Nat,k≤kids.length∧i = .int .i64 k∧n = .int .i64 (depthL (kids.take k))∧Below w.heap.size w wr) (fun _ i _=>kids.length - (intOf i).toNat)
    case atStart=>exact ⟨0,Nat.zero_le _,rfl,by simp [depthL],(Below.refl _ _).alloc (Nat.le_refl _) _⟩
    case round=>
      obtain ⟨k,hk,rfl,rfl,hb⟩:=hrel
      by_cases hlt:k < kids.length
      · rcases H3.out with h0 | ⟨b,o,rfl,hbB,hK⟩
        · omega
        obtain ⟨cs,hc,hr⟩:=(hK.get k hlt)
        have hc':=hc.below (hb.mono hB)
        have hr':=hr.below (hb.mono hB) hbB
        have IHk:=hid (IH.out _ (List.getElem_mem hlt) cs B)
        obtain ⟨op1,ka1,kn1,kc1,rune1,sa1,sn1,sc1,pl1,cap1,name1,mn1,mx1,lz1,rfl⟩:=hc.form
        obtain ⟨g0,g1,g2,g3,g4,g5,g6,g7,g8,g9⟩:=hr'.ten
        have HC:=hid hc'
        have HB:=hid hb
        have HS:=hid hb.size
        clear hr hr' hc hc'
        go_wp2_with fail
        refine (IHk.out _ (HC.out.below ((Below.refl _ _).alloc (Nat.le_trans hB HS.out) _)) (by simp only [World.size_alloc];have:=HS.out;omega) ?hd).mono ?_
        case hd=>have:=depth_le_depthL hlt;omega
        rintro e w2 ⟨rfl,hb2⟩
        have HB2:=hid hb2;clear hb2
        have hq:=depthL_take_succ kids k hlt
        have HQ:=hid hq;clear hq
        go_wp2_with fail
        go_roundw
        case rel=>
          refine ⟨k+1,hlt,by go_num,?_,?_⟩
          · rw [HQ.out];go_num
          · exact (HB.out.alloc HS.out _).trans (HB2.out.mono (by simp only [World.size_alloc];have:=HS.out;omega))
        case measure=>simp [intOf];omega
      · have hk':k=kids.length:=by omega
        have ht:=depthL_take_le kids k
        have hq:depthL (kids.take k)=depthL kids:=by rw [hk',List.take_length]
        have HQ:=hid hq;clear hq
        have HK:=hid hk';clear hk'
        go_wp2_with fail
        go_ret
        exact ⟨by rw [HQ.out];go_num,hb⟩
end Go.Proofs.YtnhnldmldnhaoaaGreatDoor
namespace Go.Proofs.YtnhnldmldnhaoaaGreatDoor
open Go Go.RowKit Go.Proofs Go.Shelf
noncomputable def parseP (s:ByteArray) (f:Int):Except (Int × Int × Int) T:=
  if ¬ (0≤f∧f≤63) then .error (1,0,s.size)
  else if ¬ s.size≤1024 then .error (2,0,s.size)
  else if ¬ Lib.validD s.data.toList=true then .error (81,0,s.size)
  else match wholeP s f with
  | .out=>.error (0,0,0)
  | .wrong x a d=>.error (x,a,d)
  | .ok t _=>if 50 < depth t then .error (86,0,s.size) else if 4000 < weight t then .error (87,0,s.size) else .ok t
def ParseOut (w:World) (r:Except (Int × Int × Int) T) (e:Ending) (w':World):Prop:=Below w.heap.size w w'∧match r with
  | .error (x,a,d)=>e = .returned (.tuple #[.agg zero10.toArray,.agg #[.int .i64 x,.int .i64 a,.int .i64 d]])
  | .ok t=>∃ cs,e = .returned (.tuple #[.agg cs.toArray,.agg #[.int .i64 0,.int .i64 0,.int .i64 0]])∧TreeF w' (fun k=>Fresh w w' k) t cs
structure ParseAt (w W:World) (s:ByteArray) (cs:List Value):Prop where
  k2:Blk W w.heap.size [.string s] 9
  k4:Blk W (w.heap.size+1) cs 29
  k5:Blk W (w.heap.size+1+1) [.int .i64 0,.int .i64 0,.int .i64 0] 32
  bl:Below w.heap.size w W
theorem ParseAt.start (w:World) (s:ByteArray):ParseAt w (((w.alloc (.cells #[.string s] 9)).alloc (.cells zero10.toArray 29)).alloc (.cells #[.int .i64 0,.int .i64 0,.int .i64 0] 32)) s zero10:=by
  have z1:(w.alloc (.cells #[.string s] 9)).heap.size=w.heap.size+1:=World.size_alloc _ _
  have z2:((w.alloc (.cells #[.string s] 9)).alloc (.cells zero10.toArray 29)).heap.size=w.heap.size+1+1:=by rw [World.size_alloc,z1]
  refine ⟨((Blk.new w [.string s] 9).alloc _).alloc _,?_,?_,?_⟩
  · rw [← z1];exact (Blk.new _ zero10 29).alloc _
  · rw [← z2];exact Blk.new _ [.int .i64 0,.int .i64 0,.int .i64 0] 32
  · exact (((Below.refl _ w).alloc (Nat.le_refl _) _).alloc (by simp) _).alloc (by simp;omega) _
theorem ParseAt.below {w W W':World} {s:ByteArray} {cs:List Value} (h:ParseAt w W s cs) (hB:Below W.heap.size W W'):ParseAt w W' s cs:=
  ⟨Blk.below h.k2 hB h.k2.lt,Blk.below h.k4 hB h.k4.lt,Blk.below h.k5 hB h.k5.lt,below_then h.bl hB⟩
theorem ParseAt.grownF {w W W':World} {s:ByteArray} {cs:List Value} {F:Nat→Prop} (h:ParseAt w W s cs) (hg:GrownF F W W') (hF:∀ k,F k→w.heap.size+1+1 < k):ParseAt w W' s cs:=
  ⟨h.k2.grownF hg (fun e=>by have:=hF _ e;omega),h.k4.grownF hg (fun e=>by have:=hF _ e;omega),h.k5.grownF hg (fun e=>by have:=hF _ e;omega),h.bl.trans (hg.below (by have:=h.k2.lt;omega) (fun k hk e=>by have:=hF _ e;omega))⟩
theorem parse_panics {w W:World} {s:ByteArray} {cs:List Value} (A:ParseAt w W s cs) (hcs:cs.length=10) (x a b:Int) (tmps:Array Value) (ht4:tmps.getD 4 undef = .pointer (some ⟨w.heap.size+1,0,none⟩)) (ht5:tmps.getD 5 undef = .pointer (some ⟨w.heap.size+1+1,0,none⟩)) :
    Leaves Tryz.prog Tryz.f10 tmps (ParseOut w (.error (x,a,b))) [{ target:=.fn (.func 18) #[.pointer (some ⟨w.heap.size+1,0,none⟩),.pointer (some ⟨w.heap.size+1+1,0,none⟩)],args:=#[] }] (.panicking [{ v:=.iface 32 (synV x a b),recovered:=false }]) W:=by
  refine leaves_cons (by simp) (f:=18) (args:=#[.pointer (some ⟨w.heap.size+1,0,none⟩),.pointer (some ⟨w.heap.size+1+1,0,none⟩)]) (by simp [go_sem]) ?_
  refine (parse_caught (w.heap.size+1) (w.heap.size+1+1) w.heap.size cs hcs _ _ _ x a b W A.k4 A.k5 (by omega) (by omega) (by omega) (by have:=A.k2.lt;omega)).mono ?_
  rintro e u w' ⟨rfl,rfl,h4,h5,hB⟩
  obtain ⟨d0,d1,d2,d3,d4,d5,d6,d7,d8,d9,_,_,_,_,_,_,_,_,_,_⟩:=h4.ten
  have e0:=Blk.cell h5 (j:=0) rfl
  have e1:=Blk.cell h5 (j:=1) rfl
  have e2:=Blk.cell h5 (j:=2) rfl
  refine ⟨.tuple #[.agg zero10.toArray,.agg #[.int .i64 x,.int .i64 a,.int .i64 b]],?_,A.bl.trans hB,rfl⟩
  simp only [Array.getD_eq_getD_getElem?] at ht4 ht5
  simp [results,Tryz.results10,go_sem,ht4,ht5,d0,d1,d2,d3,d4,d5,d6,d7,d8,d9,e0,e1,e2,Array.getD_eq_getD_getElem?]
theorem ParseAt.set {w W:World} {s:ByteArray} {c0 c1 c2 c3 c4 c5 c6 c7 c8 c9:Value} (h:ParseAt w W s [c0,c1,c2,c3,c4,c5,c6,c7,c8,c9]) (v0 v1 v2 v3 v4 v5 v6 v7 v8 v9:Value):ParseAt w (World.set10 W (w.heap.size+1) v0 v1 v2 v3 v4 v5 v6 v7 v8 v9) s [v0,v1,v2,v3,v4,v5,v6,v7,v8,v9]:=
  ⟨Blk.set10_other h.k2 (by omega) _ _ _ _ _ _ _ _ _ _,h.k4.set10 _ _ _ _ _ _ _ _ _ _,Blk.set10_other h.k5 (by omega) _ _ _ _ _ _ _ _ _ _,below_next h.bl (by have:=h.k2.lt;omega) (grownBy_set10 _ _ _ _ _ _ _ _ _ _ _ _) (fun k e=>by cases e;omega)⟩
def World.lastP (W w:World) (v0 v1 v2 v3 v4 v5 v6 v7 v8 v9:Value):World:=((((World.set10 W (w.heap.size+1) v0 v1 v2 v3 v4 v5 v6 v7 v8 v9).setCell ⟨w.heap.size+1+1,0,none⟩ (.int .i64 0)).setCell ⟨w.heap.size+1+1,1,none⟩ (.int .i64 0)).setCell ⟨w.heap.size+1+1,2,none⟩ (.int .i64 0)).drew
theorem lastP_block (W w:World) (v0 v1 v2 v3 v4 v5 v6 v7 v8 v9:Value) (k:Nat) (hk:w.heap.size+1+1 < k):(World.lastP W w v0 v1 v2 v3 v4 v5 v6 v7 v8 v9).heap[k]? = W.heap[k]?:=by
  have h1:=set10_block W (w.heap.size+1) v0 v1 v2 v3 v4 v5 v6 v7 v8 v9 k (by omega)
  unfold World.lastP
  generalize World.set10 W (w.heap.size+1) v0 v1 v2 v3 v4 v5 v6 v7 v8 v9=V at h1 ⊢
  show (((V.setCell ⟨w.heap.size+1+1,0,none⟩ (.int .i64 0)).setCell ⟨w.heap.size+1+1,1,none⟩ (.int .i64 0)).setCell ⟨w.heap.size+1+1,2,none⟩ (.int .i64 0)).heap[k]? = _
  iterate 3 rw [Below.heap_setCell _ _ _ k (by show k≠w.heap.size+1+1;omega)]
  exact h1
theorem lastP_size (W w:World) (v0 v1 v2 v3 v4 v5 v6 v7 v8 v9:Value):(World.lastP W w v0 v1 v2 v3 v4 v5 v6 v7 v8 v9).heap.size=W.heap.size:=by simp [World.lastP,World.set10,World.setCell]
theorem ParseAt.last {w W:World} {s:ByteArray} {c0 c1 c2 c3 c4 c5 c6 c7 c8 c9:Value} (h:ParseAt w W s [c0,c1,c2,c3,c4,c5,c6,c7,c8,c9]) (v0 v1 v2 v3 v4 v5 v6 v7 v8 v9:Value):ParseAt w (World.lastP W w v0 v1 v2 v3 v4 v5 v6 v7 v8 v9) s [v0,v1,v2,v3,v4,v5,v6,v7,v8,v9]:=by
  have h1:=h.set v0 v1 v2 v3 v4 v5 v6 v7 v8 v9
  have e1:w.heap.size≠w.heap.size+1+1:=by omega
  have e2:w.heap.size+1≠w.heap.size+1+1:=by omega
  unfold World.lastP
  generalize World.set10 W (w.heap.size+1) v0 v1 v2 v3 v4 v5 v6 v7 v8 v9=V at h1 ⊢
  have a2:=((h1.k2.setCell_other (a:=⟨w.heap.size+1+1,0,none⟩) e1 (.int .i64 0)).setCell_other (a:=⟨w.heap.size+1+1,1,none⟩) e1 (.int .i64 0)).setCell_other (a:=⟨w.heap.size+1+1,2,none⟩) e1 (.int .i64 0)
  have a4:=((h1.k4.setCell_other (a:=⟨w.heap.size+1+1,0,none⟩) e2 (.int .i64 0)).setCell_other (a:=⟨w.heap.size+1+1,1,none⟩) e2 (.int .i64 0)).setCell_other (a:=⟨w.heap.size+1+1,2,none⟩) e2 (.int .i64 0)
  have a5:=((h1.k5.set 0 (.int .i64 0)).set 1 (.int .i64 0)).set 2 (.int .i64 0)
  have a6:Below w.heap.size w (((V.setCell ⟨w.heap.size+1+1,0,none⟩ (.int .i64 0)).setCell ⟨w.heap.size+1+1,1,none⟩ (.int .i64 0)).setCell ⟨w.heap.size+1+1,2,none⟩ (.int .i64 0)):=
    ((h1.bl.setCell (show w.heap.size≤w.heap.size+1+1 by omega) _).setCell (show w.heap.size≤w.heap.size+1+1 by omega) _).setCell (show w.heap.size≤w.heap.size+1+1 by omega) _
  exact ⟨Blk.drew a2,Blk.drew a4,Blk.drew a5,a6.drew⟩
theorem parse_done {w W:World} {s:ByteArray} {op:Int} {ka:Option Addr} {kn kc:Nat} {rune:Int} {xa:Option Addr} {xn xc:Nat} {pl cap:Int} {name:ByteArray} {mn mx:Int} {lz:Bool} (A:ParseAt w W s [.int .i64 op,.slice ka kn kc,.int .i32 rune,.slice xa xn xc,.int .i64 pl,.int .i64 cap,.string name,.int .i64 mn,.int .i64 mx,.bool lz]) {t:T} (hT:TreeF W (fun k=>Fresh w W k) t [.int .i64 op,.slice ka kn kc,.int .i32 rune,.slice xa xn xc,.int .i64 pl,.int .i64 cap,.string name,.int .i64 mn,.int .i64 mx,.bool lz]) (tmps:Array Value) (ht4:tmps.getD 4 undef = .pointer (some ⟨w.heap.size+1,0,none⟩)) (ht5:tmps.getD 5 undef = .pointer (some ⟨w.heap.size+1+1,0,none⟩)) :
    Leaves Tryz.prog Tryz.f10 tmps (ParseOut w (.ok t)) [{ target:=.fn (.func 18) #[.pointer (some ⟨w.heap.size+1,0,none⟩),.pointer (some ⟨w.heap.size+1+1,0,none⟩)],args:=#[] }] .returning W:=by
  refine leaves_cons (by simp) (f:=18) (args:=#[.pointer (some ⟨w.heap.size+1,0,none⟩),.pointer (some ⟨w.heap.size+1+1,0,none⟩)]) (by simp [go_sem]) ?_
  refine (parse_idle _ _ W).mono ?_
  rintro e u w' ⟨rfl,rfl,rfl⟩
  obtain ⟨d0,d1,d2,d3,d4,d5,d6,d7,d8,d9,_,_,_,_,_,_,_,_,_,_⟩:=A.k4.ten
  have e0:=Blk.cell A.k5 (j:=0) rfl
  have e1:=Blk.cell A.k5 (j:=1) rfl
  have e2:=Blk.cell A.k5 (j:=2) rfl
  refine ⟨.tuple #[.agg #[.int .i64 op,.slice ka kn kc,.int .i32 rune,.slice xa xn xc,.int .i64 pl,.int .i64 cap,.string name,.int .i64 mn,.int .i64 mx,.bool lz],.agg #[.int .i64 0,.int .i64 0,.int .i64 0]],?_,A.bl,_,rfl,hT⟩
  simp only [Array.getD_eq_getD_getElem?] at ht4 ht5
  simp [results,Tryz.results10,go_sem,ht4,ht5,d0,d1,d2,d3,d4,d5,d6,d7,d8,d9,e0,e1,e2,Array.getD_eq_getD_getElem?]
theorem syn_parse (s:ByteArray) (f:Int) (w:World) (hTM:TabsM w) (hs:s.size≤1000000000000000) (hA:s.size≤1024→∀ n,AllC s n) :
    Calls Tryz.prog 10 #[.string s,.int .i64 f] w (ParseOut w (parseP s f)):=by
  obtain ⟨R,hR⟩:∃ R,R=parseP s f:=⟨_,rfl⟩
  rw [← hR]
  unfold parseP at hR
  have HR:=hid hR
  have HA:=hid hA
  obtain ⟨hT,hM⟩:=hTM
  have HT:=hid hT;have HM:=hid hM
  have A0:=hid (ParseAt.start w s)
  have hlt:=hT.lt
  have hlm:=hM.lt
  clear hR hA hT hM
  go_enter_defers Tryz.func10, Tryz.ntmps10
  by_cases c1:0≤f
  rotate_left
  · have hRe:R = .error (1,0,s.size):=by rw [HR.out,if_pos (fun h=>c1 h.1)]
    clear HR
    subst hRe
    go_wp2_with fail
    refine (parse_must_no w.heap.size s 1 _ A0.out.k2).mono ?_
    rintro e w1 ⟨rfl,rfl⟩
    exact parse_panics A0.out rfl 1 0 s.size _ (by rfl) (by rfl)
  by_cases c2:f≤63
  rotate_left
  · have hRe:R = .error (1,0,s.size):=by rw [HR.out,if_pos (fun h=>c2 h.2)]
    clear HR
    subst hRe
    go_wp2_with fail
    refine (parse_must_no w.heap.size s 1 _ A0.out.k2).mono ?_
    rintro e w1 ⟨rfl,rfl⟩
    exact parse_panics A0.out rfl 1 0 s.size _ (by rfl) (by rfl)
  go_wp2_with fail
  refine (parse_must_ok w.heap.size 1 _).mono ?_
  rintro e w1 ⟨rfl,rfl⟩
  have q2:=Blk.cell A0.out.k2 (j:=0) rfl
  have T0:=hid (HT.out.below A0.out.bl)
  generalize hW:((w.alloc (.cells #[.string s] 9)).alloc (.cells zero10.toArray 29)).alloc (.cells #[.int .i64 0,.int .i64 0,.int .i64 0] 32)=W at A0 q2 T0 ⊢
  clear hW
  by_cases c3:s.size≤1024
  rotate_left
  · have hRe:R = .error (2,0,s.size):=by rw [HR.out,if_neg (by simp [c1,c2]),if_pos c3]
    clear HR
    subst hRe
    have c4:decide ((s.size:Int)≤1024)=false:=by simp only [decide_eq_false_iff_not];omega
    go_wp2_with fail
    refine (parse_must_no w.heap.size s 2 _ A0.out.k2).mono ?_
    rintro e w1 ⟨rfl,rfl⟩
    exact parse_panics A0.out rfl 2 0 s.size _ (by rfl) (by rfl)
  have c4:(s.size:Int)≤1024:=by omega
  go_wp2_with fail
  refine (parse_must_ok w.heap.size 2 _).mono ?_
  rintro e w1 ⟨rfl,rfl⟩
  go_wp2_with fail
  refine (Any.utf8_ValidString Tryz.laysValid s _ (by omega) T0.out).mono ?_
  rintro e w2 ⟨rfl,hB⟩
  have A2:=hid (A0.out.below hB)
  have T2:=hid (T0.out.below hB)
  clear hB q2
  have q2:=Blk.cell A2.out.k2 (j:=0) rfl
  cases hv:Lib.validD s.data.toList with
  | false=>
    have hRe:R = .error (81,0,s.size):=by rw [HR.out,if_neg (by simp [c1,c2]),if_neg (by simp [c3]),if_pos (by simp [hv])]
    clear HR
    subst hRe
    go_wp2_with fail
    refine (parse_must_no w.heap.size s 81 _ A2.out.k2).mono ?_
    rintro e w1 ⟨rfl,rfl⟩
    exact parse_panics A2.out rfl 81 0 s.size _ (by rfl) (by rfl)
  | true=>
    have hRe:=HR.out
    rw [if_neg (by simp [c1,c2]),if_neg (by simp [c3]),if_neg (by simp [hv])] at hRe
    have HRE:=hid hRe
    clear hRe HR
    have hz2:w.heap.size+1+1 < w2.heap.size:=A2.out.k5.lt
    have IN:=hid (show SynIn (w2.alloc (.cells #[.int .i64 f,.string s,.int .i64 0,.slice none 0 0] 52)) w2.heap.size w.heap.size s ⟨0,f,[]⟩ (.slice none 0 0) from
      ⟨Blk.new w2 [.int .i64 f,.string s,.int .i64 0,.slice none 0 0] 52,World.ownsRow_nil _ _ _ _,(by intro e;cases e),by omega,⟨T2.out.below ((Below.refl _ w2).alloc (Nat.le_refl _) _),hlt.1,hlt.2,by rw [World.size_alloc];omega,(HM.out.below A2.out.bl).below ((Below.refl _ w2).alloc (Nat.le_refl _) _),hlm⟩,Nat.zero_le _,by simpa [Bd] using hv,Nat.zero_le _⟩)
    have A3:=hid (A2.out.below ((Below.refl _ w2).alloc (Nat.le_refl _) (.cells #[.int .i64 f,.string s,.int .i64 0,.slice none 0 0] 52)))
    have hdep:=whole_dep s f c3
    have HD:=hid hdep
    clear hdep
    go_wp2_with fail
    refine (parse_must_ok w.heap.size 81 _).mono ?_
    rintro e w1 ⟨rfl,rfl⟩
    go_wp2_with fail
    refine (syn_whole w2.heap.size w.heap.size s f _ _ IN.out (by omega) (HA.out c3)).mono ?_
    cases hx:wholeP s f with
    | out=>exact fun e w' h=>h.elim
    | wrong x a d=>
      rintro e w4 ⟨rfl,hg⟩
      have hRe:=HRE.out
      rw [hx] at hRe
      simp only at hRe
      subst hRe
      exact parse_panics (A3.out.grownF hg (fun k hk=>by rcases hk with rfl | h2;omega;cases h2)) rfl x a d _ (by rfl) (by rfl)
    | ok t st=>
      rintro e w4 ⟨cs,nv',rfl,hTr,hL⟩
      have hRe:=HRE.out
      have hdp:=HD.out
      rw [hx] at hRe hdp
      simp only at hRe
      have hdp':depth t≤1000000000:=hdp
      have HRR:=hid hRe
      clear hRe hdp
      have A4:=hid (A3.out.grownF hL.g (fun k hk=>by rcases hk with rfl | h2;omega;cases h2))
      obtain ⟨op,ka,kn,kc,rune,xa,xn,xc,pl,cap,name,mn,mx,lz,rfl⟩:=hTr.form
      have T4:=hid (hL.i.e.t)
      have TT:=hid hTr
      clear hTr hL
      obtain ⟨c40,c41,c42,c43,c44,c45,c46,c47,c48,c49,f40,f41,f42,f43,f44,f45,f46,f47,f48,f49⟩:=A4.out.k4.ten
      have A5:=hid (A4.out.set (.int .i64 op) (.slice ka kn kc) (.int .i32 rune) (.slice xa xn xc) (.int .i64 pl) (.int .i64 cap) (.string name) (.int .i64 mn) (.int .i64 mx) (.bool lz))
      have T5:=hid (show TreeF (World.set10 w4 (w.heap.size+1) (.int .i64 op) (.slice ka kn kc) (.int .i32 rune) (.slice xa xn xc) (.int .i64 pl) (.int .i64 cap) (.string name) (.int .i64 mn) (.int .i64 mx) (.bool lz)) (fun k=>w2.heap.size≤k∧k < w4.heap.size) t _ from
        TT.out.turned (fun k hk=>set10_block _ _ _ _ _ _ _ _ _ _ _ _ k (by have:=hk.1.1;rw [World.size_alloc] at this;omega)) (fun k hk=>⟨by have:=hk.1.1;rw [World.size_alloc] at this;omega,hk.1.2⟩))
      have Z5:=hid (show (World.set10 w4 (w.heap.size+1) (.int .i64 op) (.slice ka kn kc) (.int .i32 rune) (.slice xa xn xc) (.int .i64 pl) (.int .i64 cap) (.string name) (.int .i64 mn) (.int .i64 mx) (.bool lz)).heap.size=w4.heap.size by simp [World.set10,World.setCell])
      clear q2
      generalize hX:World.set10 w4 (w.heap.size+1) (.int .i64 op) (.slice ka kn kc) (.int .i32 rune) (.slice xa xn xc) (.int .i64 pl) (.int .i64 cap) (.string name) (.int .i64 mn) (.int .i64 mx) (.bool lz)=X at A5 T5 Z5
      have HX:=hid hX
      clear hX
      obtain ⟨d0,d1,d2,d3,d4,d5,d6,d7,d8,d9,f0,f1,f2,f3,f4,f5,f6,f7,f8,f9⟩:=A5.out.k4.ten
      have x2:=Blk.cell A5.out.k2 (j:=0) rfl
      go_wp2_with fail
      change Calls _ _ _ (World.set10 w4 (w.heap.size+1) (.int .i64 op) (.slice ka kn kc) (.int .i32 rune) (.slice xa xn xc) (.int .i64 pl) (.int .i64 cap) (.string name) (.int .i64 mn) (.int .i64 mx) (.bool lz)) _
      rw [HX.out]
      refine (depth_wide t _ X.heap.size X (T5.out.treeV (fun k hk=>by rw [Z5.out];exact hk.2)) (Nat.le_refl _) hdp').mono ?_
      rintro e w6 ⟨rfl,hB⟩
      have A6:=hid (A5.out.below hB)
      have T6:=hid (T5.out.turned (ok':=fun k=>w2.heap.size≤k∧k < w6.heap.size) (fun k hk=>hB.block k (by rw [Z5.out];exact hk.2)) (fun k hk=>⟨hk.1,Nat.lt_of_lt_of_le hk.2 (by rw [← Z5.out];exact hB.size)⟩))
      clear hB d0 d1 d2 d3 d4 d5 d6 d7 d8 d9 f0 f1 f2 f3 f4 f5 f6 f7 f8 f9 c40 c41 c42 c43 c44 c45 c46 c47 c48 c49 f40 f41 f42 f43 f44 f45 f46 f47 f48 f49 x2
      by_cases c5:depth t≤50
      rotate_left
      · have hRe:R = .error (86,0,s.size):=by rw [HRR.out,if_pos (by omega)]
        subst hRe
        have c6:decide ((depth t:Int)≤50)=false:=by simp only [decide_eq_false_iff_not];omega
        go_wp2_with fail
        refine (parse_must_no w.heap.size s 86 _ A6.out.k2).mono ?_
        rintro e w1 ⟨rfl,rfl⟩
        exact parse_panics A6.out rfl 86 0 s.size _ (by rfl) (by rfl)
      have c6:(depth t:Int)≤50:=by omega
      obtain ⟨d0,d1,d2,d3,d4,d5,d6,d7,d8,d9,f0,f1,f2,f3,f4,f5,f6,f7,f8,f9⟩:=A6.out.k4.ten
      go_wp2_with fail
      refine (parse_must_ok w.heap.size 86 _).mono ?_
      rintro e w1 ⟨rfl,rfl⟩
      go_wp2_with fail
      refine (weight_any t _ w6.heap.size w6 (T6.out.treeV (fun k hk=>hk.2)) (Nat.le_refl _)).mono ?_
      rintro e w7 ⟨rfl,hB⟩
      have A7:=hid (A6.out.below hB)
      have T7:=hid (T6.out.turned (ok':=fun k=>w2.heap.size≤k∧k < w7.heap.size) (fun k hk=>hB.block k hk.2) (fun k hk=>⟨hk.1,Nat.lt_of_lt_of_le hk.2 hB.size⟩))
      clear hB d0 d1 d2 d3 d4 d5 d6 d7 d8 d9 f0 f1 f2 f3 f4 f5 f6 f7 f8 f9
      by_cases c7:weight t≤4000
      rotate_left
      · have hRe:R = .error (87,0,s.size):=by rw [HRR.out,if_neg (by omega),if_pos (by omega)]
        subst hRe
        have c8:decide (weight t≤4000)=false:=by simp only [decide_eq_false_iff_not];omega
        go_wp2_with fail
        refine (parse_must_no w.heap.size s 87 _ A7.out.k2).mono ?_
        rintro e w1 ⟨rfl,rfl⟩
        exact parse_panics A7.out rfl 87 0 s.size _ (by rfl) (by rfl)
      have hRe:R = .ok t:=by rw [HRR.out,if_neg (by omega),if_neg (by omega)]
      subst hRe
      go_wp2_with fail
      refine (parse_must_ok w.heap.size 87 _).mono ?_
      rintro e w1 ⟨rfl,rfl⟩
      obtain ⟨d0,d1,d2,d3,d4,d5,d6,d7,d8,d9,f0,f1,f2,f3,f4,f5,f6,f7,f8,f9⟩:=A7.out.k4.ten
      have e0:=Blk.cell A7.out.k5 (j:=0) rfl
      have e1:=Blk.cell A7.out.k5 (j:=1) rfl
      have e2:=Blk.cell A7.out.k5 (j:=2) rfl
      have g0:=A7.out.k5.frozen 0
      have g1:=A7.out.k5.frozen 1
      have g2:=A7.out.k5.frozen 2
      have hz7:=A7.out.k5.lt
      have n1:w.heap.size+1≠w.heap.size+1+1:=by omega
      have n2:w.heap.size+1+1≠w.heap.size+1:=by omega
      go_wp2_with fail
      go_region
      all_goals go_wp2_with fail
      all_goals
        exact parse_done (A7.out.last (.int .i64 op) (.slice ka kn kc) (.int .i32 rune) (.slice xa xn xc) (.int .i64 pl) (.int .i64 cap) (.string name) (.int .i64 mn) (.int .i64 mx) (.bool lz)) (T7.out.turned (fun k hk=>lastP_block _ _ _ _ _ _ _ _ _ _ _ _ k (by have:=hk.1;omega)) (fun k hk=>⟨by have:=hk.1;omega,by rw [lastP_size];exact hk.2⟩)) _ (by rfl) (by rfl)
end Go.Proofs.YtnhnldmldnhaoaaGreatDoor
namespace Go.Proofs.YtnhnldmldnhaoaaGreatDoor
open Go Go.RowKit Go.Proofs Go.Shelf
theorem parse_any (s:ByteArray) (f:Int) (w:World) (hT:TabsM w) (hs:s.size≤1000000000000000):Calls Tryz.prog 10 #[.string s,.int .i64 f] w (ParseOut w (parseP s f)):=
  syn_parse s f w hT hs fun hz n=>syn_all s (by omega) (syn_escape s (by omega)) (syn_cls s (by omega)) (fun n hG hC=>syn_open s n (by omega) hG hC) n
theorem parse_within {s:ByteArray} {f x a d:Int} (h:parseP s f = .error (x,a,d)):x≠0∧0≤a∧a≤d∧d≤s.size:=by
  unfold parseP at h
  split at h
  · cases h;exact ⟨by decide,by omega,by omega,by omega⟩
  split at h
  · cases h;exact ⟨by decide,by omega,by omega,by omega⟩
  split at h
  · cases h;exact ⟨by decide,by omega,by omega,by omega⟩
  rename_i _ _ hv
  have hv2:Lib.validD s.data.toList=true:=by simpa using hv
  have hfit:=(syn_fit s (8 * s.size+8)).parts ⟨0,f,[]⟩ (Nat.zero_le _) (by unfold Bd;rw [List.drop_zero];exact hv2) (by show 8 * (s.size - 0)+4≤_;omega)
  cases hw:wholeP s f with
  | out=>
    exfalso
    unfold wholeP at hw
    split at hw
    · cases hw
    · cases hp:partsP s (8 * s.size+8) ⟨0,f,[]⟩ with
      | out=>rw [hp] at hfit;exact hfit
      | wrong e b c=>rw [hp] at hw;cases hw
      | ok t st=>rw [hp] at hw;simp only at hw;split at hw <;> cases hw
  | wrong e b c=>
    rw [hw] at h
    cases h
    unfold wholeP at hw
    split at hw
    · cases hw
    · cases hp:partsP s (8 * s.size+8) ⟨0,f,[]⟩ with
      | out=>rw [hp] at hfit;exact hfit.elim
      | wrong e b c=>rw [hp] at hw hfit;cases hw;exact hfit
      | ok t st=>
        rw [hp] at hw
        simp only at hw
        split at hw
        · cases hw;exact ⟨by decide,by omega,by omega,by omega⟩
        · cases hw
  | ok t st=>
    rw [hw] at h
    simp only at h
    split at h
    · cases h;exact ⟨by decide,by omega,by omega,by omega⟩
    split at h
    · cases h;exact ⟨by decide,by omega,by omega,by omega⟩
    · cases h
end Go.Proofs.YtnhnldmldnhaoaaGreatDoor
namespace Go.Proofs.YtnhnldmldnhaoaaGreatDoor
open Go Go.RowKit Go.Proofs Go.Shelf
def altsT:List T→T
  | [t]=>t
  | l=>kidsT 12 l
theorem altP_eq (s:ByteArray) (n:Nat) (st:St) (l:List T):altP s (n+1) st l=if stands s st.p [124]=true then (match partP s n { st with p:=st.p+1 } [] with
      | .out=>.out
      | .wrong e f t=>.wrong e f t
      | .ok t st'=>altP s n st' (l ++ [t]))
    else .ok (altsT l) st:=by
  conv=>lhs;unfold altP
  split
  · rfl
  · cases l with
    | nil=>rfl
    | cons a l=>cases l <;> rfl
end Go.Proofs.YtnhnldmldnhaoaaGreatDoor
