/- A right tree of no great weight has few parts. -/
import Derived.Test.YtnhnldmldnhaoaaGreatDoorSSynRight
import Derived.Test.YtnhnldmldnhaoaaGreatDoorSSynPure
import Derived.Test.YtnhnldmldnhaoaaGreatDoorSSyCatch
import Derived.Test.YtnhnldmldnhaoaaGreatDoorSThose
import Derived.Test.YtnhnldmldnhaoaaGreatDoorSPlainYes
import Derived.Laws.StructEq
import Derived.Shelf.SlicesQ.Equal
import Derived.Test.YtnhnldmldnhaoaaGreatDoorSRefHas
import Derived.Test.YtnhnldmldnhaoaaGreatDoorSNext
import Derived.Lib.LaidU8
import Derived.KernelRfl
import GoSem.PinnedTables
import Derived.HandedShaped
import Derived.Handed
set_option maxRecDepth 100000
set_option maxHeartbeats 16000000
open Go.Lib (hid)
namespace Go.Proofs.YtnhnldmldnhaoaaGreatDoor
open Go Go.RowKit Go.Proofs Go.Shelf
theorem runs_plain1:∀ (l:List T) (x:Option (Nat × List (List UInt8))),(l.foldl stepR x).isSome=true→∀ p ∈ l,plainT p=true
  | [],_,_,p,hp=>by cases hp
  | t :: l,x,h,p,hp=>by
    rw [List.foldl_cons] at h
    rcases List.mem_cons.1 hp with rfl | hp
    · cases x with
      | none=>rw [stepR_none,foldl_stepR_none] at h;cases h
      | some y=>
        obtain ⟨n,S⟩:=y
        cases hpl:plainT p with
        | true=>rfl
        | false=>
          have e:stepR (some (n,S)) p=none:=by unfold stepR;simp only;rw [if_pos hpl]
          rw [e,foldl_stepR_none] at h;cases h
    · exact runs_plain1 l _ h p hp
theorem weightF_ge:∀ (l:List T) (n:Int),0≤n→n≤4001→n≤weightF n l
  | [],n,_,_=>by simp [weightF]
  | t :: l,n,h0,h1=>by
    have hw:=weight_le t
    have:=weightF_ge l (min (n+weight t) 4001) (by omega) (by omega)
    rw [weightF]
    omega
theorem weightF_parts (l:List T):(∀ t ∈ l,weight t≤4000→((parts t).length:Int)≤weight t)→∀ n:Int,0≤n→n≤4001→weightF n l≤4000→n+((partsL l).length:Int)≤weightF n l:=by
  induction l with
  | nil=>intro _ n _ _ _;simp [partsL,weightF]
  | cons t l ih=>
    intro h n hn hn2 hw
    have h0:=weight_le t
    rw [weightF] at hw ⊢
    have hm:=weightF_ge l (min (n+weight t) 4001) (by omega) (by omega)
    have h1:=h t (List.mem_cons_self ..) (by omega)
    have h2:=ih (fun x hx=>h x (List.mem_cons_of_mem _ hx)) (min (n+weight t) 4001) (by omega) (by omega) hw
    rw [partsL,List.length_append]
    omega
theorem parts_weight (t:T):(∀ p ∈ parts t,plainT p=true)→weight t≤4000→((parts t).length:Int)≤weight t:=by
  induction t using T.ind with
  | h op kids rune set pl cap name mn mx lz ih=>
    intro hp hw
    have hk:∀ k ∈ kids,weight k≤4000→((parts k).length:Int)≤weight k:=fun k hk=>ih k hk fun p hpp=>hp p (by
      obtain ⟨i,hi,rfl⟩:=List.mem_iff_getElem.1 hk
      exact mem_parts_kid hi hpp)
    have h1:=hp _ (mem_parts_self _)
    have hkl:=weightF_le kids
    have hF:weightF 0 kids≤4000→((partsL kids).length:Int)≤weightF 0 kids:=fun h=>by
      have:=weightF_parts kids hk 0 (by omega) (by omega) h
      omega
    have hlen:(parts (.mk op kids rune set pl cap name mn mx lz)).length=1+(partsL kids).length:=by rw [parts,List.length_cons];omega
    have hkind:kindOk op kids.length rune set.length (setRight set) pl name mn mx=true:=by
      unfold plainT at h1
      simp only [T.op,T.rune,T.set,T.pl,T.cap,T.name,T.mn,T.mx,T.lz,T.kids,Bool.and_eq_true] at h1
      exact h1.2
    rw [hlen]
    rw [weight] at hw ⊢
    generalize weightF 0 kids=N at *
    unfold weightK at hw ⊢
    have hnil:kids.length=0→(partsL kids).length=0:=fun h=>by rw [List.eq_nil_of_length_eq_zero h];rfl
    by_cases o6:op=6
    · rw [if_pos o6] at hw ⊢;omega
    rw [if_neg o6] at hw ⊢
    by_cases o12:op=12
    · rw [if_pos o12] at hw ⊢
      subst o12
      have:0 < kids.length:=by
        unfold kindOk at hkind
        simpa using hkind
      omega
    rw [if_neg o12] at hw ⊢
    by_cases o10:op=10
    · rw [if_pos o10] at hw ⊢
      obtain ⟨K,hK⟩:∃ K,K=min (max (max mn mx) 1) 4001:=⟨_,rfl⟩
      rw [← hK] at hw ⊢
      have hK1:1≤K:=by omega
      have hNK:N≤N * K:=by
        have:=Int.mul_le_mul_of_nonneg_left hK1 hkl.1
        omega
      omega
    rw [if_neg o10] at hw ⊢
    by_cases o7:op=7∨op=8∨op=9∨op=11
    · rw [if_pos o7] at hw ⊢;omega
    rw [if_neg o7] at hw ⊢
    have hk0:kids.length=0:=by
      unfold kindOk at hkind
      repeat' split at hkind
      all_goals simp_all
    have:=hnil hk0
    omega
theorem right_parts {t:T} (h:rightB t=true):(parts t).length≤4000∧∀ p ∈ parts t,p.op=4→p.set.length≤557058:=by
  unfold rightB at h
  simp only [Bool.and_eq_true,decide_eq_true_eq] at h
  have hp:=runs_plain1 (parts t) (some (0,[])) h.2
  have hw:=parts_weight t hp h.1.2
  have hw2:=h.1.2
  refine ⟨by omega,fun p hpp h4=>?_⟩
  have h5:=hp p hpp
  obtain ⟨op,kids,rune,set,pl,cap,name,mn,mx,lz⟩:=p
  simp only [T.op] at h4
  subst h4
  unfold plainT kindOk at h5
  simp [T.op,T.rune,T.set,T.pl,T.cap,T.name,T.mn,T.mx,T.lz,T.kids] at h5
  have h6:=setFrom_len (by omega) h5.2.2
  simp only [T.set]
  omega
end Go.Proofs.YtnhnldmldnhaoaaGreatDoor
namespace Go.Proofs.YtnhnldmldnhaoaaGreatDoor
open Go Go.RowKit Go.Proofs Go.Shelf
def plainB (s:ByteArray):Bool:=s.data.toList.all fun c=>c != 92 && c != 91 && c != 63
theorem plainB_at {s:ByteArray} (h:plainB s=true) {p:Nat} (hp:p < s.size):s[p]≠92∧s[p]≠91∧s[p]≠63:=by
  unfold plainB at h
  rw [List.all_eq_true] at h
  have h1:=h s[p] (by
    have:s[p]=s.data.toList[p]'(by simpa using hp):=by simp;rfl
    rw [this];exact List.getElem_mem _)
  simp at h1
  exact ⟨h1.1.1,h1.1.2,h1.2⟩
theorem plain_next {s:ByteArray} (h:plainB s=true) (p:Nat):nextC s p≠92∧nextC s p≠91:=by
  constructor
  · intro e
    have h1:=stands_of_nextC (s:=s) (p:=p) (c:=92) e (by decide)
    obtain ⟨hl,h2⟩:=(stands_one s p 92).1 h1
    exact (plainB_at h hl).1 h2
  · intro e
    have h1:=stands_of_nextC (s:=s) (p:=p) (c:=91) e (by decide)
    obtain ⟨hl,h2⟩:=(stands_one s p 91).1 h1
    exact (plainB_at h hl).2.1 h2
theorem plain_ask {s:ByteArray} (h:plainB s=true) (p:Nat):stands s p [40,63]=false:=by
  cases hst:stands s p [40,63] with
  | false=>rfl
  | true=>
    exfalso
    unfold stands Lib.hasPrefix at hst
    rw [List.isPrefixOf_iff_prefix] at hst
    obtain ⟨r,hr⟩:=hst
    have h1:(s.data.toList.drop p)[1]? = some 63:=by rw [← hr];rfl
    rw [List.getElem?_drop] at h1
    obtain ⟨hl,h2⟩:=List.getElem?_eq_some_iff.1 h1
    have hp:p+1 < s.size:=by simpa using hl
    refine (plainB_at h hp).2.2 ?_
    rw [← h2]
    simp
    rfl
end Go.Proofs.YtnhnldmldnhaoaaGreatDoor
namespace Go.Proofs.YtnhnldmldnhaoaaGreatDoor
open Go Go.RowKit Go.Proofs Go.Shelf
theorem head_ab:parseP ⟨#[97,124,98,42]⟩ 0 = .ok (kidsT 12 [leafT 3 97 [] 0,repT 7 (leafT 3 98 [] 0) 0 0 false]):=by kernel_rfl
theorem head_pa:parseP ⟨#[40,97]⟩ 0 = .error (84,0,2):=by kernel_rfl
end Go.Proofs.YtnhnldmldnhaoaaGreatDoor
namespace Go.Proofs.YtnhnldmldnhaoaaGreatDoor
open Go Go.RowKit Go.Proofs Go.Shelf
theorem parse_plain (s:ByteArray) (f:Int) (w:World) (hT:TabsM w) (hs:s.size≤1000000000000000) (h:s.size≤1024→plainB s=true):Calls Tryz.prog 10 #[.string s,.int .i64 f] w (ParseOut w (parseP s f)):=
  syn_parse s f w hT hs fun hz n=>syn_all_plain s (by omega) (fun p=>(plain_next (h hz) p).1) (fun p=>(plain_next (h hz) p).2) (plain_ask (h hz)) n
theorem head_first (w:World) (hT:TabsM w):Calls Tryz.prog 10 #[.string ⟨#[97,124,98,42]⟩,.int .i64 0] w fun e w'=>Below w.heap.size w w'∧∃ (b o kc:Nat) (sa:Option Addr) (sc:Nat),e = .returned (.tuple #[.agg #[.int .i64 12,.slice (some ⟨b,o,none⟩) 2 kc,.int .i32 0,.slice sa 0 sc,.int .i64 0,.int .i64 0,.string ⟨#[]⟩,.int .i64 0,.int .i64 0,.bool false],.agg #[.int .i64 0,.int .i64 0,.int .i64 0]])∧b < w'.heap.size∧w'.cell? ⟨b,o+10,none⟩=some (.int .i64 7):=by
  refine (parse_plain _ 0 w hT (by decide) (fun _=>by decide)).mono ?_
  rw [head_ab]
  rintro e w' ⟨hB,cs,rfl,hTr⟩
  refine ⟨hB,?_⟩
  obtain ⟨ka,kn,kc,sa,sn,sc,rfl,⟨rfl,hkc,h0 | ⟨b,o,rfl,hb,hK⟩⟩,hS⟩:=(show TreeF _ _ (.mk 12 [leafT 3 97 [] 0,repT 7 (leafT 3 98 [] 0) 0 0 false] 0 [] 0 0 ⟨#[]⟩ 0 0 false) cs from hTr).open
  · cases h0
  · obtain ⟨_,hK2⟩:=KidsF.cons.1 hK
    obtain ⟨⟨cs2,hT2,hr2⟩,_⟩:=KidsF.cons.1 hK2
    obtain ⟨ka2,kn2,kc2,sa2,sn2,sc2,rfl,_,_⟩:=(show TreeF _ _ (.mk 7 [leafT 3 98 [] 0] 0 [] 0 0 ⟨#[]⟩ 0 0 false) cs2 from hT2).open
    obtain ⟨rfl,hc,h3⟩:=hS
    have h1:=hr2 0 (by simp)
    exact ⟨b,o,kc,sa,sc,rfl,hb.2,by simpa using h1⟩
theorem head_second (w:World) (hT:TabsM w):Calls Tryz.prog 10 #[.string ⟨#[40,97]⟩,.int .i64 0] w fun e w'=>Below w.heap.size w w'∧e = .returned (.tuple #[.agg zero10.toArray,.agg #[.int .i64 84,.int .i64 0,.int .i64 2]]):=by
  refine (parse_plain _ 0 w hT (by decide) (fun _=>by decide)).mono ?_
  rw [head_pa]
  rintro e w' ⟨hB,rfl⟩
  exact ⟨hB,rfl⟩
theorem head08 (w:World) (hT:TabsM w):Calls Tryz.prog 9 #[] w fun e w'=>e = .returned (.bool true)∧Below w.heap.size w w':=by
  have HT:=hid hT;clear hT
  go_enter Tryz.func9, Tryz.ntmps9
  go_wp2_with fail
  refine (head_first w HT.out).mono ?_
  rintro e w1 ⟨hB,b,o,kc,sa,sc,rfl,hb,z⟩
  have T1:=hid ((HT.out.below hB).below (((Below.refl _ w1).alloc (Nat.le_refl _) (.cells #[.int .i64 12,.slice (some ⟨b,o,none⟩) 2 kc,.int .i32 0,.slice sa 0 sc,.int .i64 0,.int .i64 0,.string ⟨#[]⟩,.int .i64 0,.int .i64 0,.bool false] 29)).alloc (by simp) (.cells #[.int .i64 0,.int .i64 0,.int .i64 0] 32)))
  have B1:=hid (((Below.refl _ w1).alloc (Nat.le_refl _) (.cells #[.int .i64 12,.slice (some ⟨b,o,none⟩) 2 kc,.int .i32 0,.slice sa 0 sc,.int .i64 0,.int .i64 0,.string ⟨#[]⟩,.int .i64 0,.int .i64 0,.bool false] 29)).alloc (by simp) (.cells #[.int .i64 0,.int .i64 0,.int .i64 0] 32))
  have K1:=hid ((Blk.new w1 [.int .i64 12,.slice (some ⟨b,o,none⟩) 2 kc,.int .i32 0,.slice sa 0 sc,.int .i64 0,.int .i64 0,.string ⟨#[]⟩,.int .i64 0,.int .i64 0,.bool false] 29).alloc (.cells #[.int .i64 0,.int .i64 0,.int .i64 0] 32))
  have K2:=hid (Blk.new (w1.alloc (.cells #[.int .i64 12,.slice (some ⟨b,o,none⟩) 2 kc,.int .i32 0,.slice sa 0 sc,.int .i64 0,.int .i64 0,.string ⟨#[]⟩,.int .i64 0,.int .i64 0,.bool false] 29)) [.int .i64 0,.int .i64 0,.int .i64 0] 32)
  have Z:=hid z
  have HB:=hid hB
  have hzz:=hB.size
  clear hB z
  go_wp2_with fail
  refine (head_second _ T1.out).mono ?_
  rintro e w2 ⟨hB,rfl⟩
  rw [World.size_alloc] at K2
  have K1':=Blk.below K1.out hB K1.out.lt
  have K2':=Blk.below K2.out hB K2.out.lt
  have z2:w2.cell? ⟨b,o+10,none⟩=some (.int .i64 7):=by
    have h1:=below_then B1.out hB
    rw [World.cell?_of_block (w:=w1) (h1.block b hb)]
    exact Z.out
  have BB:=hid (below_then HB.out (below_then B1.out hB))
  have X1:=(K1'.alloc (.cells zero10.toArray 29)).alloc (.cells #[.int .i64 84,.int .i64 0,.int .i64 2] 32)
  have X2:=(K2'.alloc (.cells zero10.toArray 29)).alloc (.cells #[.int .i64 84,.int .i64 0,.int .i64 2] 32)
  have X4:=Blk.new (w2.alloc (.cells zero10.toArray 29)) [.int .i64 84,.int .i64 0,.int .i64 2] 32
  rw [World.size_alloc] at X4
  have BX:=((Below.refl _ w2).alloc (Nat.le_refl _) (.cells zero10.toArray 29)).alloc (by simp) (.cells #[.int .i64 84,.int .i64 0,.int .i64 2] 32)
  have hbz:b < w2.heap.size:=by have h1:=(below_then B1.out hB).size;omega
  clear hB K1' K2'
  generalize hX:(w2.alloc (.cells zero10.toArray 29)).alloc (.cells #[.int .i64 84,.int .i64 0,.int .i64 2] 32)=X at X1 X2 X4 BX
  have c0:=Blk.cell X1 (j:=0) rfl
  have c1:=Blk.cell X1 (j:=1) rfl
  have d0:=Blk.cell X2 (j:=0) rfl
  have e0:=Blk.cell X4 (j:=0) rfl
  have z3:X.cell? ⟨b,o+10,none⟩=some (.int .i64 7):=by rw [World.cell?_of_block (w:=w2) (BX.block b hbz)];exact z2
  have BB2:=hid (below_then BB.out BX)
  clear X1 X2 X4 BX z2
  go_wp2_with fail
  go_ret
  exact ⟨rfl,BB2.out⟩
end Go.Proofs.YtnhnldmldnhaoaaGreatDoor
namespace Go.Proofs.YtnhnldmldnhaoaaGreatDoor
open Go Go.RowKit Go.Proofs Go.Shelf Go.Lib
theorem right_iff {l r:List (Int × Int)} (hr:setRight r=true) (hm:∀ c,memR r c=(decide (0≤c) && decide (c≤1114111) && memR l c)):decide (l=r)=setRight l:=by
  by_cases h:setRight l=true
  · rw [h]
    refine decide_eq_true (set_unique h hr fun c=>?_)
    rw [hm]
    cases hx:memR l c with
    | false=>simp
    | true=>
      have:=memR_bound h hx
      rw [decide_eq_true (show 0≤c by omega),decide_eq_true this.2];rfl
  · have h':setRight l=false:=by simpa using h
    rw [h']
    exact decide_eq_false fun e=>h (by rw [e];exact hr)
def encR (x:Int × Int):List Value:=[.int .i32 x.1,.int .i32 x.2]
theorem neqRange:NeqAt Tryz.prog 61 (fun x=>.agg (encR x).toArray) (fun x y=>x.1 == y.1 && x.2 == y.2):=by
  refine ⟨fun x y w=>?_,GuardAt.agg _ (by kernel_rfl)⟩
  have u21:=Tryz.underlying21
  have a21:=Tryz.isAgg21
  have z21:=Tryz.sizeOf21
  have hS:Tryz.prog.underlying 61=some (.struct (Tryz.prog.fieldsOf 61)):=by kernel_rfl
  have hp:Tryz.prog.stoodInHeld 61=false:=by kernel_rfl
  simp only [encR]
  rw [run_neq_struct,show (10000:Nat)=9999+1 from rfl,run_equalIn_agg w 9999 61 _ _ hS hp]
  simp only [Program.fieldsOf,Tryz.underlying61]
  go_simp
  by_cases h1:x.fst=y.fst <;> by_cases h2:x.snd=y.snd <;> simp [h1,h2]
theorem allEq_iff:∀ (xs ys:List (Int × Int)),allEq (fun x y:Int × Int=>x.1 == y.1 && x.2 == y.2) xs ys=decide (xs=ys)
  | [],[]=>by simp [allEq]
  | [],_ :: _=>by simp [allEq]
  | _ :: _,[]=>by simp [allEq]
  | x :: xs,y :: ys=>by
    rw [allEq,allEq_iff xs ys]
    obtain ⟨a,b⟩:=x;obtain ⟨c,d⟩:=y
    rw [Bool.eq_iff_iff]
    simp [and_assoc]
theorem equal_len (a1 a2:Option Addr) (n1 c1 n2 c2:Nat) (w:World) (h:n1≠n2) :
    Calls Tryz.prog 49 #[.slice a1 n1 c1,.slice a2 n2 c2] w fun e w'=>e = .returned (.bool false)∧Below w.heap.size w w':=by
  have h':(n1:Int)≠n2:=by omega
  have h2:((n1:Int) != n2)=true:=by simpa using h'
  go_enter Tryz.func49, Tryz.ntmps49
  go_wp2
  go_ret
  exact ⟨rfl,Below.refl _ _⟩
theorem equal_ranges (xs ys:List (Int × Int)) (b1 o1 c1 b2 o2 c2:Nat) (w:World) (h1:RangesAt w xs b1 o1) (h2:RangesAt w ys b2 o2) (hx:xs.length≤140737488351232) (hy:ys.length≤140737488351232) :
    Calls Tryz.prog 49 #[.slice (some ⟨b1,o1,none⟩) xs.length c1,.slice (some ⟨b2,o2,none⟩) ys.length c2] w fun e w'=>e = .returned (.bool (decide (xs=ys)))∧Below w.heap.size w w':=by
  have key:∀ (zs:List (Int × Int)) (b o:Nat),RangesAt w zs b o→∀ j,j < zs.length→∀ i v,(encR zs[j]!)[i]? = some v→w.cell? ⟨b,o+j * 2+i,none⟩=some v:=by
    intro zs b o h j hj i v hv
    obtain ⟨g1,g2⟩:=h.get j hj
    rw [getElem!_pos zs j hj] at hv
    match i,hv with
    | 0,hv=>simp [encR] at hv;subst hv;simpa using g1
    | 1,hv=>simp [encR] at hv;subst hv;exact g2
    | i+2,hv=>simp [encR] at hv
  refine (AnyQ.slices_Equal Tryz.equalRanges 2 Tryz.isAgg61 Tryz.sizeOf61 encR (fun _=>rfl) _ neqRange b1 o1 xs.length c1 b2 o2 ys.length c2 xs ys w (Nat.le_refl _) (Nat.le_refl _) (by omega) (by omega) (key xs b1 o1 h1) (key ys b2 o2 h2)).mono ?_
  rintro e w' ⟨rfl,q,rfl⟩
  rw [List.take_length,List.take_length,allEq_iff]
  exact ⟨rfl,below_drewN (Below.refl _ _) q⟩
theorem sets_Right:SetsRight (fun rs=>rs.length≤1000000000000):=by
  intro rs hN B W sa sn sc h hB hsn
  have HN:=hid (sets_Norm rs sa sn sc B W h hB hN)
  have HH:=hid h
  obtain ⟨rfl,h2,h3⟩:=h
  obtain ⟨b,o,rfl,hb,hra⟩:=h3.resolve_left (by omega)
  clear h2 h3
  have HRA:=hid hra;clear hra
  go_enter Tryz.func40, Tryz.ntmps40
  go_wp2_with fail
  refine (HN.out).mono ?_
  rintro e w1 ⟨v,out,rfl,p1,p2,p3,p4,p5⟩
  obtain ⟨oa,oc,rfl,q1,q2⟩:=p1.ranges (by omega)
  have HQ:=hid (right_iff p2 p3)
  have HB1:=hid p5
  have hcall:Calls Tryz.prog 49 #[.slice (some ⟨b,o,none⟩) rs.length sc,.slice oa out.length oc] w1 fun e w'=>e = .returned (.bool (setRight rs))∧Below w1.heap.size w1 w':=by
    rw [← HQ.out]
    by_cases hl:rs.length=out.length
    · rcases q1.2.2 with h0 | ⟨g,go,rfl,hg,hr⟩
      · omega
      · exact equal_ranges rs out b o sc g go oc w1 (HRA.out.below (p5.mono hB) hb) hr (by omega) (by omega)
    · have:decide (rs=out)=false:=decide_eq_false fun e=>hl (by rw [e])
      rw [this]
      exact equal_len _ _ _ _ _ _ w1 hl
  have HC:=hid hcall
  clear hcall p1 p2 p3 p4 p5 q1 q2
  go_wp2_with fail
  refine (HC.out).mono ?_
  rintro e w2 ⟨rfl,hb2⟩
  have HB2:=hid hb2;clear hb2
  go_wp2_with fail
  go_ret
  exact ⟨rfl,HB1.out.trans (HB2.out.mono HB1.out.size)⟩
end Go.Proofs.YtnhnldmldnhaoaaGreatDoor
namespace Go.Proofs.YtnhnldmldnhaoaaGreatDoor
open Go Go.RowKit Go.Proofs Go.Shelf
structure KeptP (W:World) (b:Nat) (cs es:List Value):Prop where
  t:Blk W b cs 29
  e:Blk W (b+1) es 32
theorem KeptP.new (w:World) (cs es:List Value):KeptP ((w.alloc (.cells cs.toArray 29)).alloc (.cells es.toArray 32)) w.heap.size cs es:=
  ⟨(Blk.new w cs 29).alloc _,by have:=Blk.new (w.alloc (.cells cs.toArray 29)) es 32;rwa [World.size_alloc] at this⟩
theorem KeptP.below {W W':World} {b:Nat} {cs es:List Value} (h:KeptP W b cs es) (hB:Below W.heap.size W W'):KeptP W' b cs es:=⟨Blk.below h.t hB h.t.lt,Blk.below h.e hB h.e.lt⟩
theorem below_two (w:World) (o o':Obj):Below w.heap.size w ((w.alloc o).alloc o'):=((Below.refl _ w).alloc (Nat.le_refl _) o).alloc (by simp) o'
end Go.Proofs.YtnhnldmldnhaoaaGreatDoor
namespace Go.Proofs.YtnhnldmldnhaoaaGreatDoor
open Go Go.RowKit Go.Proofs Go.Shelf
theorem right_told (s:ByteArray) (f:Int) (w:World) (hT:TabsM w) (hs:s.size≤140737488351232) (t:T) (h:parseP s f = .ok t) :
    Calls Tryz.prog 3 #[.string s,.int .i64 f] w fun e w'=>e = .returned (.bool true)∧Below w.heap.size w w':=by
  have hr:=parse_right h
  have hpw:=right_parts hr
  have HPR:=hid (fun W (hW:TabsM W)=>by have:=parse_any s f W hW (by omega);rw [h] at this;exact this)
  have HT:=hid hT
  have HR:=hid hr;have HPW:=hid hpw
  clear h hr hpw hT
  go_enter Tryz.func3, Tryz.ntmps3
  go_wp2_with fail
  refine (head08 w HT.out).mono ?_
  rintro e w1 ⟨rfl,hB⟩
  have B1:=hid hB;have T1:=hid (HT.out.below hB)
  clear hB
  go_wp2_with fail
  refine (HPR.out _ T1.out).mono ?_
  rintro e w2 ⟨hB,cs,rfl,hTr⟩
  have HTV:=hid (hTr.treeV (B:=w2.heap.size) (fun k hk=>hk.2))
  obtain ⟨op,ka,kn,kc,rune,xa,xn,xc,pl,cap,name,mn,mx,lz,rfl⟩:=hTr.form
  have B2:=hid (below_then (below_then B1.out hB) (below_two w2 (.cells #[.int .i64 op,.slice ka kn kc,.int .i32 rune,.slice xa xn xc,.int .i64 pl,.int .i64 cap,.string name,.int .i64 mn,.int .i64 mx,.bool lz] 29) (.cells #[.int .i64 0,.int .i64 0,.int .i64 0] 32)))
  have K2:=KeptP.new w2 [.int .i64 op,.slice ka kn kc,.int .i32 rune,.slice xa xn xc,.int .i64 pl,.int .i64 cap,.string name,.int .i64 mn,.int .i64 mx,.bool lz] [.int .i64 0,.int .i64 0,.int .i64 0]
  have W2:=hid (below_two w2 (.cells #[.int .i64 op,.slice ka kn kc,.int .i32 rune,.slice xa xn xc,.int .i64 pl,.int .i64 cap,.string name,.int .i64 mn,.int .i64 mx,.bool lz] 29) (.cells #[.int .i64 0,.int .i64 0,.int .i64 0] 32))
  have c0:=Blk.cell K2.e (j:=0) rfl
  have c1:=Blk.cell K2.e (j:=1) rfl
  have c2:=Blk.cell K2.e (j:=2) rfl
  obtain ⟨d0,d1,d2,d3,d4,d5,d6,d7,d8,d9,_,_,_,_,_,_,_,_,_,_⟩:=K2.t.ten
  have HK2:=hid K2
  clear hB hTr K2
  have HRT:=hid (fun W (hW:Below w2.heap.size w2 W)=>right_any (P:=fun l=>l.length≤1000000000000) sets_Right t _ w2.heap.size W (HTV.out.below hW) hW.size (fun p hp h4=>by have:=HPW.out.2 p hp h4;omega) (by have:=HPW.out.1;omega))
  go_wp2_with fail
  refine (HRT.out _ W2.out).mono ?_
  rintro e w3 ⟨rfl,hB⟩
  rw [HR.out]
  have B3:=hid (below_then B2.out hB)
  have K3:=HK2.out.below hB
  clear hB c0 c1 c2 d0 d1 d2 d3 d4 d5 d6 d7 d8 d9
  have c0:=Blk.cell K3.e (j:=0) rfl
  have c1:=Blk.cell K3.e (j:=1) rfl
  have c2:=Blk.cell K3.e (j:=2) rfl
  clear K3
  go_wp2_with fail
  go_ret
  exact ⟨rfl,B3.out⟩
theorem right_wrong (s:ByteArray) (f:Int) (w:World) (hT:TabsM w) (hs:s.size≤140737488351232) (x a d:Int) (h:parseP s f = .error (x,a,d)) :
    Calls Tryz.prog 3 #[.string s,.int .i64 f] w fun e w'=>e = .returned (.bool true)∧Below w.heap.size w w':=by
  obtain ⟨hx,ha,had,hds⟩:=parse_within h
  have HPR:=hid (fun W (hW:TabsM W)=>by have:=parse_any s f W hW (by omega);rw [h] at this;exact this)
  have HT:=hid hT
  have hx':(x == 0)=false:=by simpa using hx
  clear h hT
  go_enter Tryz.func3, Tryz.ntmps3
  go_wp2_with fail
  refine (head08 w HT.out).mono ?_
  rintro e w1 ⟨rfl,hB⟩
  have B1:=hid hB;have T1:=hid (HT.out.below hB)
  clear hB
  go_wp2_with fail
  refine (HPR.out _ T1.out).mono ?_
  rintro e w2 ⟨hB,rfl⟩
  have B2:=hid (below_then (below_then B1.out hB) (below_two w2 (.cells zero10.toArray 29) (.cells #[.int .i64 x,.int .i64 a,.int .i64 d] 32)))
  have K2:=KeptP.new w2 zero10 [.int .i64 x,.int .i64 a,.int .i64 d]
  have c0:=Blk.cell K2.e (j:=0) rfl
  have c1:=Blk.cell K2.e (j:=1) rfl
  have c2:=Blk.cell K2.e (j:=2) rfl
  have d0:=Blk.cell K2.t (j:=0) rfl
  have d1:=Blk.cell K2.t (j:=1) rfl
  clear hB K2
  go_wp2_with fail
  go_ret
  exact ⟨rfl,B2.out⟩
theorem law_syntaxRight (s:ByteArray) (f:Int) (w:World) (hs:s.size≤140737488351232) (hT:TabsM w):Calls Tryz.prog 3 #[.string s,.int .i64 f] w fun e w'=>e = .returned (.bool true)∧Below w.heap.size w w':=by
  cases h:parseP s f with
  | ok t=>exact right_told s f w hT hs t h
  | error y=>obtain ⟨x,a,d⟩:=y;exact right_wrong s f w hT hs x a d h
end Go.Proofs.YtnhnldmldnhaoaaGreatDoor
namespace Go.Proofs.YtnhnldmldnhaoaaGreatDoor
open Go Go.RowKit Go.Proofs
theorem first_pinned:Go.Pinned.utf8First=Lib.firstData:=by kernel_rfl
theorem tabs_of_laid {w : World} (h : Lib.VarReads Tryz.prog w "unicode/utf8.first" Go.Pinned.utf8First) (h4 : Lib.VarReads Tryz.prog w "unicode/utf8.acceptRanges" Lib.acceptData) : Tabs w :=
  utf8Tabs_of_reads { Tryz.lays197 with } ⟨by kernel_rfl,by kernel_rfl,by kernel_rfl,by kernel_rfl,by kernel_rfl,by kernel_rfl,by kernel_rfl⟩ (first_pinned ▸ h) h4
end Go.Proofs.YtnhnldmldnhaoaaGreatDoor
namespace Go.Proofs.YtnhnldmldnhaoaaGreatDoor
open Go
theorem returnsInHanded_of_change_and_shaped {H:Type} {enc:TypeId × Value→H} {a:Assume} {C:Checked} {os:Os} {f:FuncId} {fn:Func} {s:ChangeSpec} {conds:List PathCond} {apart fresh handsOn again:Bool} {X:World→Array Value→Prop}
    (hX:∀ (w w':World) (args:Array Value),w.heap=w'.heap→X w args→X w' args)
    (own:ownKnob C.prog.godebug=none) (started:os.Started) (noInit:C.prog.inits.idxOf? f=none) (hfn:C.prog.funcs[f]? = some fn)
    (witness:∃ (w:World) (tape:Tape) (i:Input),w.os=os∧(w.forCall tape i).Shaped C.prog∧i.vars=[]∧Input.okWide C.prog (w.forCall tape i) .any w.heap.size f i∧
      ((s.pre enc C.prog fn conds apart (w.forCall tape i).memory i.args∧X (w.forCall tape i).memory i.args)∧sizedMet enc C.prog fn (OpenSpec.ofChange s) apart (w.forCall tape i).memory i.args)∧a.holds C.prog (lone (Frame.enter C.prog f i.args .normal) [] (w.forCall tape i)))
    (contract:∀ (W:World) (base:Nat) (args:Array Value) (ds gs:List (DataW H)) (before:List MemPlace),
      (∀ (j:Nat) t v,fn.params[j]? = some t→args[j]? = some v→Value.okWide C.prog W .any base t v)→
      DataW.Whole enc C.prog fn.params.toList s.vars apart W args.toList ds gs before→
      conds.all (PathCond.test C.prog ⟨fn.params.toList,ds,s.plain.varTypes C.prog,gs⟩)=true→
      (DataW.weightsEach C.prog (fn.params.toList ++ s.plain.varTypes C.prog) (ds ++ gs)).all (·≤reachBytes)=true→X W args→
      W.ShapedOpen C.prog→
      Calls C.prog f args W fun e W'=>∃ v,e = .returned v∧s.post enc C.prog fn apart fresh handsOn again W args v W') :
    ReturnsInHanded a C os f .any (fun w args=>(s.pre enc C.prog fn conds apart w args∧X w args)∧sizedMet enc C.prog fn (OpenSpec.ofChange s) apart w args) (s.post enc C.prog fn apart fresh handsOn again):=by
  refine returnsInHanded_of_calls own started noInit witness ?_
  intro w tape i _ hsh _ hok hpre hholds
  obtain ⟨_,_,_,fn',hfn',_,_,_,_,hval⟩:=hok
  have e:fn'=fn:=Option.some.inj (hfn'.symm.trans hfn)
  subst e
  obtain ⟨⟨⟨ds,gs,before,hw,hc⟩,hx⟩,hz⟩:=hpre
  have hw':=DataW.Whole.of_heap (w':=w.forCall tape i) (by rfl) hw
  refine (contract (w.forCall tape i) w.heap.size i.args ds gs before hval hw' hc (hz.weights hw) (hX _ _ _ (by rfl) hx) hsh).mono fun e W' ⟨v,he,hp⟩=>?_
  subst he
  exact ChangeSpec.post_blind hp
end Go.Proofs.YtnhnldmldnhaoaaGreatDoor
