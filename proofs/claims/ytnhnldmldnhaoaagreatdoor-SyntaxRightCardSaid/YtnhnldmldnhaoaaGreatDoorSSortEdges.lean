/- The edges sorted by where they are: slices. -/
import Derived.Test.YtnhnldmldnhaoaaGreatDoorSBase
import Derived.Test.YtnhnldmldnhaoaaGreatDoorShelfS
import Derived.Test.YtnhnldmldnhaoaaGreatDoorShelfB
import Derived.Shelf.SlSortCmp.WholeK
import Derived.WalkKit
import Derived.Lib.Hide
import Derived.WalkSpells
import Derived.WalkLawsBesides
import Derived.LoopN
import Derived.LoopTactic
import Derived.Maps.AppendAt
import Derived.RangeFuncBox
import Derived.Lib.OthersKept
import Derived.Lib.FrozenHead
import Derived.Test.YtnhnldmldnhaoaaGreatDoorProg
import Derived.RangeFuncNested
import Derived.RangeFuncBound
import Derived.RangeFuncCalls
import Derived.RangeFuncLeaves
import Derived.RangeFuncWrites
import Derived.Shelf.Abstract
import Derived.Shelf.RegionOpen
import Derived.OwnWalkIn
import Derived.TacticsInMore
import Derived.LoopNIn
import Derived.LoopIn
set_option maxRecDepth 100000
set_option maxHeartbeats 16000000
open Go.Lib (hid)
namespace Go.Proofs.YtnhnldmldnhaoaaGreatDoor
open Go Go.RowKit Go.Proofs Go.Shelf Go.Lib Go.Sort
def encE (x:Int × Int):List Value:=[.int .i32 x.1,.int .i64 x.2]
def flatE (es:List (Int × Int)):List Value:=es.flatMap encE
theorem flatE_length (es:List (Int × Int)):(flatE es).length=es.length * 2:=by
  induction es with
  | nil=>rfl
  | cons x es ih=>simp only [flatE,List.flatMap_cons,List.length_append,List.length_cons] at ih ⊢;rw [ih];simp [encE];omega
theorem flatE_append (a b:List (Int × Int)):flatE (a ++ b)=flatE a ++ flatE b:=by simp [flatE]
theorem flatE_get:∀ (es:List (Int × Int)) (j:Nat) (h:j < es.length * 2),(flatE es)[j]? = some (encE (es[j / 2]'(by omega)))[j % 2]!
  | [],j,h=>by simp at h
  | x :: es,j,h=>by
    rw [show flatE (x :: es)=encE x ++ flatE es by simp [flatE]]
    by_cases h2:j < 2
    · match j,h2 with
      | 0,_=>simp [encE]
      | 1,_=>simp [encE]
    · obtain ⟨i,rfl⟩:∃ i,j=i+2:=⟨j - 2,by omega⟩
      have h3:i < es.length * 2:=by simp at h;omega
      rw [List.getElem?_append_right (by simp [encE])]
      rw [show i+2 - (encE x).length=i by simp [encE]]
      rw [flatE_get es i h3]
      have e1:(i+2) / 2=i / 2+1:=by omega
      have e2:(i+2) % 2=i % 2:=by omega
      simp only [e1,e2,List.getElem_cons_succ]
theorem flatK_flatE (es:List (Int × Int)):flatK encE 2 es.toArray=(flatE es).toArray:=by
  apply Array.ext_getElem?
  intro t
  by_cases h:t < es.length * 2
  · rw [show (flatE es).toArray[t]? = (flatE es)[t]? from List.getElem?_toArray ..,flatE_get es t h]
    have h0:t < (flatK encE 2 es.toArray).size:=by simpa using h
    rw [Array.getElem?_eq_getElem h0,← getElem!_pos _ t h0,get_flatK _ _ _ t (by simpa using h)]
    simp [show t / 2 < es.length by omega]
  · rw [Array.getElem?_eq_none (by simp;omega),Array.getElem?_eq_none (by simp [flatE_length];omega)]
theorem isNaN_rune (x:Int) (W:World):Calls Tryz.prog 145 #[.int .i32 x] W fun e w'=>e = .returned (.bool false)∧w'=W:=by
  go_enter Tryz.func145, Tryz.ntmps145
  go_wp2
  go_ret
  exact ⟨by simp,rfl⟩
theorem compare_rune (x y:Int) (W:World):Calls Tryz.prog 113 #[.int .i32 x,.int .i32 y] W fun e w'=>e = .returned (.int .i64 (Lib.compareInt x y))∧w'=W:=by
  have hx:=fun z w=>isNaN_rune z w
  by_cases h1:x < y
  · have e:Lib.compareInt x y = -1:=by simp [Lib.compareInt,h1]
    rw [e]
    go_enter Tryz.func113, Tryz.ntmps113
    go_wp2_with (go_at_call 145;refine (hx _ _).mono ?_;rintro e w' ⟨rfl,rfl⟩)
    go_ret
    exact ⟨rfl,rfl⟩
  · by_cases h2:y < x
    · have e:Lib.compareInt x y=1:=by simp [Lib.compareInt,h1,h2]
      rw [e]
      go_enter Tryz.func113, Tryz.ntmps113
      go_wp2_with (go_at_call 145;refine (hx _ _).mono ?_;rintro e w' ⟨rfl,rfl⟩)
      go_ret
      exact ⟨rfl,rfl⟩
    · have e:Lib.compareInt x y=0:=by simp [Lib.compareInt,h1,h2]
      rw [e]
      go_enter Tryz.func113, Tryz.ntmps113
      go_wp2_with (go_at_call 145;refine (hx _ _).mono ?_;rintro e w' ⟨rfl,rfl⟩)
      go_ret
      exact ⟨rfl,rfl⟩
theorem edges_less (x y:Int × Int) (W:World):Calls Tryz.prog 112 #[.agg #[.int .i32 x.1,.int .i64 x.2],.agg #[.int .i32 y.1,.int .i64 y.2]] W fun e w'=>e = .returned (.int .i64 (Lib.compareInt x.1 y.1))∧∃ q os',w'=grow (W.drewN q) os':=by
  have hcon:=fun W'=>compare_rune x.1 y.1 W'
  generalize Lib.compareInt x.1 y.1=r at hcon ⊢
  go_enter Tryz.func112, Tryz.ntmps112
  go_wp2_with (go_at_call 113;refine (hcon _).mono ?_;rintro e w' ⟨rfl,rfl⟩)
  go_ret
  exact ⟨rfl,0,_,by rw [alloc_eq_grow,alloc_eq_grow,grow_grow];rfl⟩
theorem ltEdge (x y:Int × Int):ltOf (fun x y:Int × Int=>Lib.compareInt x.1 y.1) x y=decide (x.1 < y.1):=by
  unfold ltOf Lib.compareInt
  by_cases h1:x.1 < y.1
  · simp [h1]
  · by_cases h2:y.1 < x.1 <;> simp [h1,h2]
theorem swoEdge:SWO (ltOf fun x y:Int × Int=>Lib.compareInt x.1 y.1) where
  irrefl x:=by rw [ltEdge];simp
  trans x y z h1 h2:=by rw [ltEdge] at *;simp at *;omega
  ntrans x y z h1 h2:=by rw [ltEdge] at *;simp at *;omega
/-! ### The empty row -/
theorem insertion_nil (f:Value) (W:World):Calls Tryz.prog 167 #[.slice none 0 0,.int .i64 0,.int .i64 0,f] W fun e w'=>e = .returned (.tuple #[])∧w'=W:=by
  go_enter Tryz.func167, Tryz.ntmps167
  go_wp2_with fail
  refine wp_loop_rounds 1 ?_;rw [rounds_succ]
  go_wp2_with fail
  go_end0
  exact ⟨rfl,rfl⟩
theorem pdq_nil (f:Value) (l:Int) (W:World):Calls Tryz.prog 144 #[.slice none 0 0,.int .i64 0,.int .i64 0,.int .i64 l,f] W fun e w'=>e = .returned (.tuple #[])∧w'=W:=by
  go_enter Tryz.func144, Tryz.ntmps144
  go_wp2_with fail
  refine wp_loop_rounds 1 ?_;rw [rounds_succ]
  go_wp2_with (go_at_call 167;refine (insertion_nil f _).mono ?_;rintro e w' ⟨rfl,rfl⟩)
  exact bodyPost_ret (results_none rfl _ _ _) rfl ⟨rfl,rfl⟩
theorem sort_nil (f:Value) (W:World):Calls Tryz.prog 111 #[.slice none 0 0,f] W fun e w'=>e = .returned (.tuple #[])∧w'=W:=by
  go_enter Tryz.func111, Tryz.ntmps111
  go_wp2_with (first | (go_at_call 93;refine (Tryz.bits_Len 0 _ (by omega) (by omega)).mono ?_;rintro e w' ⟨rfl,rfl⟩) | (go_at_call 144;refine (pdq_nil f _ _).mono ?_;rintro e w' ⟨rfl,rfl⟩))
  go_end0
  exact ⟨rfl,rfl⟩
/-! ### The row -/
theorem heapK {w:World} {g n:Nat} {os:Array Obj} {cur:Array Value} {e:TypeId} {fr:Nat × Nat} (d:Array Value) (hb:w.heap[g]? = some (.cells cur e fr)) :
    (grow (putRow id (Sort.ahead w n) g 0 d) os).heap[g]? = some (.cells (putCells id 0 d cur) e fr):=by
  have hg:g < w.heap.size:=(Array.getElem?_eq_some_iff.1 hb).1
  rw [heap_grow_old _ _ (by simpa using hg)]
  simp [putRow,mapBlock,Sort.ahead,Array.getElem?_modify,hb,onCells]
theorem grownBy_K {w:World} {g n:Nat} {os:Array Obj} (d:Array Value):w.grownBy (grow (putRow id (Sort.ahead w n) g 0 d) os) (some g):=by
  refine ⟨rfl,rfl,rfl,by simp,fun k hk hne=>?_⟩
  rw [heap_grow_old _ _ (by simpa using hk)]
  have:g≠k:=fun e=>hne (by rw [e])
  simp [putRow,mapBlock,Sort.ahead,Array.getElem?_modify,this]
theorem take_putK (cur:Array Value) (ts:List Value) (h:ts.length≤cur.size):(putCells id 0 ts.toArray cur).toList.take ts.length=ts:=by
  apply List.ext_getElem?
  intro j
  by_cases hj:j < ts.length
  · rw [List.getElem?_take_of_lt hj,Array.getElem?_toList]
    simp [putCells,hj,show j < cur.size by omega]
  · rw [List.getElem?_take_eq_none (by omega),List.getElem?_eq_none (by omega)]
theorem sort_edges (es:List (Int × Int)) (B:Nat) (v:Value) (w:World) (ho:w.ownsRow B 166 2 v es.length (flatE es)) (hl:es.length < 4611686018427387904) :
    Calls Tryz.prog 111 #[v,.func (.func 112) #[] #[]] w fun e w'=>e = .returned (.tuple #[])∧
      ∃ es',es'.Perm es∧es'.Pairwise (fun a b=>a.1≤b.1)∧w'.ownsRow B 166 2 v es'.length (flatE es')∧w.grownBy w' v.ownBlock:=by
  have ho':=ho
  rcases ho.2 with ⟨rfl,h0⟩ | ⟨g,cap,cur,rfl,hb,hg,h1,h2,h3,h4⟩
  · have:es=[]:=List.eq_nil_of_length_eq_zero h0
    subst this
    exact (sort_nil _ w).mono fun e w' h=>by obtain ⟨rfl,rfl⟩:=h;exact ⟨rfl,[],List.Perm.refl _,List.Pairwise.nil,ho',grownBy_refl _ _⟩
  · have eg:∀ args w,(callFunc 112 args).run Tryz.prog w = .ok (.enter 112 args) w:=enters_of Tryz.func112 (by kernel_rfl) rfl
    have hH:HoldsK encE 2 w g 0 es.toArray:=by
      unfold HoldsK
      rw [flatK_flatE]
      intro j hj
      have hj':j < es.length * 2:=by rw [← flatE_length];simpa using hj
      refine ⟨?_,by rw [Nat.zero_add];exact ho'.frozenAt j⟩
      rw [Nat.zero_add,ho'.cellAt j hj']
      have hj'':j < (flatE es).length:=by rw [flatE_length];exact hj'
      simp [hj'']
    have hcon:=AnyQ.slices_SortFunc Tryz.sortEdges 2 Tryz.isAgg166 Tryz.sizeOf166 encE (fun _=>rfl) (fun x v hv=>by simp [encE] at hv;rcases hv with rfl | rfl <;> rfl) (fun x y=>Lib.compareInt x.1 y.1) swoEdge 112 #[] g 0 cap es.toArray w eg
      (fun _ _ _ _ x y=>edges_less x y _) hH (Array.getElem?_eq_some_iff.1 hg).1 (by simpa using hl)
    refine hcon.mono ?_
    rintro e w' ⟨rfl,d',n,os,hp,hs,rfl⟩
    have hp1:d'.size=es.length:=by simpa using hp.1
    have hpp:d'.toList.Perm es:=by
      have:=hp.2.2
      simpa [hp1,Array.extract_eq_self_of_le] using this
    refine ⟨rfl,d'.toList,hpp,?_,?_,?_⟩
    · rw [List.pairwise_iff_getElem]
      intro i j hi hj hij
      have:=hs i j (Nat.zero_le _) hij (by simpa [hp1] using hj)
      rw [ltEdge,getElem!_pos d' i (by simpa using hi),getElem!_pos d' j (by simpa using hj)] at this
      simp at this ⊢
      exact this
    · have e1:flatK encE 2 d'=(flatE d'.toList).toArray:=by rw [← flatK_flatE,Array.toArray_toList]
      have e2:d'.toList.length=es.length:=by simpa using hp1
      unfold sortWorldK putRowK
      rw [e1]
      refine ⟨by rw [flatE_length],.inr ⟨g,cap,_,by rw [e2],hb,heapK _ hg,by rw [e2];exact h1,h2,by simp [putCells,h3],?_⟩⟩
      rw [← flatE_length]
      exact take_putK cur _ (by rw [flatE_length,e2];omega)
    · exact grownBy_K _
end Go.Proofs.YtnhnldmldnhaoaaGreatDoor
namespace Go.Proofs.YtnhnldmldnhaoaaGreatDoor
open Go Go.RowKit Go.Proofs Go.Shelf
theorem infoEdge:(Tryz.prog.info? 166).map (fun i=>(i.zero,i.size,i.bytes))=some (some (.agg #[.int .i32 0,.int .i64 0]),2,16):=by kernel_rfl
def ListsAt (w:World) (B:Nat) (ls:List (List (Int × Int))) (b:Nat):Prop:=
  ∀ j (h:j < ls.length),∃ sa sn sc,w.cell? ⟨b,j,none⟩=some (.slice sa sn sc)∧RangesV w B ls[j] sa sn sc
def edgesOf (ls:List (List (Int × Int))):List (Int × Int):=ls.flatMap edgesL
theorem edgesOf_snoc (a:List (List (Int × Int))) (x:List (Int × Int)):edgesOf (a ++ [x])=edgesOf a ++ edgesL x:=by simp [edgesOf]
theorem edgesL_snoc (a:List (Int × Int)) (l h:Int):edgesL (a ++ [(l,h)])=edgesL a ++ (if max l 0≤min h 1114111 then [(max l 0,1),(min h 1114111+1,-1)] else []):=by
  rw [edges_append];simp [edgesL]
theorem take_snoc {α} (l:List α) (k:Nat) (h:k < l.length):l.take (k+1)=l.take k ++ [l[k]]:=by simp
theorem edgesOf_split (ls:List (List (Int × Int))) (k:Nat) (h:k < ls.length):edgesOf ls=edgesOf (ls.take k) ++ (edgesL ls[k] ++ edgesOf (ls.drop (k+1))):=by
  have e:ls=ls.take k ++ (ls[k] :: ls.drop (k+1)):=by rw [← List.drop_eq_getElem_cons h,List.take_append_drop]
  calc edgesOf ls=edgesOf (ls.take k ++ (ls[k] :: ls.drop (k+1))):=by rw [← e]
    _=_:=by unfold edgesOf;rw [List.flatMap_append,List.flatMap_cons]
theorem cells_four_new (w:World) (a b c d:Value) (t:TypeId):∀ j u,[a,b,c,d][j]? = some u→(w.alloc (.cells #[a,b,c,d] t)).cell? ((⟨w.heap.size,0,none⟩:Addr).add j)=some u:=by
  intro j u hj
  match j,hj with
  | 0,hj=>simp at hj;subst hj;simp [Addr.add]
  | 1,hj=>simp at hj;subst hj;simp [Addr.add]
  | 2,hj=>simp at hj;subst hj;simp [Addr.add]
  | 3,hj=>simp at hj;subst hj;simp [Addr.add]
  | j+4,hj=>simp at hj
theorem edges_any (ls:List (List (Int × Int))) (b c B:Nat) (w:World) (h:ListsAt w B ls b) (hb:b < w.heap.size) (hB:B≤w.heap.size) (hn:ls.length≤1000) (hN:(edgesOf ls).length≤4000000000000) :
    Calls Tryz.prog 87 #[.slice (some ⟨b,0,none⟩) ls.length c] w fun e w'=>∃ v es,e = .returned v∧es.Perm (edgesOf ls)∧es.Pairwise (fun a b=>a.1≤b.1)∧
      w'.ownsRow w.heap.size 166 2 v es.length (flatE es)∧Below w.heap.size w w':=by
  obtain ⟨i0,hi,hz0,hz1,hz2⟩:=info_parts infoEdge
  have H:=hid h;clear h
  go_enter Tryz.func87, Tryz.ntmps87
  go_wp2_with fail
  go_loopw [3,12] (fun v i wr=>∃ k:Nat,k≤ls.length∧i = .int .i64 k∧wr.ownsRow w.heap.size 166 2 v (edgesOf (ls.take k)).length (flatE (edgesOf (ls.take k)))∧Below w.heap.size w wr) (fun _ i _=>ls.length - (intOf i).toNat)
  case atStart=>exact ⟨0,Nat.zero_le _,rfl,by simpa [edgesOf,flatE] using World.ownsRow_nil _ _ _ _,Below.refl _ _⟩
  case round=>
    obtain ⟨k,hk,rfl,ho,hbw⟩:=hrel
    by_cases hlt:k < ls.length
    · obtain ⟨sa,sn,sc,hc,hR⟩:=H.out k hlt
      have hc':=cell_lift hbw hb hc
      have HSN:=hid hR.1
      have HR:=hid hR.2
      have HT:=hid (take_snoc ls k hlt)
      have HO:=hid ho;have HB:=hid hbw
      clear hc hR ho hbw
      go_wp2_with fail
      go_loopw [3,18] (fun v i wr=>∃ k2:Nat,k2≤ls[k].length∧i = .int .i64 k2∧wr.ownsRow w.heap.size 166 2 v (edgesOf (ls.take k) ++ edgesL (ls[k].take k2)).length (flatE (edgesOf (ls.take k) ++ edgesL (ls[k].take k2)))∧Below w.heap.size w wr) (fun _ i _=>ls[k].length - (intOf i).toNat)
      case atStart=>exact ⟨0,Nat.zero_le _,rfl,by simpa [edgesL] using HO.out,HB.out⟩
      case round=>
        obtain ⟨k2,hk2,rfl,ho2,hbi⟩:=hrel
        have hsn:=HSN.out
        have hsn2:=HR.out.1.2
        have HOI:=hid ho2;have HBI:=hid hbi;have HBS:=hid hbi.size
        clear ho2 hbi
        by_cases hlt2:k2 < ls[k].length
        · rcases HR.out.2 with h0 | ⟨b2,o2,rfl,hb2B,hRA⟩
          · omega
          · obtain ⟨g1,g2⟩:=(hRA.below (HBI.out.mono hB) hb2B).get k2 hlt2
            have HS2:=hid (show edgesL (ls[k].take (k2+1))=edgesL (ls[k].take k2) ++ (if max ls[k][k2].1 0≤min ls[k][k2].2 1114111 then [(max ls[k][k2].1 0,1),(min ls[k][k2].2 1114111+1,-1)] else []) by
              rw [take_snoc _ _ hlt2];exact edgesL_snoc _ _ _)
            have HNL:=hid (show ((edgesOf (ls.take k) ++ edgesL (ls[k].take k2)) ++ (if max ls[k][k2].1 0≤min ls[k][k2].2 1114111 then [(max ls[k][k2].1 0,(1:Int)),(min ls[k][k2].2 1114111+1,-1)] else [])).length≤4000000000000 from by
              refine Nat.le_trans ?_ hN
              rw [List.append_assoc,← HS2.out,edgesOf_split ls k hlt]
              have e2:edgesL ls[k]=edgesL (ls[k].take (k2+1)) ++ edgesL (ls[k].drop (k2+1)):=by rw [← edges_append,List.take_append_drop]
              rw [e2];simp only [List.length_append];omega)
            obtain ⟨es,hes⟩:∃ es,es=edgesOf (ls.take k) ++ edgesL (ls[k].take k2):=⟨_,rfl⟩
            rw [← hes] at HOI HNL
            obtain ⟨l,hll⟩:∃ l,ls[k][k2].1=l:=⟨_,rfl⟩
            obtain ⟨h,hhh⟩:∃ h,ls[k][k2].2=h:=⟨_,rfl⟩
            rw [hll] at g1 HS2 HNL;rw [hhh] at g2 HS2 HNL
            have HES:=hid hes
            clear hRA hll hhh hes
            have hlt3:k2 < sn:=by omega
            clear hsn
            go_wp2_with fail
            go_region
            have HO3:=hid (show (wr.alloc (.cells #[.int .i32 l,.int .i32 h] 61)).drew.ownsRow w.heap.size 166 2 u3 es.length (flatE es) from (HOI.out.alloc _))
            have HB3:=hid (below_drewN (HBI.out.alloc HBS.out (.cells #[.int .i32 l,.int .i32 h] 61)) 1)
            obtain ⟨W1,hW1⟩:∃ W1,(wr.alloc (.cells #[.int .i32 l,.int .i32 h] 61)).drew=W1:=⟨_,rfl⟩
            have HB4:=hid (show Below w.heap.size w W1 from hW1 ▸ HB3.out)
            rw [hW1] at HO3 ⊢
            obtain ⟨lo,hlo⟩:∃ lo,max l 0=lo:=⟨_,rfl⟩
            obtain ⟨hi',hhi⟩:∃ hi',min h 1114111=hi':=⟨_,rfl⟩
            have hr1:0≤lo:=by omega
            have hr2:hi'≤1114111:=by omega
            rw [hlo,hhi] at HS2 HNL ⊢
            clear hW1 HB3 hlo hhi g1 g2
            by_cases c3:lo≤hi'
            · have hwr:IntKind.i32.wrap (hi'+1)=hi'+1:=IntWalk.i32_in _ (by omega)
              rw [if_pos c3] at HS2 HNL
              have hle:es.length+2≤4000000000000:=by have:=HNL.out;simpa using this
              have hW1s:=HB4.out.size
              go_wp2_with (at_builtin;refine wpList_append_own _ rfl _ _ 133 rfl w.heap.size 166 i0 (.agg #[.int .i32 0,.int .i64 0]) 2 16 Tryz.underlying133 hi hz0 hz1 hz2 rfl (by decide) _ _ _ rfl (HO3.out.alloc _) ⟨W1.heap.size,0,none⟩ 2 2 [.int .i32 lo,.int .i64 1,.int .i32 (hi'+1),.int .i64 (-1)] rfl rfl (cells_four_new _ _ _ _ _ _) (fun x hx=>by simp at hx;rcases hx with rfl | rfl | rfl | rfl <;> rfl) (by unfold maxLen;omega) (by omega) (by simp;omega) ?_;intro v' w3 hown' hgrow3 hnil3;have X:=hid (And.intro hown' (show Below w.heap.size w w3 from Below.grown (HB4.out.alloc hW1s _) hgrow3 (by simp;omega) (fun j hj=>(HO3.out.lt j hj).1)));clear hown' hgrow3 hnil3)
              go_roundw
              case rel=>
                refine ⟨k2+1,hlt2,by go_num,?_,X.out.2⟩
                rw [HS2.out,← List.append_assoc,← HES.out,flatE_append,List.length_append]
                exact X.out.1
              case measure=>simp [intOf];omega
            · rw [if_neg c3,List.append_nil] at HS2
              go_wp2_with fail
              go_roundw
              case rel=>
                refine ⟨k2+1,hlt2,by go_num,?_,HB4.out⟩
                rw [HS2.out,← HES.out]
                exact HO3.out
              case measure=>simp [intOf];omega
        · have hk2':k2=ls[k].length:=by omega
          subst hk2'
          rw [List.take_length] at HOI
          have hlt3:¬ ls[k].length < sn:=by omega
          clear hsn
          go_wp2_with fail
          go_roundw
          case rel=>
            refine ⟨k+1,hlt,by go_num,?_,HBI.out⟩
            rw [HT.out,edgesOf_snoc]
            exact HOI.out
          case measure=>simp [intOf];omega
    · have hk':k=ls.length:=by omega
      subst hk'
      rw [List.take_length] at ho
      have HO:=hid ho;have HB:=hid hbw
      clear ho hbw
      go_wp2_with fail
      refine (sort_edges _ _ _ _ HO.out (by omega)).mono ?_
      rintro e w2 ⟨rfl,es',hp,hs,ho2,hg⟩
      have HX:=hid (And.intro hp (And.intro hs ho2));have HG:=hid hg
      clear hp hs ho2 hg
      go_wp2_with fail
      go_ret
      exact ⟨_,es',rfl,HX.out.1,HX.out.2.1,HX.out.2.2,HB.out.grown HG.out HB.out.size (fun j hj=>(HO.out.lt j hj).1)⟩
end Go.Proofs.YtnhnldmldnhaoaaGreatDoor
namespace Go.Proofs.YtnhnldmldnhaoaaGreatDoor
open Go Go.RowKit Go.Proofs Go.Shelf
attribute [local go_sem] Oper.semAt_some
mutual
def parts:T→List T
  | .mk op kids rune set pl cap name mn mx lz=>.mk op kids rune set pl cap name mn mx lz :: partsL kids
def partsL:List T→List T
  | []=>[]
  | t :: ts=>parts t ++ partsL ts
end
theorem partsL_append (a b:List T):partsL (a ++ b)=partsL a ++ partsL b:=by
  induction a with
  | nil=>rfl
  | cons t a ih=>simp [partsL,ih]
theorem partsL_take (l:List T) (k:Nat) (h:k < l.length):partsL (l.take (k+1))=partsL (l.take k) ++ parts l[k]:=by
  rw [List.take_succ_eq_append_getElem h,partsL_append];simp [partsL]
theorem partsL_take_prefix (l:List T) (k:Nat):partsL (l.take k) <+: partsL l:=by
  have h:=partsL_append (l.take k) (l.drop k)
  rw [List.take_append_drop] at h
  exact ⟨_,h.symm⟩
abbrev Part (w0:World) (B:Nat) (Pr:T→Prop):={ x:T × List Value // TreeV w0 B x.1 x.2∧Pr x.1 }
theorem mem_partsL {l:List T} {k:Nat} (hk:k < l.length) {p:T} (h:p ∈ parts l[k]):p ∈ partsL l:=by
  have e:=partsL_take_prefix l (k+1)
  rw [partsL_take l k hk] at e
  exact e.subset (List.mem_append.2 (.inr h))
theorem mem_parts_kid {op:Int} {kids:List T} {rune:Int} {set:List (Int × Int)} {pl cap:Int} {name:ByteArray} {mn mx:Int} {lz:Bool} {k:Nat} (hk:k < kids.length) {p:T} (h:p ∈ parts kids[k]) :
    p ∈ parts (.mk op kids rune set pl cap name mn mx lz):=by
  simp only [parts,List.mem_cons];exact .inr (mem_partsL hk h)
theorem mem_parts_self (t:T):t ∈ parts t:=by cases t;simp [parts]
def KpT (n₀ L:Nat) (W W':World):Prop:=Below n₀ W W'∧∀ b,L≤b→∀ (cs:Array Value) (z:Nat × Nat),W.heap[b]? = some (.cells cs 29 z)→W'.heap[b]? = W.heap[b]?
theorem KpT.refl (n₀ L:Nat) (W:World):KpT n₀ L W W:=⟨Below.refl _ _,fun _ _ _ _ _=>rfl⟩
theorem KpT.trans {n₀ L:Nat} {A B C:World} (h:KpT n₀ L A B) (k:KpT n₀ L B C):KpT n₀ L A C:=by
  refine ⟨h.1.trans k.1,fun b hb cs z ho=>?_⟩
  have h1:=h.2 b hb cs z ho
  exact (k.2 b hb cs z (by rw [h1];exact ho)).trans h1
theorem KpT.alloc {n₀ L:Nat} {W:World} (h:n₀≤W.heap.size) (o:Obj):KpT n₀ L W (W.alloc o):=
  ⟨(Below.refl _ W).alloc h o,fun b _ _ _ ho=>Below.heap_alloc W o b (Array.getElem?_eq_some_iff.1 ho).1⟩
theorem KpT.book {n₀ L:Nat} {w:World} (hn:n₀≤w.heap.size) (W:World) (l:Nat) (o o':Obj) (hl:w.heap.size≤l) (h:W.heap[l]? = some o) (hc:o.isCells=false) (hw:o.isWalk=false):KpT n₀ L W (W.putObj l o'):=by
  refine ⟨belowK_b hn W l o o' hl h hc hw,fun b _ cs z hp=>?_⟩
  have hne:b≠l:=fun e=>by rw [e,h] at hp;cases hp;cases hc
  exact (grownBy_putObj' W l o').block b (Array.getElem?_eq_some_iff.1 hp).1 (fun e=>hne (Option.some.inj e))
theorem KpT.row {n₀ L:Nat} {W W':World} (h:KpT n₀ L W W') {b:Nat} (hb:L≤b) {cs:Array Value} {z:Nat × Nat} (hc:W.heap[b]? = some (.cells cs 29 z)):W'.heap[b]? = some (.cells cs 29 z):=
  (h.2 b hb _ _ hc).trans hc
theorem each_in (F:Fence) (hd:F.depth=none) (h6:F.fn 38) (hro:F.round=none) (l n₀ L N B:Nat) (w0:World) (Pr:T→Prop) (hB0:B≤n₀) (hnL:n₀≤L) (J Jx:List (Part w0 B Pr)→World→Prop)
    (hJa:∀ s W o,J s W→J s (W.alloc o))
    (hY:∀ m pre x W,J pre W→pre.length < N→YieldAt F m Tryz.prog l #[.agg x.1.2.toArray] W fun e W'=>
      (e = .returned (.bool true)∧J (pre ++ [x]) W'∧KpT n₀ L W W')∨(e = .returned (.bool false)∧Jx (pre ++ [x]) W')) (t:T) :
    ∀ (n:Nat) (cs:List Value) (pre:List (Part w0 B Pr)) (W:World),TreeV w0 B t cs→(∀ p ∈ parts t,Pr p)→Below n₀ w0 W→L≤W.heap.size→J pre W→pre.length+(parts t).length≤N→
      CallsIn F n Tryz.prog 38 #[.agg cs.toArray,.func (.yield l) #[] #[]] W fun e W'=>
        (e = .returned (.bool true)∧(∃ xs:List (Part w0 B Pr),xs.map (·.1.1)=parts t∧J (pre ++ xs) W')∧KpT n₀ L W W')∨
        (e = .returned (.bool false)∧∃ q:List (Part w0 B Pr),q.map (·.1.1) <+: parts t∧Jx (pre ++ q) W'):=by
  induction t using T.ind with
  | h op kids rune set pl cap name mn mx lz ih=>
    intro n cs pre W ht hPr hb hLW hJ hN
    have hdd:∀ k:Nat,(F.depth.isSome=true→1≤k):=fun k h=>by rw [hd] at h;cases h
    have IH:=hid ih;clear ih
    have HPr:=hid hPr
    have hPs:=hPr _ (mem_parts_self _)
    clear hPr
    obtain ⟨x,hx⟩:∃ x:Part w0 B Pr,x=⟨(.mk op kids rune set pl cap name mn mx lz,cs),ht,hPs⟩:=⟨_,rfl⟩
    obtain ⟨ka,kn,kc,sa,sn,sc,rfl,⟨rfl,h2,h3⟩,h4⟩:=ht.open
    obtain ⟨W1,hW1⟩:∃ W1,W1=W.alloc (.cells #[.int .i64 op,.slice ka kids.length kc,.int .i32 rune,.slice sa sn sc,.int .i64 pl,.int .i64 cap,.string name,.int .i64 mn,.int .i64 mx,.bool lz] 29):=⟨_,rfl⟩
    have hbox:W1.heap[W.heap.size]? = some (.cells #[.int .i64 op,.slice ka kids.length kc,.int .i32 rune,.slice sa sn sc,.int .i64 pl,.int .i64 cap,.string name,.int .i64 mn,.int .i64 mx,.bool lz] 29 (0,0)):=by rw [hW1];exact World.alloc_heap_new W _
    have hJ1:J pre W1:=by rw [hW1];exact hJa _ _ _ hJ
    have hK1:KpT n₀ L W W1:=by rw [hW1];exact KpT.alloc (by omega) _
    have hy:=YieldAt.mono (R':=fun e W'=>(e = .returned (.bool true)∧(J (pre ++ [x]) W'∧KpT n₀ L W W')∧W'.cell? ⟨W.heap.size,1,none⟩=some (.slice ka kids.length kc))∨(e = .returned (.bool false)∧Jx (pre ++ [x]) W'))
      (hY (n - 1) pre x W1 hJ1 (by simp only [parts,List.length_cons] at hN;omega))
      (fun e W' h=>h.imp (fun ⟨a,b,c⟩=>⟨a,⟨b,hK1.trans c⟩,by simp [World.cell?,c.row hLW hbox]⟩) id)
    have HX:=hid hx
    have HH3:=hid h3
    have c0:W1.cell? ⟨W.heap.size,0,none⟩=some (.int .i64 op):=by simp [World.cell?,hbox]
    clear h3 h4 hbox hJ hJ1 hK1
    refine callsIn_of_wp Tryz.func38 rfl h6 ?_ hro
    simp only [Tryz.ntmps38,List.size_toArray,List.length_cons,List.length_nil,Nat.reduceAdd,Nat.reduceSub,Array.replicate_succ,Array.replicate_zero,List.push_toArray,List.append_toArray,List.nil_append,List.cons_append]
    obtain ⟨fn,tmps,assign,body,hy,hR⟩:=hy
    rw [hx,hW1] at hy
    dsimp only at hy
    rw [hW1] at hR
    clear hx c0
    gi_wp2_with ((try refine ⟨hdd _,?_⟩);refine hR.mono ?_;clear hR;rintro e W2 (⟨rfl,hJK,c2⟩ | ⟨rfl,hx2⟩))
    · have HK:=hid hJK;clear hJK
      clear hy hW1
      gi_loopw [14] (fun i wr=>∃ (k:Nat) (xs:List (Part w0 B Pr)),k≤kids.length∧i = .int .i64 k∧xs.map (·.1.1)=partsL (kids.take k)∧J (pre ++ [x] ++ xs) wr∧KpT n₀ L W wr) (fun i _=>kids.length - (intOf i).toNat)
      case atStart=>exact ⟨0,[],Nat.zero_le _,rfl,rfl,by simpa using HK.out.1,HK.out.2⟩
      case round=>
        obtain ⟨k,xs,hk,rfl,hxs,hJ3,hK3⟩:=hrel
        have hsz:=hK3.1.size
        by_cases hlt:k < kids.length
        · rcases HH3.out with h0 | ⟨b,o,rfl,hbB,hKA⟩
          · omega
          obtain ⟨cs,hc,hr⟩:=hKA.get k hlt
          have hr':=hr.below (hb.trans hK3.1) (by omega)
          have hcl:=hc.length
          obtain ⟨op1,ka1,kn1,kc1,rune1,sa1,sn1,sc1,pl1,cap1,name1,mn1,mx1,lz1,rfl⟩:=hc.form
          obtain ⟨g0,g1,g2,g3,g4,g5,g6,g7,g8,g9⟩:=hr'.ten
          have hpl:(pre ++ [x] ++ xs).length+(parts kids[k]).length≤N:=by
            have e1:=congrArg List.length hxs
            have e2:=(partsL_take_prefix kids (k+1)).length_le
            rw [partsL_take kids k hlt] at e2
            simp only [List.length_map] at e1
            simp only [List.length_append] at e2
            simp only [parts,List.length_cons] at hN
            simp only [List.length_append,List.length_cons,List.length_nil]
            omega
          have hJ4:=hJa _ _ (.cells #[.int .i64 op1,.slice ka1 kn1 kc1,.int .i32 rune1,.slice sa1 sn1 sc1,.int .i64 pl1,.int .i64 cap1,.string name1,.int .i64 mn1,.int .i64 mx1,.bool lz1] 29) hJ3
          have hcall:=IH.out _ (List.getElem_mem hlt) (n - 1) _ (pre ++ [x] ++ xs) (wr.alloc (.cells #[.int .i64 op1,.slice ka1 kn1 kc1,.int .i32 rune1,.slice sa1 sn1 sc1,.int .i64 pl1,.int .i64 cap1,.string name1,.int .i64 mn1,.int .i64 mx1,.bool lz1] 29)) hc (fun p hp=>HPr.out p (mem_parts_kid hlt hp))
            ((hb.trans hK3.1).trans (KpT.alloc (n₀:=n₀) (L:=L) (by omega) _).1) (by simp only [World.size_alloc];omega) hJ4 hpl
          have HK3:=hid (hK3.trans (KpT.alloc (n₀:=n₀) (L:=L) (W:=wr) (by omega) (.cells #[.int .i64 op1,.slice ka1 kn1 kc1,.int .i32 rune1,.slice sa1 sn1 sc1,.int .i64 pl1,.int .i64 cap1,.string name1,.int .i64 mn1,.int .i64 mx1,.bool lz1] 29)))
          have HXS:=hid hxs
          clear hr hr' hc hcl hJ3 hK3 hxs hJ4 hpl
          gi_wp2_with ((try refine ⟨hdd _,?_⟩);gi_at_call 38;refine hcall.mono ?_;clear hcall;rintro e W3 (⟨rfl,⟨ys,hys,hJ5⟩,hK5⟩ | ⟨rfl,q,hq,hx5⟩))
          · go_roundw
            case rel=>
              refine ⟨k+1,xs ++ ys,hlt,by go_num,?_,by simpa [List.append_assoc] using hJ5,HK3.out.trans hK5⟩
              rw [List.map_append,HXS.out,hys,partsL_take kids k hlt]
            case measure=>simp [intOf];omega
          · go_ret
            refine .inr ⟨rfl,[x] ++ xs ++ q,?_,by simpa [List.append_assoc] using hx5⟩
            obtain ⟨r,hr⟩:=hq
            have e2:=partsL_take_prefix kids (k+1)
            rw [partsL_take kids k hlt,← hr] at e2
            obtain ⟨r2,hr2⟩:=e2
            refine ⟨r ++ r2,?_⟩
            simp only [parts,List.map_append,List.map_cons,List.map_nil,HXS.out,HX.out]
            rw [← hr2];simp [List.append_assoc]
        · obtain rfl:k=kids.length:=by omega
          gi_wp2
          go_ret
          refine .inl ⟨rfl,⟨[x] ++ xs,?_,by simpa [List.append_assoc] using hJ3⟩,hK3⟩
          rw [List.take_length] at hxs
          simp only [parts,List.map_append,List.map_cons,List.map_nil,hxs,HX.out];rfl
    · gi_wp2
      go_ret
      refine .inr ⟨rfl,[x],?_,hx2⟩
      refine ⟨partsL kids,?_⟩
      simp only [parts,List.map_cons,List.map_nil,HX.out];rfl
theorem YieldAt.anyDepthK {F:Fence} (hd:F.depth=none) {m:Nat} (m':Nat) {P:Program} {l:Nat} {args:Array Value} {W:World} {R:Ending→World→Prop} (h:YieldAt F m P l args W R):YieldAt F m' P l args W R:=by
  obtain ⟨fn,tmps,assign,body,hy,hR⟩:=h
  exact ⟨fn,tmps,assign,body,hy,⟨hR.1,fun c cs _=>hR.2 c cs (fun d h=>by rw [hd] at h;cases h)⟩⟩
theorem all_in (F:Fence) (n:Nat) (h4:F.fn 24) (hro:F.round=none) (t:T) (B:Nat) (w0:World) (cs:List Value) (ht:TreeV w0 B t cs) (w:World) :
    CallsIn F n Tryz.prog 24 #[.agg cs.toArray] w fun e w'=>e = .returned (.func (.func 37) #[] #[.pointer (some ⟨w.heap.size,0,none⟩)])∧w'=w.alloc (.cells cs.toArray 29):=by
  obtain ⟨op1,ka1,kn1,kc1,rune1,sa1,sn1,sc1,pl1,cap1,name1,mn1,mx1,lz1,rfl⟩:=ht.form
  refine callsIn_of_wp Tryz.func24 rfl h4 ?_ hro
  simp only [Tryz.ntmps24,List.size_toArray,List.length_cons,List.length_nil,Nat.reduceAdd,Nat.reduceSub,Array.replicate_succ,Array.replicate_zero,List.push_toArray,List.append_toArray,List.nil_append,List.cons_append]
  gi_wp2
  go_ret
  exact ⟨rfl,rfl⟩
theorem all1_in (F:Fence) (hd:F.depth=none) (n:Nat) (h5:F.fn 37) (h6:F.fn 38) (hro:F.round=none) (l Bt n₀ L B:Nat) (w0:World) (Pr:T→Prop) (hB0:B≤n₀) (hnL:n₀≤L) (t:T) (cs:List Value) (ht:TreeV w0 B t cs) (hPr:∀ p ∈ parts t,Pr p) (N:Nat) (hN:(parts t).length≤N)
    (J Jx:List (Part w0 B Pr)→World→Prop) (hJa:∀ s W o,J s W→J s (W.alloc o))
    (hY:∀ pre x W,J pre W→pre.length < N→YieldAt F (n - 1) Tryz.prog l #[.agg x.1.2.toArray] W fun e W'=>
      (e = .returned (.bool true)∧J (pre ++ [x]) W'∧KpT n₀ L W W')∨(e = .returned (.bool false)∧Jx (pre ++ [x]) W'))
    (W:World) (hbox:W.heap[Bt]? = some (.cells cs.toArray 29 (0,0))) (hb:Below n₀ w0 W) (hL:L≤W.heap.size) (h0:J [] W) :
    CallsIn F n Tryz.prog 37 #[.func (.yield l) #[] #[],.pointer (some ⟨Bt,0,none⟩)] W fun e W'=>(∃ v,e = .returned v)∧
      ((∃ ys:List (Part w0 B Pr),ys.map (·.1.1)=parts t∧J ys W')∨(∃ pre:List (Part w0 B Pr),pre.map (·.1.1) <+: parts t∧Jx pre W')):=by
  have hdd:∀ k:Nat,(F.depth.isSome=true→1≤k):=fun k h=>by rw [hd] at h;cases h
  have hp:=each_in F hd h6 hro l n₀ L N B w0 Pr hB0 hnL J Jx hJa (fun m pre x W hj hl=>YieldAt.anyDepthK hd m (hY pre x W hj hl)) t (n - 1) cs [] W ht hPr hb hL h0 (by simpa using hN)
  obtain ⟨op1,ka1,kn1,kc1,rune1,sa1,sn1,sc1,pl1,cap1,name1,mn1,mx1,lz1,rfl⟩:=ht.form
  have c0:W.cell? ⟨Bt,0,none⟩=some (.int .i64 op1):=by simp [World.cell?,hbox]
  have c1:W.cell? ⟨Bt,1,none⟩=some (.slice ka1 kn1 kc1):=by simp [World.cell?,hbox]
  have c2:W.cell? ⟨Bt,2,none⟩=some (.int .i32 rune1):=by simp [World.cell?,hbox]
  have c3:W.cell? ⟨Bt,3,none⟩=some (.slice sa1 sn1 sc1):=by simp [World.cell?,hbox]
  have c4:W.cell? ⟨Bt,4,none⟩=some (.int .i64 pl1):=by simp [World.cell?,hbox]
  have c5:W.cell? ⟨Bt,5,none⟩=some (.int .i64 cap1):=by simp [World.cell?,hbox]
  have c6:W.cell? ⟨Bt,6,none⟩=some (.string name1):=by simp [World.cell?,hbox]
  have c7:W.cell? ⟨Bt,7,none⟩=some (.int .i64 mn1):=by simp [World.cell?,hbox]
  have c8:W.cell? ⟨Bt,8,none⟩=some (.int .i64 mx1):=by simp [World.cell?,hbox]
  have c9:W.cell? ⟨Bt,9,none⟩=some (.bool lz1):=by simp [World.cell?,hbox]
  clear hbox
  refine callsIn_of_wp Tryz.func37 rfl h5 ?_ hro
  simp only [Tryz.ntmps37,List.size_toArray,List.length_cons,List.length_nil,Nat.reduceAdd,Nat.reduceSub,Array.replicate_succ,Array.replicate_zero,List.push_toArray,List.append_toArray,List.nil_append,List.cons_append]
  gi_wp2_with ((try refine ⟨hdd _,?_⟩);gi_at_call 38;refine hp.mono ?_;clear hp;rintro e W1 (⟨rfl,⟨ys,hys,hJ1⟩,_⟩ | ⟨rfl,q,hq,hx⟩))
  · go_end0
    exact ⟨⟨_,rfl⟩,.inl ⟨ys,hys,by simpa using hJ1⟩⟩
  · go_end0
    exact ⟨⟨_,rfl⟩,.inr ⟨q,hq,by simpa using hx⟩⟩
theorem all_stops (F:Fence) (hd:F.depth=none) (n:Nat) (h5:F.fn 37) (h6:F.fn 38) (hro:F.round=none) (Bt n₀ L B:Nat) (w0:World) (Pr:T→Prop) (hB0:B≤n₀) (hnL:n₀≤L) (t:T) (cs:List Value) (ht:TreeV w0 B t cs) (hPr:∀ p ∈ parts t,Pr p) (N:Nat) (hN:(parts t).length≤N)
    (w:World) (hBt:w.heap[Bt]? = some (.cells cs.toArray 29 (0,0))) (hb:Below n₀ w0 w) (hL:L≤w.heap.size) :
    SeqStopsK F n Tryz.prog 37 #[.pointer (some ⟨Bt,0,none⟩)] (fun x:Part w0 B Pr=>#[.agg x.1.2.toArray]) (KpT n₀ L) (fun ys=>ys.map (·.1.1)=parts t) (fun pre=>pre.map (·.1.1) <+: parts t) N w:=fun l J Jx W hW hJ _ hY h0=>
  all1_in F hd n h5 h6 hro l Bt n₀ L B w0 Pr hB0 hnL t cs ht hPr N hN J Jx (fun s A o hs=>hJ s A _ none hs (World.grownBy_alloc A o none) (fun r e=>by cases e)) hY W
    ((hW.block Bt (Array.getElem?_eq_some_iff.1 hBt).1).trans hBt) (hb.trans (hW.mono (by omega))) (Nat.le_trans hL hW.size) h0
end Go.Proofs.YtnhnldmldnhaoaaGreatDoor
