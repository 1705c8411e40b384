/- The reader of patterns: a rune's atom. A text's runes, its atoms. The reader of patterns: a text's atoms. -/
import Derived.Test.YtnhnldmldnhaoaaGreatDoorSNext
import Derived.Test.YtnhnldmldnhaoaaGreatDoorSOrbPure
import Derived.Test.YtnhnldmldnhaoaaGreatDoorSOrbWalk
import Derived.Test.YtnhnldmldnhaoaaGreatDoorSRefHas
import Derived.Lib.OthersKept
import Derived.Lib.RuneCount
set_option maxRecDepth 100000
set_option maxHeartbeats 16000000
open Go.Lib (hid)
namespace Go.Proofs.YtnhnldmldnhaoaaGreatDoor
open Go Go.RowKit Go.Proofs Go.Shelf
theorem laid_setF {w W:World} {out:List (Int × Int)} {v:Value} (h:Laid w W out v) (hN:out.length≤140737488351232):∃ sa sc,v = .slice sa out.length sc∧SetF W (fun k=>Fresh w W k) out sa out.length sc:=by
  obtain ⟨sa,sc,rfl,hr,hz⟩:=Laid.ranges h hN
  have hlt:=h.lt
  refine ⟨sa,sc,rfl,hr.1,hr.2.1,?_⟩
  rcases hr.2.2 with h0 | ⟨b,o,rfl,hb,hat⟩
  · exact .inl h0
  · exact .inr ⟨b,o,rfl,⟨(hlt b rfl).1,hb⟩,hat⟩
theorem dup_snoc (os:List Int) (q:Nat) (h:q < os.length) (x:Int) (hx:os[q]=x):dupR (os.take (q+1))=dupR (os.take q) ++ [(x,x)]:=by
  rw [List.take_succ_eq_append_getElem h,hx]
  simp [dupR]
theorem dup_len (os:List Int):(dupR os).length=os.length:=by unfold dupR;rw [List.length_map]
theorem syn_atom_rune (f c:Int) (w:World) (h0:0≤c) (h1:c≤1114111) (hn:¬ (onB f 1=true∧1 < (orbL c).length)) :
    Calls Tryz.prog 46 #[.agg #[.int .i64 f],.int .i32 c] w fun e w'=>e = .returned (.agg (leafC 3 c none 0 0 0).toArray)∧Below w.heap.size w w':=by
  obtain ⟨W0,hW0⟩:∃ W0,W0=(w.alloc (.cells #[.int .i64 f] 49)).alloc (.cells zero10.toArray 29):=⟨_,rfl⟩
  have K0:=hid (show Blk W0 w.heap.size [.int .i64 f] 49 by rw [hW0];exact (Blk.new w [.int .i64 f] 49).alloc _)
  have L0:=hid (show Blk W0 (w.heap.size+1) zero10 29 by
    have k:=Blk.new (w.alloc (.cells #[.int .i64 f] 49)) zero10 29
    rw [World.size_alloc] at k
    rw [hW0];exact k)
  have B0:=hid (show Below w.heap.size w W0 by rw [hW0];exact ((Below.refl _ w).alloc (Nat.le_refl _) _).alloc (by simp) _)
  have HO:=hid (show Calls Tryz.prog 58 #[.int .i32 c] W0 (OrbOut c W0) from tables_Orbit c W0 h0 h1)
  rw [hW0] at HO
  have HW:=hid hW0
  clear hW0
  go_enter Tryz.func46, Tryz.ntmps46
  go_wp2_with fail
  refine (HO.out).mono ?_
  rintro e w3 ⟨ov,os,rfl,hperm,hown,hB⟩
  rw [← HW.out] at hB
  have hpos:0 < os.length:=by rw [hperm.length_eq];exact List.length_pos_of_mem (orb_self c)
  obtain ⟨og,ocap,rfl,_,_⟩:=World.ownsRow.form hown hpos
  have K3:=hid (Blk.below K0.out hB K0.out.lt);have L3:=hid (Blk.below L0.out hB L0.out.lt)
  have B3:=hid (B0.out.trans (hB.mono B0.out.size))
  have km:=Blk.cell K3.out (j:=0) rfl
  have HL:=hid hperm.length_eq
  have HN:=hid hn
  clear hperm hown hB hn hpos
  go_wp2_with fail
  refine (syn_on f 1 _).mono ?_
  rintro e w4 ⟨rfl,hB⟩
  have L4:=hid (Blk.below L3.out hB L3.out.lt);have B4:=hid (B3.out.trans (hB.mono B3.out.size))
  clear hB km
  obtain ⟨c0,c1,c2,c3,c4,c5,c6,c7,c8,c9,f0,f1,f2,f3,f4,f5,f6,f7,f8,f9⟩:=L4.out.ten
  have hff:onB f 1=false∨(onB f 1=true∧¬ 1 < os.length):=by
    cases hx:onB f 1 with
    | false=>exact .inl rfl
    | true=>exact .inr ⟨rfl,fun h=>HN.out ⟨hx,by rw [← HL.out];exact h⟩⟩
  rcases hff with hx | ⟨hx,hl⟩
  · rw [hx]
    go_wp2_with fail
    change bodyPost _ _ _ _ _ (World.set10 w4 (w.heap.size+1) (.int .i64 3) (.slice none 0 0) (.int .i32 c) (.slice none 0 0) (.int .i64 0) (.int .i64 0) (.string ⟨#[]⟩) (.int .i64 0) (.int .i64 0) (.bool false))
    have O:=L4.out.set10 (.int .i64 3) (.slice none 0 0) (.int .i32 c) (.slice none 0 0) (.int .i64 0) (.int .i64 0) (.string ⟨#[]⟩) (.int .i64 0) (.int .i64 0) (.bool false)
    obtain ⟨d0,d1,d2,d3,d4,d5,d6,d7,d8,d9,_,_,_,_,_,_,_,_,_,_⟩:=O.ten
    refine ⟨rfl,.agg (leafC 3 c none 0 0 0).toArray,?_,rfl,below_next B4.out (Nat.le_refl _) (grownBy_set10 _ _ _ _ _ _ _ _ _ _ _ _) (fun k e=>by cases e;omega)⟩
    simp [results,Tryz.results46,go_sem,leafC,d0,d1,d2,d3,d4,d5,d6,d7,d8,d9]
  · rw [hx]
    have hl':¬ (1:Int) < (os.length:Int):=by omega
    go_wp2_with fail
    change bodyPost _ _ _ _ _ (World.set10 w4 (w.heap.size+1) (.int .i64 3) (.slice none 0 0) (.int .i32 c) (.slice none 0 0) (.int .i64 0) (.int .i64 0) (.string ⟨#[]⟩) (.int .i64 0) (.int .i64 0) (.bool false))
    have O:=L4.out.set10 (.int .i64 3) (.slice none 0 0) (.int .i32 c) (.slice none 0 0) (.int .i64 0) (.int .i64 0) (.string ⟨#[]⟩) (.int .i64 0) (.int .i64 0) (.bool false)
    obtain ⟨d0,d1,d2,d3,d4,d5,d6,d7,d8,d9,_,_,_,_,_,_,_,_,_,_⟩:=O.ten
    refine ⟨rfl,.agg (leafC 3 c none 0 0 0).toArray,?_,rfl,below_next B4.out (Nat.le_refl _) (grownBy_set10 _ _ _ _ _ _ _ _ _ _ _ _) (fun k e=>by cases e;omega)⟩
    simp [results,Tryz.results46,go_sem,leafC,d0,d1,d2,d3,d4,d5,d6,d7,d8,d9]
theorem syn_atom_set (f c:Int) (w:World) (h0:0≤c) (h1:c≤1114111) (hx:onB f 1=true) (hn:1 < (orbL c).length) :
    Calls Tryz.prog 46 #[.agg #[.int .i64 f],.int .i32 c] w fun e w'=>∃ cs,e = .returned (.agg cs.toArray)∧TreeF w' (fun k=>Fresh w w' k) (setT (normL fun x=>decide (x ∈ orbL c))) cs∧Below w.heap.size w w':=by
  obtain ⟨i0,hi,hz0,hz1,hz2⟩:=info_parts infoRange
  obtain ⟨W0,hW0⟩:∃ W0,W0=(w.alloc (.cells #[.int .i64 f] 49)).alloc (.cells zero10.toArray 29):=⟨_,rfl⟩
  have K0:=hid (show Blk W0 w.heap.size [.int .i64 f] 49 by rw [hW0];exact (Blk.new w [.int .i64 f] 49).alloc _)
  have L0:=hid (show Blk W0 (w.heap.size+1) zero10 29 by
    have k:=Blk.new (w.alloc (.cells #[.int .i64 f] 49)) zero10 29
    rw [World.size_alloc] at k
    rw [hW0];exact k)
  have B0:=hid (show Below w.heap.size w W0 by rw [hW0];exact ((Below.refl _ w).alloc (Nat.le_refl _) _).alloc (by simp) _)
  have HO:=hid (show Calls Tryz.prog 58 #[.int .i32 c] W0 (OrbOut c W0) from tables_Orbit c W0 h0 h1)
  rw [hW0] at HO
  have HW:=hid hW0
  clear hW0
  go_enter Tryz.func46, Tryz.ntmps46
  go_wp2_with fail
  refine (HO.out).mono ?_
  rintro e w3 ⟨ov,os,rfl,hperm,hown,hB⟩
  rw [← HW.out] at hB
  have hpos:0 < os.length:=by rw [hperm.length_eq];exact List.length_pos_of_mem (orb_self c)
  obtain ⟨og,ocap,rfl,_,_⟩:=World.ownsRow.form hown hpos
  have K3:=hid (Blk.below K0.out hB K0.out.lt);have L3:=hid (Blk.below L0.out hB L0.out.lt)
  have B3:=hid (B0.out.trans (hB.mono B0.out.size))
  have km:=Blk.cell K3.out (j:=0) rfl
  have hol:os.length≤3:=by rw [hperm.length_eq,← (orb_good h0 h1).2.2.2.length_eq];exact (orb_good h0 h1).2.1
  have hlt:1 < os.length:=by rw [hperm.length_eq];exact hn
  have hlt':(1:Int) < (os.length:Int):=by omega
  have HPM:=hid hperm;have HOW:=hid hown
  clear hperm hown hB hn hpos
  go_wp2_with fail
  refine (syn_on f 1 _).mono ?_
  rintro e w4 ⟨rfl,hB⟩
  have L4:=hid (Blk.below L3.out hB L3.out.lt);have B4:=hid (B3.out.trans (hB.mono B3.out.size))
  have O4:=hid (show OwnR w4 W0.heap.size (.slice (some ⟨og,0,none⟩) os.length ocap) os from by rw [HW.out];exact HOW.out.kept (grownBy_below hB none) (.inr (by simp [Value.ownBlock])))
  clear hB km
  rw [hx]
  go_wp2_with fail
  go_loopw [6,20] (fun lv iv W=>∃ k:Nat,k≤os.length∧iv = .int .i64 k∧Below w4.heap.size w4 W∧W.ownsRow w4.heap.size 61 2 lv (dupR (os.take k)).length (flatR (dupR (os.take k)))) (fun _ iv _=>os.length - (intOf iv).toNat)
  case atStart=>exact ⟨0,Nat.zero_le _,rfl,Below.refl _ _,World.ownsRow_nil _ _ _ _⟩
  case round=>
    obtain ⟨k,hk,rfl,hbw,hro⟩:=hrel
    have BW:=hid hbw;have RO:=hid hro
    have OW:=hid (show OwnR wr W0.heap.size (.slice (some ⟨og,0,none⟩) os.length ocap) os from O4.out.kept (grownBy_below hbw none) (.inr (by simp [Value.ownBlock])))
    clear hbw hro
    by_cases hqo:k < os.length
    case pos=>
      have gq:=OW.out.cellAt k (by omega)
      rw [vR_get os k hqo] at gq
      obtain ⟨x,hx'⟩:∃ x,os[k]=x:=⟨_,rfl⟩
      rw [hx'] at gq
      have hqi:(k:Int) < (os.length:Int):=by omega
      have HX:=hid hx';clear hx'
      have hml:(dupR (os.take k)).length≤3:=by rw [dup_len,List.length_take];omega
      have hzr:=BW.out.size
      go_wp2_with (at_builtin;refine wpList_append_own_at _ rfl _ _ 26 rfl w4.heap.size 61 i0 (.agg #[.int .i32 0,.int .i32 0]) 2 8 Tryz.underlying26 hi hz0 hz1 hz2 rfl (by decide) u6 (dupR (os.take k)).length (flatR (dupR (os.take k))) rfl (RO.out.alloc (.cells #[.int .i32 x,.int .i32 x] 61)) ⟨wr.heap.size,0,none⟩ 1 1 [.int .i32 x,.int .i32 x] rfl rfl (cell_two_new _ _ _ _) (by intro u hu;simp only [List.mem_cons,List.not_mem_nil,or_false,or_self] at hu;subst hu;rfl) (by unfold maxLen;omega) (by omega) (by simp;omega) ?_;intro v' w10 hown hgrow hiff)
      intro hat
      clear hiff hat
      have F10:=hid (show Below w4.heap.size w4 w10∧w10.ownsRow w4.heap.size 61 2 v' (dupR (os.take (k+1))).length (flatR (dupR (os.take (k+1)))) from ⟨below_next (BW.out.alloc hzr _) (Nat.le_refl _) hgrow (fun k' e=>(RO.out.lt k' e).1),by
        rw [dup_snoc os k hqo x HX.out,List.length_append,show flatR (dupR (os.take k) ++ [(x,x)])=flatR (dupR (os.take k)) ++ [.int .i32 x,.int .i32 x] by simp [flatR]]
        exact hown⟩)
      clear hown hgrow gq hml
      go_wp2_with fail
      go_roundw
      case rel=>exact ⟨k+1,hqo,by go_num,F10.out.1,F10.out.2⟩
      case measure=>simp [intOf];omega
    case neg=>
      obtain rfl:k=os.length:=by omega
      have hro:=RO.out
      rw [List.take_length] at hro
      have hLd:Laid w4 wr (dupR os) u6:=hro
      obtain ⟨la,lc,rfl,hlr,_⟩:=hLd.ranges (by rw [dup_len];omega)
      have HN:=hid (sets_Norm (dupR os) la (dupR os).length lc wr.heap.size wr hlr (Nat.le_refl _) (by rw [dup_len];omega))
      clear hro hLd hlr
      go_wp2_with fail
      refine (HN.out).mono ?_
      rintro e w7 ⟨v7,out,rfl,hL7,hs7,hm7,hn7,hB7⟩
      have hIS:IsSet out (fun x=>decide (x ∈ orbL c)):=(show IsSet out (fun x=>memR (dupR os) x) from ⟨hs7,hm7⟩).congr fun y _ _=>by
        rw [memR_dup,Bool.eq_iff_iff,decide_eq_true_eq,decide_eq_true_eq,HPM.out.mem_iff]
      rw [dup_len] at hn7
      obtain ⟨ya,yc,rfl,hSF⟩:=laid_setF hL7 (by omega)
      have SF:=hid hSF;have NI:=hid (normL_is hIS)
      have B7:=hid (BW.out.trans (hB7.mono BW.out.size));have HZ7:=hid hB7.size
      clear hL7 hs7 hm7 hB7 hIS hSF
      go_wp2_with fail
      refine (syn_set out ya out.length yc (fun k=>Fresh wr w7 k) w7 SF.out (fun k hk=>hk.2)).mono ?_
      rintro e w8 ⟨cs,rfl,hT8,hB8⟩
      obtain ⟨op,ka,kn,kc,rune,xa,xn,xc,pl,cap,name,mn,mx,lz,rfl⟩:=hT8.form
      have T8:=hid hT8
      have B8:=hid (B7.out.trans (hB8.mono (by have:=B7.out.size;have:=HZ7.out;have:=BW.out.size;omega)))
      have L8:=hid (Blk.below L4.out B8.out L4.out.lt)
      have Z8:=hid hB8.size
      clear hT8 hB8
      obtain ⟨c0,c1,c2,c3,c4,c5,c6,c7,c8,c9,f0,f1,f2,f3,f4,f5,f6,f7,f8,f9⟩:=L8.out.ten
      go_wp2_with fail
      change bodyPost _ _ _ _ _ (World.set10 w8 (w.heap.size+1) (.int .i64 op) (.slice ka kn kc) (.int .i32 rune) (.slice xa xn xc) (.int .i64 pl) (.int .i64 cap) (.string name) (.int .i64 mn) (.int .i64 mx) (.bool lz))
      have O:=L8.out.set10 (.int .i64 op) (.slice ka kn kc) (.int .i32 rune) (.slice xa xn xc) (.int .i64 pl) (.int .i64 cap) (.string name) (.int .i64 mn) (.int .i64 mx) (.bool lz)
      obtain ⟨d0,d1,d2,d3,d4,d5,d6,d7,d8,d9,_,_,_,_,_,_,_,_,_,_⟩:=O.ten
      have hzw:=BW.out.size
      have hz4:=L4.out.lt
      have hz7:=HZ7.out
      have hz8:=Z8.out
      refine ⟨rfl,.agg #[.int .i64 op,.slice ka kn kc,.int .i32 rune,.slice xa xn xc,.int .i64 pl,.int .i64 cap,.string name,.int .i64 mn,.int .i64 mx,.bool lz],?_,_,rfl,?_,?_⟩
      · simp [results,Tryz.results46,go_sem,d0,d1,d2,d3,d4,d5,d6,d7,d8,d9]
      · rw [NI.out]
        refine T8.out.turned (fun k hk=>set10_block _ _ _ _ _ _ _ _ _ _ _ _ k (by have:=hk.1;omega)) (fun k hk=>⟨by have:=hk.1;omega,?_⟩)
        have e:(World.set10 w8 (w.heap.size+1) (.int .i64 op) (.slice ka kn kc) (.int .i32 rune) (.slice xa xn xc) (.int .i64 pl) (.int .i64 cap) (.string name) (.int .i64 mn) (.int .i64 mx) (.bool lz)).heap.size=w8.heap.size:=by simp [World.set10,World.setCell]
        rw [e]
        have:=hk.2;omega
      · exact below_next (B4.out.trans (B8.out.mono B4.out.size)) (Nat.le_refl _) (grownBy_set10 _ _ _ _ _ _ _ _ _ _ _ _) (fun k e=>by cases e;omega)
theorem syn_atom (f c:Int) (w:World) (h0:0≤c) (h1:c≤1114111) :
    Calls Tryz.prog 46 #[.agg #[.int .i64 f],.int .i32 c] w fun e w'=>∃ cs,e = .returned (.agg cs.toArray)∧TreeF w' (fun k=>Fresh w w' k) (atomT f c) cs∧Below w.heap.size w w':=by
  unfold atomT
  by_cases h:onB f 1=true∧1 < (orbL c).length
  · rw [if_pos h]
    exact syn_atom_set f c w h0 h1 h.1 h.2
  · rw [if_neg h]
    refine (syn_atom_rune f c w h0 h1 h).mono ?_
    rintro e w' ⟨rfl,hB⟩
    exact ⟨_,rfl,leafC_none,hB⟩
end Go.Proofs.YtnhnldmldnhaoaaGreatDoor
namespace Go.Proofs.YtnhnldmldnhaoaaGreatDoor
open Go Go.RowKit Go.Proofs
def runesN (s:ByteArray):Nat→Nat→List Int
  | 0,_=>[]
  | n+1,p=>if p < s.size then nextC s p :: runesN s n (nextW s p) else []
def runesL (s:ByteArray):List Int:=runesN s s.size 0
noncomputable def runesT (f:Int) (s:ByteArray):List T:=(runesL s).map (atomT f)
theorem runesN_end {s:ByteArray} {n p:Nat} (h:¬ p < s.size):runesN s n p=[]:=by
  cases n with
  | zero=>rfl
  | succ n=>unfold runesN;rw [if_neg h]
end Go.Proofs.YtnhnldmldnhaoaaGreatDoor
namespace Go.Proofs.YtnhnldmldnhaoaaGreatDoor
open Go Go.RowKit Go.Proofs Go.Shelf
theorem nextC_in' (s:ByteArray) (p:Nat) (h:p < s.size):0≤nextC s p∧nextC s p≤1114111:=by
  have h1:=nextC_le s p
  unfold nextC at h1 ⊢
  rw [if_pos h] at h1 ⊢
  omega
structure TextAt (w W:World) (f:Int) (t:ByteArray) (pos fuel:Nat) (ts:List T) (v:Value) (xs:List Value):Prop where
  m:Blk W w.heap.size [.int .i64 f] 49
  i:W.heap[w.heap.size+1]? = some (.stringIter t pos)
  b:Below w.heap.size w W
  r:RowF W (w.heap.size+2) (fun _=>False) ts v xs
  e:ts ++ (runesN t fuel pos).map (atomT f)=runesT f t
  u:t.size≤pos+fuel
  l:ts.length≤pos
  z:w.heap.size+2≤W.heap.size
theorem syn_text (f:Int) (t:ByteArray) (w:World) (ht:t.size≤1000000000) :
    Calls Tryz.prog 34 #[.agg #[.int .i64 f],.string t] w fun e w'=>∃ v,e = .returned v∧ListOut w w' (runesT f t) v∧Below w.heap.size w w':=by
  obtain ⟨i0,hi,hz0,hz1,hz2⟩:=info_parts infoTree
  go_enter Tryz.func34, Tryz.ntmps34
  go_wp2_with fail
  go_loopw [5] (fun lv wr=>∃ (pos fuel:Nat) (ts:List T) (xs:List Value),TextAt w wr f t pos fuel ts lv xs) (fun _ wr=>t.size - wr.iterPos (w.heap.size+1))
  case atStart=>
    refine ⟨0,t.size,[],[],⟨(Blk.new w [.int .i64 f] 49).alloc _,?_,((Below.refl _ w).alloc (Nat.le_refl _) _).alloc (by simp) _,RowF.nil _ _ _,by simp [runesT,runesL],by omega,by simp,by simp [World.iter]⟩⟩
    have:=World.iter_heap (w.alloc (.cells #[.int .i64 f] 49)) t 0
    simpa using this
  case round=>
    obtain ⟨pos,fuel,ts,xs,hA⟩:=hrel
    have HA:=hid hA
    by_cases hp:pos < t.size
    · have hnx:∀ ty,(Instr.next (.pointer (some ⟨w.heap.size+1,0,none⟩)) true ty).run Tryz.prog wr=_:=fun ty=>Lib.run_next_any_at wr (w.heap.size+1) t pos ty hA.i hp
      have hwd:=Lib.decode_width_pos t pos hp
      have hc:=nextC_in' t pos hp
      obtain ⟨fu,rfl⟩:∃ fu,fuel=fu+1:=⟨fuel - 1,by have:=hA.u;omega⟩
      have hrn:runesN t (fu+1) pos=nextC t pos :: runesN t fu (nextW t pos):=by rw [runesN,if_pos hp]
      have hnc:nextC t pos=((Utf8.decode t pos).1:Int):=by unfold nextC;rw [if_pos hp]
      have hnw:nextW t pos=pos+(Utf8.decode t pos).2:=by unfold nextW;rw [if_pos hp]
      have M2:=hid (show Blk (wr.iterAt (w.heap.size+1) t (pos+(Utf8.decode t pos).2)) w.heap.size [.int .i64 f] 49 from Blk.same hA.m (Lib.iterAt_other wr _ _ _ _ (by omega)))
      have R2:=hid (show RowF (wr.iterAt (w.heap.size+1) t (pos+(Utf8.decode t pos).2)) (w.heap.size+2) (fun _=>False) ts u5 xs from hA.r.keep (by rw [Lib.iterAt_size];exact Nat.le_refl _) fun k hk _ h=>⟨Lib.iterAt_other wr _ k _ _ (by omega),h⟩)
      have I2:=hid (Lib.iterAt_heap wr (w.heap.size+1) t pos (pos+(Utf8.decode t pos).2) hA.i)
      have B2:=hid (Lib.below_iterAt hA.b (k:=w.heap.size+1) (by omega) t (pos+(Utf8.decode t pos).2))
      have Z2:=hid (show w.heap.size+2≤(wr.iterAt (w.heap.size+1) t (pos+(Utf8.decode t pos).2)).heap.size by rw [Lib.iterAt_size];exact hA.z)
      have km:(wr.iterAt (w.heap.size+1) t (pos+(Utf8.decode t pos).2)).cell? ⟨w.heap.size,0,none⟩=some (.int .i64 f):=Blk.cell M2.out (j:=0) rfl
      have HC:=hid (syn_atom f ((Utf8.decode t pos).1:Int) (wr.iterAt (w.heap.size+1) t (pos+(Utf8.decode t pos).2)) (by rw [← hnc];exact hc.1) (by rw [← hnc];exact hc.2))
      have HR:=hid hrn;have HNC:=hid hnc;have HNW:=hid hnw
      have htl:ts.length≤1000000000:=by have:=hA.l;omega
      have HP:=hid hp
      clear hA hrn hnc hnw hc hp
      go_wp2_with fail
      refine (HC.out).mono ?_
      rintro e w4 ⟨cs,rfl,hT4,hB4⟩
      obtain ⟨op,ka,kn,kc,rune,xa,xn,xc,pl,cap,name,mn,mx,lz,rfl⟩:=hT4.form
      have Z4:=hid hB4.size
      have T4:=hid hT4
      have R4:=hid ((R2.out.below hB4).below ((Below.refl _ w4).alloc (Nat.le_refl _) (.cells #[.int .i64 op,.slice ka kn kc,.int .i32 rune,.slice xa xn xc,.int .i64 pl,.int .i64 cap,.string name,.int .i64 mn,.int .i64 mx,.bool lz] 29)))
      have I4:=hid (show w4.heap[w.heap.size+1]? = some (.stringIter t (pos+(Utf8.decode t pos).2)) by rw [hB4.block _ (by have:=Z2.out;omega)];exact I2.out)
      have M4:=hid (Blk.below M2.out hB4 M2.out.lt)
      have B4:=hid (B2.out.trans (hB4.mono B2.out.size))
      have hzz:w.heap.size+2≤w4.heap.size:=Nat.le_trans Z2.out Z4.out
      clear hT4 hB4 hnx km
      go_wp2_with (at_builtin;refine wpList_append_own_at _ rfl _ _ 25 rfl (w.heap.size+2) 29 i0 (.agg zero10.toArray) 10 120 Tryz.underlying25 hi hz0 hz1 hz2 rfl (by decide) u5 ts.length xs rfl R4.out.1 ⟨w4.heap.size,0,none⟩ 1 1 [.int .i64 op,.slice ka kn kc,.int .i32 rune,.slice xa xn xc,.int .i64 pl,.int .i64 cap,.string name,.int .i64 mn,.int .i64 mx,.bool lz] rfl rfl (cells_new _ _ _) T4.out.one (by unfold maxLen;omega) (by omega) (by simp;omega) ?_;intro v' w10 hown hgrow hiff)
      intro hat
      clear hiff
      have hz10:=hgrow.size
      rw [World.size_alloc] at hz10
      have Q:=hid (show TextAt w w10 f t (pos+(Utf8.decode t pos).2) fu (ts ++ [atomT f (nextC t pos)]) v' (xs ++ [.int .i64 op,.slice ka kn kc,.int .i32 rune,.slice xa xn xc,.int .i64 pl,.int .i64 cap,.string name,.int .i64 mn,.int .i64 mx,.bool lz]) from by
        have hnei:u5.ownBlock≠some (w.heap.size+1):=fun e=>by have:=(R4.out.1.lt _ e).1;omega
        have hnem:u5.ownBlock≠some w.heap.size:=fun e=>by have:=(R4.out.1.lt _ e).1;omega
        refine ⟨(Blk.alloc M4.out _).grown hgrow (fun e=>hnem e.symm),?_,below_next (B4.out.alloc B4.out.size _) (Nat.le_refl _) hgrow (fun k e=>by have:=(R4.out.1.lt k e).1;omega),?_,?_,?_,?_,?_⟩
        · rw [hgrow.block (w.heap.size+1) (by rw [World.size_alloc];omega) (fun e=>hnei e.symm),Below.heap_alloc w4 _ _ (by omega)]
          exact I4.out
        · refine R4.out.push (us:=[atomT f (nextC t pos)]) (TreesF.single ?_) hown hgrow (by rw [World.size_alloc];exact hat) (fun h=>h)
          rw [HNC.out]
          refine T4.out.turned (fun k hk=>Below.heap_alloc w4 _ k hk.2) (fun k hk=>⟨⟨by have:=hk.1;have:=Z2.out;omega,by rw [World.size_alloc];have:=hk.2;omega,fun h=>h⟩,fun e=>by have:=(R2.out.1.lt k e).2;have:=hk.1;omega⟩)
        · have:=HA.out.e
          rw [HR.out,List.map_cons,HNW.out] at this
          rw [List.append_assoc];exact this
        · have:=HA.out.u;omega
        · have:=HA.out.l;rw [List.length_append,List.length_singleton];omega
        · omega)
      have I10:=Q.out.i;have IR:=HA.out.i
      clear hown hgrow hat
      go_wp2_with fail
      go_roundw
      case rel=>exact ⟨_,_,_,_,Q.out⟩
      case measure=>
        have:=HP.out
        simp only [World.iterPos,I10,IR]
        omega
    · have hnx:∀ ty,(Instr.next (.pointer (some ⟨w.heap.size+1,0,none⟩)) true ty).run Tryz.prog wr=_:=fun ty=>Lib.run_next_end_at wr (w.heap.size+1) t pos ty hA.i hp
      have he:=hA.e
      rw [runesN_end hp,List.map_nil,List.append_nil] at he
      have HE:=hid he
      clear hA he
      go_wp2_with fail
      go_ret
      refine ⟨u5,rfl,?_,HA.out.b⟩
      rw [← HE.out]
      exact HA.out.r.list (by omega)
end Go.Proofs.YtnhnldmldnhaoaaGreatDoor
