/- classes.Property: the set of a name, or all but it. -/
import Derived.Test.YtnhnldmldnhaoaaGreatDoorSNext
import Derived.Test.YtnhnldmldnhaoaaGreatDoorSUntil
import Derived.Test.YtnhnldmldnhaoaaGreatDoorShelfS
import Derived.Test.YtnhnldmldnhaoaaGreatDoorSSyAtom
import Derived.Test.YtnhnldmldnhaoaaGreatDoorSRefHas
import Derived.Lib.Index
import Derived.Test.YtnhnldmldnhaoaaGreatDoorSScan1
import Derived.BigRegion
import Derived.ScopeJumps
import Derived.LoopTactic
import Derived.Below
set_option maxRecDepth 100000
set_option maxHeartbeats 16000000
open Go.Lib (hid)
namespace Go.Proofs.YtnhnldmldnhaoaaGreatDoor
open Go Go.RowKit Go.Proofs Go.Shelf
def propOf (nm:List UInt8) (flip:Bool):Option (Int→Bool):=
  if nm == [65,110,121] then some (fun _=>!flip) else (tabOf nm).map fun l c=>memR l c != flip
def propSpec (name:List UInt8) (nt:Bool):Option (Int→Bool):=propOf (Lib.trimPrefix name [94]) (Lib.hasPrefix name [94] != nt)
def PropR (w:World) (sp:Option (Int→Bool)) (e:Ending) (w':World):Prop:=
  ∃ v out,e = .returned (.tuple #[v,.bool sp.isSome])∧Laid w w' out v∧(match sp with | none=>out=[] | some p=>IsSet out p)∧out.length≤1000∧Below w.heap.size w w'
theorem TurnR.prop {w0 w:World} {p q:Int→Bool} {N:Nat} {e:Ending} {w':World} (h:TurnR w p N e w') (hb:Below w0.heap.size w0 w) (hN:N≤1000) (hq:∀ c,0≤c→c≤1114111→p c=q c):PropR w0 (some q) e w':=by
  obtain ⟨v,out,rfl,h1,h2,h3,h4⟩:=h
  exact ⟨v,out,rfl,Joins.ownsRow_le h1 hb.size,h2.congr hq,by omega,hb.trans (h4.mono hb.size)⟩
theorem prop_any (name:ByteArray) (turn nt:Bool) (w:World) (h1:Lib.hasPrefix name.data.toList [94]=turn) (h2:Lib.trimPrefix name.data.toList [94]=[65,110,121]) :
    Calls Tryz.prog 134 #[.string name,.bool nt] w (PropR w (some fun _=>!(turn != nt))):=by
  have HC:=hid (show ∀ W:World,Calls Tryz.prog 160 #[.string name,.string ⟨#[94]⟩] W fun e w'=>e = .returned (.tuple #[.string ⟨#[65,110,121]⟩,.bool turn])∧w'=W from fun W=>
    (Tryz.strings_CutPrefix name ⟨#[94]⟩ W).mono fun e w' h=>by obtain ⟨rfl,rfl⟩:=h;exact ⟨by rw [show (⟨#[94]⟩:ByteArray).data.toList=[94] from rfl,h1,h2],rfl⟩)
  clear h1 h2
  go_enter Tryz.func134, Tryz.ntmps134
  go_wp2_with fail
  refine (HC.out w).mono ?_
  rintro e w1 ⟨rfl,rfl⟩
  go_wp2_with fail
  refine (dot_all w1).mono ?_
  rintro e w2 ⟨v,out,rfl,p1,p2,p3,p4,p5⟩
  obtain ⟨sa,sc,rfl,hr,_⟩:=p1.ranges (by omega)
  have HR:=hid hr;have HB:=hid p5;have HL:=hid p1;have HS:=hid (show IsSet out (fun _=>true) from ⟨p2,p3⟩);have HN:=hid p4
  clear hr p1 p2 p3 p4 p5
  have HSAME:=hid (turned_same sa out.length sc w2)
  have HNOT:=hid (turned_not out sa out.length sc w2.heap.size w2 HR.out (Nat.le_refl _) (by have:=HN.out;omega))
  have hno:∀ c,0≤c→c≤1114111→(!memR out c)=false:=fun c h0 h1=>by rw [HS.out.2];simp [h0,h1]
  have HNO:=hid hno;clear hno
  cases turn <;> cases nt
  · go_wp2_with fail
    refine (HSAME.out).mono ?_
    rintro e w3 ⟨rfl,hb3⟩
    have HB3:=hid hb3;clear hb3
    go_wp2_with fail
    go_ret2
    refine ⟨_,out,rfl,?_,HS.out.congr (fun c _ _=>rfl),by have:=HN.out;omega,HB.out.trans (HB3.out.mono HB.out.size)⟩
    exact HL.out.kept (grownBy_below HB3.out none) (by cases (Value.slice sa out.length sc).ownBlock <;> simp)
  · go_wp2_with fail
    refine (HNOT.out).mono ?_
    rintro e w3 hh
    obtain ⟨v3,out3,rfl,hh⟩:=hh
    have H3:=hid hh;clear hh
    go_wp2_with fail
    go_ret2
    exact TurnR.prop ⟨v3,out3,rfl,H3.out⟩ HB.out (by have:=HN.out;omega) (fun c h0 h1=>HNO.out c h0 h1)
  · go_wp2_with fail
    refine (HNOT.out).mono ?_
    rintro e w3 hh
    obtain ⟨v3,out3,rfl,hh⟩:=hh
    have H3:=hid hh;clear hh
    go_wp2_with fail
    go_ret2
    exact TurnR.prop ⟨v3,out3,rfl,H3.out⟩ HB.out (by have:=HN.out;omega) (fun c h0 h1=>HNO.out c h0 h1)
  · go_wp2_with fail
    refine (HSAME.out).mono ?_
    rintro e w3 ⟨rfl,hb3⟩
    have HB3:=hid hb3;clear hb3
    go_wp2_with fail
    go_ret2
    refine ⟨_,out,rfl,?_,HS.out.congr (fun c _ _=>rfl),by have:=HN.out;omega,HB.out.trans (HB3.out.mono HB.out.size)⟩
    exact HL.out.kept (grownBy_below HB3.out none) (by cases (Value.slice sa out.length sc).ownBlock <;> simp)
theorem toList_mk (l:List UInt8):(⟨l.toArray⟩:ByteArray).toList=l:=by rw [ByteArray.toList_eq]
theorem prop_none (name:ByteArray) (turn nt:Bool) (nm:List UInt8) (w:World) (h1:Lib.hasPrefix name.data.toList [94]=turn) (h2:Lib.trimPrefix name.data.toList [94]=nm) (h3:(nm == [65,110,121])=false) (h4:tabOf nm=none) :
    Calls Tryz.prog 134 #[.string name,.bool nt] w (PropR w none):=by
  have HC:=hid (show ∀ W:World,Calls Tryz.prog 160 #[.string name,.string ⟨#[94]⟩] W fun e w'=>e = .returned (.tuple #[.string ⟨nm.toArray⟩,.bool turn])∧w'=W from fun W=>
    (Tryz.strings_CutPrefix name ⟨#[94]⟩ W).mono fun e w' h=>by obtain ⟨rfl,rfl⟩:=h;exact ⟨by rw [show (⟨#[94]⟩:ByteArray).data.toList=[94] from rfl,h1,h2],rfl⟩)
  have hq:((⟨nm.toArray⟩:ByteArray).toList == [65,110,121])=false:=by rw [toList_mk];exact h3
  have HN:=hid (go_named ⟨nm.toArray⟩ w)
  have H4:=hid h4
  obtain ⟨s2,hs2⟩:∃ s2:ByteArray,s2=⟨nm.toArray⟩:=⟨_,rfl⟩
  have HS2:=hid (show s2.toList=nm by rw [hs2];exact toList_mk nm)
  rw [← hs2] at HC hq HN
  clear h1 h2 h3 h4 hs2
  go_enter Tryz.func134, Tryz.ntmps134
  go_wp2_with fail
  refine (HC.out w).mono ?_
  rintro e w1 ⟨rfl,rfl⟩
  go_wp2_with fail
  refine (HN.out).mono ?_
  rintro e w2 ⟨v,rfl,p1,p2⟩
  rw [HS2.out,H4.out] at p1 ⊢
  simp only [Option.isSome_none,Option.getD_none] at p1 ⊢
  obtain ⟨sa,sc,rfl,_,_⟩:=p1.ranges (by simp)
  have HB:=hid p2
  clear p1 p2
  simp only [List.length_nil]
  cases turn <;> cases nt
  all_goals (
    go_wp2_with fail
    refine (turned_no _ _ _ _ _).mono ?_
    rintro e w3 ⟨rfl,hb3⟩
    have HB3:=hid hb3;clear hb3
    go_wp2_with fail
    go_ret2
    exact ⟨_,[],rfl,World.ownsRow_nil _ _ _ _,rfl,by simp,HB.out.trans (HB3.out.mono HB.out.size)⟩)
theorem prop_tab (name:ByteArray) (turn nt:Bool) (nm:List UInt8) (l:List (Int × Int)) (w:World) (h1:Lib.hasPrefix name.data.toList [94]=turn) (h2:Lib.trimPrefix name.data.toList [94]=nm) (h3:(nm == [65,110,121])=false) (h4:tabOf nm=some l) :
    Calls Tryz.prog 134 #[.string name,.bool nt] w (PropR w (some fun c=>memR l c != (turn != nt))):=by
  have HC:=hid (show ∀ W:World,Calls Tryz.prog 160 #[.string name,.string ⟨#[94]⟩] W fun e w'=>e = .returned (.tuple #[.string ⟨nm.toArray⟩,.bool turn])∧w'=W from fun W=>
    (Tryz.strings_CutPrefix name ⟨#[94]⟩ W).mono fun e w' h=>by obtain ⟨rfl,rfl⟩:=h;exact ⟨by rw [show (⟨#[94]⟩:ByteArray).data.toList=[94] from rfl,h1,h2],rfl⟩)
  have hq:((⟨nm.toArray⟩:ByteArray).toList == [65,110,121])=false:=by rw [toList_mk];exact h3
  have HN:=hid (go_named ⟨nm.toArray⟩ w)
  have H4:=hid h4
  obtain ⟨s2,hs2⟩:∃ s2:ByteArray,s2=⟨nm.toArray⟩:=⟨_,rfl⟩
  have HS2:=hid (show s2.toList=nm by rw [hs2];exact toList_mk nm)
  rw [← hs2] at HC hq HN
  clear h1 h2 h3 h4 hs2
  go_enter Tryz.func134, Tryz.ntmps134
  go_wp2_with fail
  refine (HC.out w).mono ?_
  rintro e w1 ⟨rfl,rfl⟩
  go_wp2_with fail
  refine (HN.out).mono ?_
  rintro e w2 ⟨v,rfl,p1,p2⟩
  have HRT:=hid (tabOf_right H4.out)
  rw [HS2.out,H4.out] at p1 ⊢
  simp only [Option.isSome_some,Option.getD_some] at p1 ⊢
  obtain ⟨sa,sc,rfl,hr,_⟩:=p1.ranges (by have:=HRT.out.2;omega)
  have HB:=hid p2;have HL:=hid p1
  have HSAME:=hid (turned_same sa l.length sc w2)
  have HNOT:=hid (turned_not l sa l.length sc w2.heap.size w2 hr (Nat.le_refl _) (by have:=HRT.out.2;omega))
  clear p1 p2 hr
  cases turn <;> cases nt
  · go_wp2_with fail
    refine (HSAME.out).mono ?_
    rintro e w3 ⟨rfl,hb3⟩
    have HB3:=hid hb3;clear hb3
    go_wp2_with fail
    go_ret2
    refine ⟨_,l,rfl,?_,(IsSet.of_right HRT.out.1).congr (fun c _ _=>by simp),by have:=HRT.out.2;omega,HB.out.trans (HB3.out.mono HB.out.size)⟩
    exact HL.out.kept (grownBy_below HB3.out none) (by cases (Value.slice sa l.length sc).ownBlock <;> simp)
  · go_wp2_with fail
    refine (HNOT.out).mono ?_
    rintro e w3 hh
    obtain ⟨v3,out3,rfl,hh⟩:=hh
    have H3:=hid hh;clear hh
    go_wp2_with fail
    go_ret2
    exact TurnR.prop ⟨v3,out3,rfl,H3.out⟩ HB.out (by have:=HRT.out.2;omega) (fun c _ _=>by simp)
  · go_wp2_with fail
    refine (HNOT.out).mono ?_
    rintro e w3 hh
    obtain ⟨v3,out3,rfl,hh⟩:=hh
    have H3:=hid hh;clear hh
    go_wp2_with fail
    go_ret2
    exact TurnR.prop ⟨v3,out3,rfl,H3.out⟩ HB.out (by have:=HRT.out.2;omega) (fun c _ _=>by simp)
  · go_wp2_with fail
    refine (HSAME.out).mono ?_
    rintro e w3 ⟨rfl,hb3⟩
    have HB3:=hid hb3;clear hb3
    go_wp2_with fail
    go_ret2
    refine ⟨_,l,rfl,?_,(IsSet.of_right HRT.out.1).congr (fun c _ _=>by simp),by have:=HRT.out.2;omega,HB.out.trans (HB3.out.mono HB.out.size)⟩
    exact HL.out.kept (grownBy_below HB3.out none) (by cases (Value.slice sa l.length sc).ownBlock <;> simp)
theorem classes_Property (name:ByteArray) (nt:Bool) (w:World):Calls Tryz.prog 134 #[.string name,.bool nt] w (PropR w (propSpec name.data.toList nt)):=by
  unfold propSpec propOf
  by_cases h:Lib.trimPrefix name.data.toList [94]=[65,110,121]
  · rw [if_pos (by rw [h];rfl)]
    exact prop_any name _ nt w rfl h
  · have h':(Lib.trimPrefix name.data.toList [94] == [65,110,121])=false:=beq_eq_false_iff_ne.2 h
    rw [if_neg (by rw [h'];decide)]
    cases ht:tabOf (Lib.trimPrefix name.data.toList [94]) with
    | none=>exact prop_none name _ nt _ w rfl rfl h' ht
    | some l=>exact prop_tab name _ nt _ l w rfl rfl h' ht
end Go.Proofs.YtnhnldmldnhaoaaGreatDoor
namespace Go.Proofs.YtnhnldmldnhaoaaGreatDoor
open Go Go.RowKit Go.Proofs Go.Shelf
def perlL (c:Int):Option (List (Int × Int)):=
  if c=100∨c=68 then some [(48,57)] else if c=115∨c=83 then some [(9,10),(12,13),(32,32)] else if c=119∨c=87 then some [(48,57),(65,90),(95,95),(97,122)] else none
def perlSpec (c:Int):Option (Int→Bool):=(perlL c).map fun l x=>memR l x != decide (c < 97)
theorem perl_100 (w:World):Calls Tryz.prog 135 #[.int .u8 100] w (PropR w (perlSpec 100)):=by
  have HL:=hid (Laid.lit w [(48,57)] (flatR [(48,57)]).toArray rfl (by decide))
  have HB:=hid ((Below.refl w.heap.size w).alloc (Nat.le_refl _) (.cells (flatR [(48,57)]).toArray 61))
  have hr:RangesV (w.alloc (.cells (flatR [(48,57)]).toArray 61)) (w.heap.size+1) [(48,57)] (some ⟨w.heap.size,0,none⟩) 1 1:=⟨rfl,⟨Nat.le_refl _,by omega⟩,.inr ⟨_,_,rfl,by omega,RangesAt.of_cells _ 0 fun j hj=>⟨by rw [Nat.zero_add];exact (Blk.new w (flatR [(48,57)]) 61).cell (flatR_get _ j hj).1,by rw [Nat.zero_add];exact (Blk.new w (flatR [(48,57)]) 61).cell (flatR_get _ j hj).2⟩⟩⟩
  have HC:=hid (turned_same (some ⟨w.heap.size,0,none⟩) 1 1 (w.alloc (.cells (flatR [(48,57)]).toArray 61)))
  clear hr
  go_enter Tryz.func135, Tryz.ntmps135
  go_wp2_with fail
  refine (HC.out).mono ?_
  rintro e w3 ⟨rfl,hb3⟩
  have HB3:=hid hb3;clear hb3
  go_wp2_with fail
  go_ret2
  refine ⟨_,[(48,57)],rfl,?_,(IsSet.of_right (by decide)).congr (fun c _ _=>by simp),by decide,HB.out.trans (HB3.out.mono HB.out.size)⟩
  exact HL.out.kept (grownBy_below HB3.out none) (by simp [Value.ownBlock])
theorem perl_68 (w:World):Calls Tryz.prog 135 #[.int .u8 68] w (PropR w (perlSpec 68)):=by
  have HL:=hid (Laid.lit w [(48,57)] (flatR [(48,57)]).toArray rfl (by decide))
  have HB:=hid ((Below.refl w.heap.size w).alloc (Nat.le_refl _) (.cells (flatR [(48,57)]).toArray 61))
  have hr:RangesV (w.alloc (.cells (flatR [(48,57)]).toArray 61)) (w.heap.size+1) [(48,57)] (some ⟨w.heap.size,0,none⟩) 1 1:=⟨rfl,⟨Nat.le_refl _,by omega⟩,.inr ⟨_,_,rfl,by omega,RangesAt.of_cells _ 0 fun j hj=>⟨by rw [Nat.zero_add];exact (Blk.new w (flatR [(48,57)]) 61).cell (flatR_get _ j hj).1,by rw [Nat.zero_add];exact (Blk.new w (flatR [(48,57)]) 61).cell (flatR_get _ j hj).2⟩⟩⟩
  have HC:=hid (turned_not _ _ _ _ _ _ hr (by simp) (by decide))
  clear hr
  go_enter Tryz.func135, Tryz.ntmps135
  go_wp2_with fail
  refine (HC.out).mono ?_
  rintro e w3 hh
  obtain ⟨v3,out3,rfl,hh⟩:=hh
  have H3:=hid hh;clear hh
  go_wp2_with fail
  go_ret2
  exact TurnR.prop ⟨v3,out3,rfl,H3.out⟩ HB.out (by decide) (fun c _ _=>by simp)
theorem perl_115 (w:World):Calls Tryz.prog 135 #[.int .u8 115] w (PropR w (perlSpec 115)):=by
  have HL:=hid (Laid.lit w [(9,10),(12,13),(32,32)] (flatR [(9,10),(12,13),(32,32)]).toArray rfl (by decide))
  have HB:=hid ((Below.refl w.heap.size w).alloc (Nat.le_refl _) (.cells (flatR [(9,10),(12,13),(32,32)]).toArray 61))
  have hr:RangesV (w.alloc (.cells (flatR [(9,10),(12,13),(32,32)]).toArray 61)) (w.heap.size+1) [(9,10),(12,13),(32,32)] (some ⟨w.heap.size,0,none⟩) 3 3:=⟨rfl,⟨Nat.le_refl _,by omega⟩,.inr ⟨_,_,rfl,by omega,RangesAt.of_cells _ 0 fun j hj=>⟨by rw [Nat.zero_add];exact (Blk.new w (flatR [(9,10),(12,13),(32,32)]) 61).cell (flatR_get _ j hj).1,by rw [Nat.zero_add];exact (Blk.new w (flatR [(9,10),(12,13),(32,32)]) 61).cell (flatR_get _ j hj).2⟩⟩⟩
  have HC:=hid (turned_same (some ⟨w.heap.size,0,none⟩) 3 3 (w.alloc (.cells (flatR [(9,10),(12,13),(32,32)]).toArray 61)))
  clear hr
  go_enter Tryz.func135, Tryz.ntmps135
  go_wp2_with fail
  refine (HC.out).mono ?_
  rintro e w3 ⟨rfl,hb3⟩
  have HB3:=hid hb3;clear hb3
  go_wp2_with fail
  go_ret2
  refine ⟨_,[(9,10),(12,13),(32,32)],rfl,?_,(IsSet.of_right (by decide)).congr (fun c _ _=>by simp),by decide,HB.out.trans (HB3.out.mono HB.out.size)⟩
  exact HL.out.kept (grownBy_below HB3.out none) (by simp [Value.ownBlock])
theorem perl_83 (w:World):Calls Tryz.prog 135 #[.int .u8 83] w (PropR w (perlSpec 83)):=by
  have HL:=hid (Laid.lit w [(9,10),(12,13),(32,32)] (flatR [(9,10),(12,13),(32,32)]).toArray rfl (by decide))
  have HB:=hid ((Below.refl w.heap.size w).alloc (Nat.le_refl _) (.cells (flatR [(9,10),(12,13),(32,32)]).toArray 61))
  have hr:RangesV (w.alloc (.cells (flatR [(9,10),(12,13),(32,32)]).toArray 61)) (w.heap.size+1) [(9,10),(12,13),(32,32)] (some ⟨w.heap.size,0,none⟩) 3 3:=⟨rfl,⟨Nat.le_refl _,by omega⟩,.inr ⟨_,_,rfl,by omega,RangesAt.of_cells _ 0 fun j hj=>⟨by rw [Nat.zero_add];exact (Blk.new w (flatR [(9,10),(12,13),(32,32)]) 61).cell (flatR_get _ j hj).1,by rw [Nat.zero_add];exact (Blk.new w (flatR [(9,10),(12,13),(32,32)]) 61).cell (flatR_get _ j hj).2⟩⟩⟩
  have HC:=hid (turned_not _ _ _ _ _ _ hr (by simp) (by decide))
  clear hr
  go_enter Tryz.func135, Tryz.ntmps135
  go_wp2_with fail
  refine (HC.out).mono ?_
  rintro e w3 hh
  obtain ⟨v3,out3,rfl,hh⟩:=hh
  have H3:=hid hh;clear hh
  go_wp2_with fail
  go_ret2
  exact TurnR.prop ⟨v3,out3,rfl,H3.out⟩ HB.out (by decide) (fun c _ _=>by simp)
theorem perl_119 (w:World):Calls Tryz.prog 135 #[.int .u8 119] w (PropR w (perlSpec 119)):=by
  have HL:=hid (Laid.lit w [(48,57),(65,90),(95,95),(97,122)] (flatR [(48,57),(65,90),(95,95),(97,122)]).toArray rfl (by decide))
  have HB:=hid ((Below.refl w.heap.size w).alloc (Nat.le_refl _) (.cells (flatR [(48,57),(65,90),(95,95),(97,122)]).toArray 61))
  have hr:RangesV (w.alloc (.cells (flatR [(48,57),(65,90),(95,95),(97,122)]).toArray 61)) (w.heap.size+1) [(48,57),(65,90),(95,95),(97,122)] (some ⟨w.heap.size,0,none⟩) 4 4:=⟨rfl,⟨Nat.le_refl _,by omega⟩,.inr ⟨_,_,rfl,by omega,RangesAt.of_cells _ 0 fun j hj=>⟨by rw [Nat.zero_add];exact (Blk.new w (flatR [(48,57),(65,90),(95,95),(97,122)]) 61).cell (flatR_get _ j hj).1,by rw [Nat.zero_add];exact (Blk.new w (flatR [(48,57),(65,90),(95,95),(97,122)]) 61).cell (flatR_get _ j hj).2⟩⟩⟩
  have HC:=hid (turned_same (some ⟨w.heap.size,0,none⟩) 4 4 (w.alloc (.cells (flatR [(48,57),(65,90),(95,95),(97,122)]).toArray 61)))
  clear hr
  go_enter Tryz.func135, Tryz.ntmps135
  go_wp2_with fail
  refine (HC.out).mono ?_
  rintro e w3 ⟨rfl,hb3⟩
  have HB3:=hid hb3;clear hb3
  go_wp2_with fail
  go_ret2
  refine ⟨_,[(48,57),(65,90),(95,95),(97,122)],rfl,?_,(IsSet.of_right (by decide)).congr (fun c _ _=>by simp),by decide,HB.out.trans (HB3.out.mono HB.out.size)⟩
  exact HL.out.kept (grownBy_below HB3.out none) (by simp [Value.ownBlock])
theorem perl_87 (w:World):Calls Tryz.prog 135 #[.int .u8 87] w (PropR w (perlSpec 87)):=by
  have HL:=hid (Laid.lit w [(48,57),(65,90),(95,95),(97,122)] (flatR [(48,57),(65,90),(95,95),(97,122)]).toArray rfl (by decide))
  have HB:=hid ((Below.refl w.heap.size w).alloc (Nat.le_refl _) (.cells (flatR [(48,57),(65,90),(95,95),(97,122)]).toArray 61))
  have hr:RangesV (w.alloc (.cells (flatR [(48,57),(65,90),(95,95),(97,122)]).toArray 61)) (w.heap.size+1) [(48,57),(65,90),(95,95),(97,122)] (some ⟨w.heap.size,0,none⟩) 4 4:=⟨rfl,⟨Nat.le_refl _,by omega⟩,.inr ⟨_,_,rfl,by omega,RangesAt.of_cells _ 0 fun j hj=>⟨by rw [Nat.zero_add];exact (Blk.new w (flatR [(48,57),(65,90),(95,95),(97,122)]) 61).cell (flatR_get _ j hj).1,by rw [Nat.zero_add];exact (Blk.new w (flatR [(48,57),(65,90),(95,95),(97,122)]) 61).cell (flatR_get _ j hj).2⟩⟩⟩
  have HC:=hid (turned_not _ _ _ _ _ _ hr (by simp) (by decide))
  clear hr
  go_enter Tryz.func135, Tryz.ntmps135
  go_wp2_with fail
  refine (HC.out).mono ?_
  rintro e w3 hh
  obtain ⟨v3,out3,rfl,hh⟩:=hh
  have H3:=hid hh;clear hh
  go_wp2_with fail
  go_ret2
  exact TurnR.prop ⟨v3,out3,rfl,H3.out⟩ HB.out (by decide) (fun c _ _=>by simp)
theorem perl_none (c:Int) (w:World) (h:¬ (c=100∨c=68)∧¬ (c=115∨c=83)∧¬ (c=119∨c=87)):Calls Tryz.prog 135 #[.int .u8 c] w (PropR w none):=by
  have n1:(c == 100)=false:=beq_eq_false_iff_ne.2 (by omega)
  have n2:(c == 68)=false:=beq_eq_false_iff_ne.2 (by omega)
  have n3:(c == 115)=false:=beq_eq_false_iff_ne.2 (by omega)
  have n4:(c == 83)=false:=beq_eq_false_iff_ne.2 (by omega)
  have n5:(c == 119)=false:=beq_eq_false_iff_ne.2 (by omega)
  have n6:(c == 87)=false:=beq_eq_false_iff_ne.2 (by omega)
  clear h
  by_cases h97:c < 97
  all_goals (
    go_enter Tryz.func135, Tryz.ntmps135
    go_wp2_with fail
    refine (turned_no _ _ _ _ _).mono ?_
    rintro e w3 ⟨rfl,hb3⟩
    have HB3:=hid hb3;clear hb3
    go_wp2_with fail
    go_ret2
    exact ⟨_,[],rfl,World.ownsRow_nil _ _ _ _,rfl,by simp,HB3.out⟩)
theorem classes_Perl (c:Int) (w:World):Calls Tryz.prog 135 #[.int .u8 c] w (PropR w (perlSpec c)):=by
  by_cases h:(c=100∨c=68)∨(c=115∨c=83)∨(c=119∨c=87)
  · rcases h with (rfl | rfl) | (rfl | rfl) | (rfl | rfl)
    · exact perl_100 w
    · exact perl_68 w
    · exact perl_115 w
    · exact perl_83 w
    · exact perl_119 w
    · exact perl_87 w
  · have h2:perlSpec c=none:=by unfold perlSpec perlL;rw [if_neg (by omega),if_neg (by omega),if_neg (by omega)];rfl
    rw [h2]
    exact perl_none c w ⟨by omega,by omega,by omega⟩
end Go.Proofs.YtnhnldmldnhaoaaGreatDoor
namespace Go.Proofs.YtnhnldmldnhaoaaGreatDoor
open Go Go.RowKit Go.Proofs Go.Shelf
inductive EscR where
  | wrong (e f t:Int)
  | lit (k r a q:Int)
  | set (f:Int→Bool) (q:Int)
def escX (s:ByteArray) (p:Nat) (q:Nat):EscR:=match codeP s q with | some (n,r)=>.lit 1 n 0 r | none=>.wrong 61 p q
def escPr (s:ByteArray) (p:Nat) (q:Nat) (nt:Bool):EscR:=match propP s q with
  | none=>.wrong 61 p q
  | some (nm,r)=>match propSpec nm.data.toList nt with | none=>.wrong 63 p r | some f=>.set f r
def escPl (p:Nat) (c:Int) (q:Nat):EscR:=if placeI c≠0 then .lit 3 0 (placeI c) q else if c=81 then .lit 4 0 0 q else match perlSpec (min c 127) with | none=>.wrong 61 p q | some f=>.set f q
def escP (s:ByteArray) (p:Nat) (perl:Bool):EscR:=
  if ¬ stands s p [92]=true then .wrong 1 p p
  else if s.size≤p+1 then .wrong 62 p ((p:Int)+1)
  else if signI (nextC s (p+1))=true then .lit 1 (nextC s (p+1)) 0 (nextW s (p+1))
  else if 0≤letterI (nextC s (p+1)) then .lit 1 (letterI (nextC s (p+1))) 0 (nextW s (p+1))
  else if nextC s (p+1)=120 then escX s p (nextW s (p+1))
  else if nextC s (p+1)=112∨nextC s (p+1)=80 then escPr s p (nextW s (p+1)) (nextC s (p+1) == 80)
  else if perl=false then .wrong 61 p (nextW s (p+1))
  else escPl p (nextC s (p+1)) (nextW s (p+1))
def escT (k r:Int) (v:Value) (a q e f t:Int):Value:=.tuple #[.agg #[.int .i64 k,.int .i32 r,v,.int .i64 a],.int .i64 q,.agg #[.int .i64 e,.int .i64 f,.int .i64 t]]
def EscOut (w:World) (r:EscR) (e:Ending) (w':World):Prop:=match r with
  | .wrong x f t=>e = .returned (escT 0 0 (.slice none 0 0) 0 0 x f t)∧Below w.heap.size w w'
  | .lit k r a q=>e = .returned (escT k r (.slice none 0 0) a q 0 0 0)∧Below w.heap.size w w'
  | .set f q=>∃ v out,e = .returned (escT 2 0 v 0 q 0 0 0)∧Laid w w' out v∧IsSet out f∧out.length≤1000∧Below w.heap.size w w'
end Go.Proofs.YtnhnldmldnhaoaaGreatDoor
namespace Go.Proofs.YtnhnldmldnhaoaaGreatDoor
open Go Go.RowKit Go.Proofs Go.Shelf
structure St where
  p:Nat
  f:Int
  ns:List ByteArray
inductive PR (α:Type) where
  | out
  | wrong (e f t:Int)
  | ok (a:α) (st:St)
def quoteP (s:ByteArray) (p:Nat):ByteArray × Nat:=
  if 0≤Lib.index (s.data.toList.drop p) [92,69] then (s.extract p (p+(Lib.index (s.data.toList.drop p) [92,69]).toNat),p+(Lib.index (s.data.toList.drop p) [92,69]).toNat+2)
  else (s.extract p s.size,s.size)
noncomputable def escapeP (s:ByteArray) (st:St):PR (List T):=
  match escP s st.p (onB st.f 32) with
  | .wrong e a b=>.wrong e a b
  | .set g q=>.ok [setT (normL (if onB st.f 1=true then foldF g else g))] { st with p:=q.toNat }
  | .lit k r a q=>
    if k=1 then .ok [atomT st.f r] { st with p:=q.toNat }
    else if k=3 then .ok [leafT 5 0 [] a] { st with p:=q.toNat }
    else .ok (runesT st.f (quoteP s q.toNat).1) { st with p:=(quoteP s q.toNat).2 }
def dotL (f:Int):List (Int × Int):=if onB f 8=true then [(0,1114111)] else [(0,9),(11,1114111)]
end Go.Proofs.YtnhnldmldnhaoaaGreatDoor
namespace Go.Proofs.YtnhnldmldnhaoaaGreatDoor
open Go Go.RowKit Go.Proofs
def signP (s:ByteArray) (p:Nat):Option (Int × Int × Int) × Nat:=
  if stands s p [42]=true then (some (7,0,0),p+1)
  else if stands s p [43]=true then (some (8,0,0),p+1)
  else if stands s p [63]=true then (some (9,0,0),p+1)
  else match countP s p with
  | some (a,b,q)=>(some (10,a,b),q)
  | none=>(none,p)
def badCount (op mn mx:Int):Prop:=op=10∧(1000 < max mn mx∨0≤mx∧mx < mn)
instance (op mn mx:Int):Decidable (badCount op mn mx):=by unfold badCount;infer_instance
def lazyAt (s:ByteArray) (p:Nat) (f:Int):Bool:=onB f 32 && stands s p [63]
def behindLazy (s:ByteArray) (p:Nat) (f:Int):Nat:=if lazyAt s p f=true then p+1 else p
def repeatP (s:ByteArray) (fr p:Nat) (f op mn mx:Int):Except (Int × Int × Int) (Bool × Nat):=
  if badCount op mn mx then .error (85,fr,p)
  else match signP s (behindLazy s p f) with
  | (none,_)=>.ok (lazyAt s p f != onB f 16,behindLazy s p f)
  | (some (o2,a2,b2),q)=>if badCount o2 a2 b2 then .error (85,(behindLazy s p f:Nat),q) else .error (83,fr,(behindLazy s q f:Nat))
end Go.Proofs.YtnhnldmldnhaoaaGreatDoor
namespace Go.Proofs.YtnhnldmldnhaoaaGreatDoor
open Go Go.RowKit Go.Proofs
def flagOf (c:Int):Int:=if c=105 then 1 else if c=109 then 4 else if c=115 then 8 else if c=85 then 16 else 0
theorem scan_flag (c:Int) (w:World):Calls Tryz.prog 131 #[.int .i32 c] w fun e w'=>e = .returned (.int .i64 (flagOf c))∧w'=w:=by
  go_enter Tryz.func131, Tryz.ntmps131
  go_wp2_with fail
  all_goals
    go_ret
    refine ⟨?_,rfl⟩
    simp only [beq_iff_eq,beq_eq_false_iff_ne,ne_eq] at *
    unfold flagOf
    simp [*]
def flagsRun (s:ByteArray):Nat→Nat→Int→Bool→Bool→Except Nat (Int × Bool × Nat)
  | 0,_,_,_,_=>.error s.size
  | k+1,p,f,off,any=>
    if flagOf (nextC s p)≠0 then
      if off then flagsRun s k (p+1) (bits .andNot .i64 f (flagOf (nextC s p))) off true
      else flagsRun s k (p+1) (bits .or .i64 f (flagOf (nextC s p))) off any
    else if nextC s p=45∧off=false then flagsRun s k (p+1) f true any
    else if (nextC s p=58∨nextC s p=41)∧off=any then .ok (f,decide (nextC s p=58),p+1)
    else .error (nextW s p)
def flagsP (s:ByteArray) (at_:Nat) (f:Int):Except Nat (Int × Bool × Nat):=
  if nextC s at_≠40 then .error (nextW s at_)
  else if nextC s (at_+1)≠63 then .error (nextW s (at_+1))
  else flagsRun s (s.size+1 - (at_+2)) (at_+2) f false false
def flagsV (at_:Nat):Except Nat (Int × Bool × Nat)→Value
  | .error n=>.tuple #[.int .i64 0,.bool false,.int .i64 0,.agg #[.int .i64 65,.int .i64 at_,.int .i64 n]]
  | .ok (f,g,n)=>.tuple #[.int .i64 f,.bool g,.int .i64 n,.agg #[.int .i64 0,.int .i64 0,.int .i64 0]]
def placeOf (b:Nat) (w:World):Nat:=(intOf ((w.cell? ⟨b,1,none⟩).getD (.int .i64 0))).toNat
theorem placeOf_rd {w:World} {b:Nat} {s:ByteArray} {p:Nat} {rest:List Value} {t:TypeId} (h:Rd w b s p rest t):placeOf b w=p:=by
  unfold placeOf;rw [h.c1];simp [intOf]
def noneAct (s:ByteArray) (p:Nat) (b:Nat) (u:Nat→Value):Act:=
  ⟨#[.string s,.int .i64 p,u 2,undef,undef,undef,u 6,u 7,u 8,.pointer (some ⟨b,0,none⟩),.pointer (some ⟨b+1,0,none⟩),u 11,u 12,u 13,u 14,u 15,u 16,u 17,u 18,u 19,u 20,u 21,u 22,u 23,u 24,u 25,u 26,u 27,u 28,u 29,u 30,u 31,u 32,u 33,u 34,u 35,u 36,u 37,u 38,u 39,u 40,u 41,u 42,u 43,u 44,u 45,u 46,u 47,u 48,u 49,u 50,u 51,u 52,u 53,u 54,u 55,u 56,u 57,u 58,u 59,u 60,u 61,u 62,u 63,u 64,u 65,u 66,u 67,u 68,u 69,u 70,u 71,u 72,u 73,u 74,u 75,u 76,u 77,u 78],[]⟩
def noneJ (s:ByteArray) (p:Nat) (f:Int) (w:World) (a:Act) (w':World):Prop:=
  ∃ u n,a=noneAct s p w.heap.size u∧flagsP s p f = .error n∧Blk w' w.heap.size [.int .i64 0,.int .i64 0,.int .i64 0] 32∧Rd w' (w.heap.size+1) s n [] 140∧Below w.heap.size w w'
theorem flagOf_small {c:Int} (h:flagOf c≠0):0≤c∧c < 128:=by
  unfold flagOf at h
  repeat' split at h
  all_goals omega
theorem flagsRun_or {s:ByteArray} {q:Nat} (f:Int) (any:Bool) (h:flagOf (nextC s q)≠0) :
    q+1≤s.size∧nextW s q=q+1∧flagsRun s (s.size+1 - q) q f false any=flagsRun s (s.size+1 - (q+1)) (q+1) (bits .or .i64 f (flagOf (nextC s q))) false any:=by
  obtain ⟨h3,-,e3,-⟩:=nextC_small s q (flagOf_small h).1 (flagOf_small h).2
  refine ⟨h3,e3,?_⟩
  rw [show s.size+1 - q=(s.size+1 - (q+1))+1 by omega]
  simp [flagsRun,h]
theorem flagsRun_not {s:ByteArray} {q:Nat} (f:Int) (any:Bool) (h:flagOf (nextC s q)≠0) :
    q+1≤s.size∧nextW s q=q+1∧flagsRun s (s.size+1 - q) q f true any=flagsRun s (s.size+1 - (q+1)) (q+1) (bits .andNot .i64 f (flagOf (nextC s q))) true true:=by
  obtain ⟨h3,-,e3,-⟩:=nextC_small s q (flagOf_small h).1 (flagOf_small h).2
  refine ⟨h3,e3,?_⟩
  rw [show s.size+1 - q=(s.size+1 - (q+1))+1 by omega]
  simp [flagsRun,h]
theorem flagsRun_dash {s:ByteArray} {q:Nat} (f:Int) (any:Bool) (h:nextC s q=45) :
    q+1≤s.size∧nextW s q=q+1∧flagsRun s (s.size+1 - q) q f false any=flagsRun s (s.size+1 - (q+1)) (q+1) f true any:=by
  obtain ⟨h3,-,e3,-⟩:=nextC_small s q (by omega) (by omega)
  refine ⟨h3,e3,?_⟩
  rw [show s.size+1 - q=(s.size+1 - (q+1))+1 by omega]
  simp [flagsRun,h,show flagOf 45=0 from rfl]
theorem flagsRun_ok {s:ByteArray} {q:Nat} (f:Int) (off:Bool) (h:nextC s q=58∨nextC s q=41) :
    q+1≤s.size∧nextW s q=q+1∧flagsRun s (s.size+1 - q) q f off off = .ok (f,decide (nextC s q=58),q+1):=by
  obtain ⟨h3,-,e3,-⟩:=nextC_small s q (by omega) (by omega)
  refine ⟨h3,e3,?_⟩
  rw [show s.size+1 - q=(s.size+1 - (q+1))+1 by omega]
  rcases h with h | h <;> simp [flagsRun,h,show flagOf 58=0 from rfl,show flagOf 41=0 from rfl]
theorem flagsRun_bad {s:ByteArray} {q:Nat} (f:Int) (off any:Bool) (hq:q≤s.size) (h0:flagOf (nextC s q)=0) (h1:¬ (nextC s q=45∧off=false)) (h2:¬ ((nextC s q=58∨nextC s q=41)∧off=any)) :
    flagsRun s (s.size+1 - q) q f off any = .error (nextW s q):=by
  rw [show s.size+1 - q=(s.size - q)+1 by omega]
  unfold flagsRun
  rw [if_neg (by simpa using h0),if_neg h1,if_neg h2]
theorem jump_ret {l:Nat} {J:Act→World→Prop} {Q:Exit→Act→World→Prop} {a:Act} {w:World}:Exit.jump l J Q .ret a w=Q .ret a w:=rfl
theorem noneJ_intro {s:ByteArray} {p:Nat} {f:Int} {w:World} {a:Act} {w':World} {n:Nat} (hfr:a=noneAct s p w.heap.size (fun i=>a.tmps.getD i undef)) (hF:flagsP s p f = .error n)
    (hX:Blk w' w.heap.size [.int .i64 0,.int .i64 0,.int .i64 0] 32) (hR:Rd w' (w.heap.size+1) s n [] 140) (hB:Below w.heap.size w w'):noneJ s p f w a w':=⟨_,n,hfr,hF,hX,hR,hB⟩
theorem scan_Flags (s:ByteArray) (p:Nat) (f:Int) (w:World) (hT:Tabs w) (hp:p≤s.size) (hs:s.size≤140737488355328) :
    Calls Tryz.prog 101 #[.string s,.int .i64 p,.int .i64 f] w fun e w'=>e = .returned (flagsV p (flagsP s p f))∧Below w.heap.size w w':=by
  have hs':s.size≤1000000000000000:=by omega
  obtain ⟨W,hW⟩:∃ W,W=(w.alloc (.cells #[.int .i64 0,.int .i64 0,.int .i64 0] 32)).alloc (.cells #[.string s,.int .i64 p] 140):=⟨_,rfl⟩
  have X0:=hid (show Blk W w.heap.size [.int .i64 0,.int .i64 0,.int .i64 0] 32 by rw [hW];exact (Blk.new w [.int .i64 0,.int .i64 0,.int .i64 0] 32).alloc _)
  have R0:=hid (show Rd W (w.heap.size+1) s p [] 140 by
    have h:=Blk.new (w.alloc (.cells #[.int .i64 0,.int .i64 0,.int .i64 0] 32)) [.string s,.int .i64 p] 140
    rw [World.size_alloc] at h;rw [hW];exact h)
  have T0:=hid (show Tabs W by rw [hW];exact (hT.alloc _).alloc _)
  have B0:=hid (show Below w.heap.size w W by rw [hW];exact ((Below.refl _ w).alloc (Nat.le_refl _) _).alloc (by simp) _)
  have hl:=hT.lt
  clear hT
  go_enter Tryz.func101, Tryz.ntmps101
  go_wp2_with fail
  refine wp_scope_jumps 0 (noneJ s p f w) (fun _ _=>0) rfl ?_ ?_
  · go_wp2_with fail
    rw [← hW]
    have HW:=hid hW;clear hW
    refine (scan_next _ s p _ _ _ R0.out T0.out hp hs').mono ?_
    rintro e w1 ⟨rfl,hR,hG⟩
    have X1:=hid (X0.out.grown hG (ne_some (by omega)))
    have T1:=hid (T0.out.grown hG (by omega) (by omega))
    have R1:=hid hR;have B1:=hid (below_next B0.out (Nat.le_refl _) hG (fun k e=>by cases e;omega));clear hR hG
    have l1:=nextW_le s p hp
    by_cases c1:nextC s p=40
    · obtain ⟨h1,-,e1,-⟩:=nextC_small s p (by omega) (by omega)
      rw [e1] at R1 l1
      have HC1:=hid c1
      rw [c1]
      clear c1 e1
      go_wp2_with fail
      refine (scan_next _ s (p+1) _ _ _ R1.out T1.out l1 hs').mono ?_
      rintro e w2 ⟨rfl,hR,hG⟩
      have X2:=hid (X1.out.grown hG (ne_some (by omega)))
      have T2:=hid (T1.out.grown hG (by omega) (by omega))
      have R2:=hid hR;have B2:=hid (below_next B1.out (Nat.le_refl _) hG (fun k e=>by cases e;omega));clear hR hG
      by_cases c2:nextC s (p+1)=63
      · obtain ⟨h2,-,e2,-⟩:=nextC_small s (p+1) (by omega) (by omega)
        rw [e2] at R2
        have HF:=hid (show flagsP s p f=flagsRun s (s.size+1 - (p+2)) (p+2) f false false by unfold flagsP;rw [if_neg (by simp [HC1.out]),if_neg (by simp [c2])])
        have HC2:=hid c2
        rw [c2]
        clear c2 e2
        have l2:p+1+1≤s.size:=h2
        go_wp2_with fail
        go_loopw [2,11,12] (fun fv ov av wr=>∃ (q:Nat) (fz:Int) (ob ab:Bool),q≤s.size∧fv = .int .i64 fz∧ov = .bool ob∧av = .bool ab∧Rd wr (w.heap.size+1) s q [] 140∧
          Blk wr w.heap.size [.int .i64 0,.int .i64 0,.int .i64 0] 32∧Tabs wr∧Below w.heap.size w wr∧flagsP s p f=flagsRun s (s.size+1 - q) q fz ob ab) (fun _ _ _ wr=>s.size - placeOf (w.heap.size+1) wr)
        case atStart=>exact ⟨p+1+1,f,false,false,l2,rfl,rfl,rfl,R2.out,X2.out,T2.out,B2.out,HF.out⟩
        case round=>
          obtain ⟨q,fz,ob,ab,hq,rfl,rfl,rfl,hR,hX,hT,hB,hF⟩:=hrel
          have HX:=hid hX;have HR:=hid hR;have HT:=hid hT;have HB:=hid hB;have HFF:=hid hF
          clear hX hR hT hB hF
          go_wp2_with fail
          refine (scan_next _ s q _ _ _ HR.out HT.out hq hs').mono ?_
          rintro e w3 ⟨rfl,hR,hG⟩
          have X3:=hid (HX.out.grown hG (ne_some (by omega)))
          have T3:=hid (HT.out.grown hG (by omega) (by omega))
          have R3:=hid hR;have B3:=hid (below_next HB.out (Nat.le_refl _) hG (fun k e=>by cases e;omega));clear hR hG
          have PL:=hid (placeOf_rd HR.out)
          obtain ⟨C,hC⟩:∃ C,nextC s q=C:=⟨_,rfl⟩
          by_cases c3:flagOf C=0
          · have c3':(flagOf C != 0)=false:=by simpa using c3
            by_cases c4:C=45∧ob=false
            · obtain ⟨c4,rfl⟩:=c4
              obtain ⟨hq',e3,hs3⟩:=flagsRun_dash (s:=s) (q:=q) fz ab (by omega)
              rw [hC] at *
              have FF:=hid (HFF.out.trans hs3);clear hs3
              rw [e3] at R3
              have HC:=hid hC;clear hC e3 c3
              subst c4
              go_wp2_with fail
              refine (scan_flag _ _).mono ?_
              rintro e w4 ⟨rfl,rfl⟩
              go_wp2_with fail
              go_roundw
              case rel=>exact ⟨q+1,fz,true,ab,hq',rfl,rfl,rfl,R3.out,X3.out,T3.out,B3.out,FF.out⟩
              case measure=>rw [PL.out,placeOf_rd R3.out];omega
            · by_cases c5:(C=58∨C=41)∧ob=ab
              · obtain ⟨c5,rfl⟩:=c5
                obtain ⟨hq',e3,hs3⟩:=flagsRun_ok (s:=s) (q:=q) fz ob (by rw [hC];exact c5)
                rw [hC] at *
                have FF:=hid (HFF.out.trans hs3);clear hs3
                rw [e3] at R3
                have HC:=hid hC;clear hC e3 c3
                have r1:=Rd.c1 R3.out
                have x0:=Blk.cell X3.out (j:=0) rfl;have x1:=Blk.cell X3.out (j:=1) rfl;have x2:=Blk.cell X3.out (j:=2) rfl
                have y0:=X3.out.frozen 0;have y1:=X3.out.frozen 1;have y2:=X3.out.frozen 2
                have d1:decide (C=45)=false:=by simp;rcases c5 with h | h <;> omega
                clear c4
                rcases c5 with rfl | rfl
                · go_wp2_with fail
                  refine (scan_flag _ _).mono ?_
                  rintro e w4 ⟨rfl,rfl⟩
                  go_wp2_with fail
                  go_region
                  go_wp2_with fail
                  rw [jump_ret]
                  refine bodyPost_ret (v:=.tuple #[.int .i64 fz,.bool true,.int .i64 (q+1:Nat),.agg #[.int .i64 0,.int .i64 0,.int .i64 0]]) ?_ rfl ⟨?_,?_⟩
                  · simp [results,Tryz.results101,go_sem,x0,x1,x2]
                  · rw [FF.out];rfl
                  · exact (((B3.out.setCell (Nat.le_refl _) _).setCell (Nat.le_refl _) _).setCell (Nat.le_refl _) _).drew
                · go_wp2_with fail
                  refine (scan_flag _ _).mono ?_
                  rintro e w4 ⟨rfl,rfl⟩
                  go_wp2_with fail
                  go_region
                  go_wp2_with fail
                  rw [jump_ret]
                  refine bodyPost_ret (v:=.tuple #[.int .i64 fz,.bool false,.int .i64 (q+1:Nat),.agg #[.int .i64 0,.int .i64 0,.int .i64 0]]) ?_ rfl ⟨?_,?_⟩
                  · simp [results,Tryz.results101,go_sem,x0,x1,x2]
                  · rw [FF.out];rfl
                  · exact (((B3.out.setCell (Nat.le_refl _) _).setCell (Nat.le_refl _) _).setCell (Nat.le_refl _) _).drew
              · have FF:=hid (HFF.out.trans (flagsRun_bad (s:=s) (q:=q) fz ob ab hq (by rw [hC];exact c3) (by rw [hC];exact c4) (by rw [hC];exact c5)))
                rw [hC]
                have HC:=hid hC;clear hC c3
                by_cases d1:C=45
                · subst d1
                  have ho:ob=true:=by cases ob with | true=>rfl | false=>exact absurd ⟨rfl,rfl⟩ c4
                  subst ho
                  clear c4 c5
                  go_wp2_with fail
                  refine (scan_flag _ _).mono ?_
                  rintro e w4 ⟨rfl,rfl⟩
                  go_wp2_with fail
                  go_step3
                  exact ⟨rfl,noneJ_intro rfl FF.out X3.out R3.out B3.out⟩
                · by_cases d2:C=58
                  · subst d2
                    have ho:(ob == ab)=false:=by simpa using c5
                    clear c4 c5
                    go_wp2_with fail
                    refine (scan_flag _ _).mono ?_
                    rintro e w4 ⟨rfl,rfl⟩
                    go_wp2_with fail
                    go_step3
                    exact ⟨rfl,noneJ_intro rfl FF.out X3.out R3.out B3.out⟩
                  · by_cases d3:C=41
                    · subst d3
                      have ho:(ob == ab)=false:=by simpa using c5
                      clear c4 c5
                      go_wp2_with fail
                      refine (scan_flag _ _).mono ?_
                      rintro e w4 ⟨rfl,rfl⟩
                      go_wp2_with fail
                      go_step3
                      exact ⟨rfl,noneJ_intro rfl FF.out X3.out R3.out B3.out⟩
                    · clear c4 c5
                      go_wp2_with fail
                      refine (scan_flag _ _).mono ?_
                      rintro e w4 ⟨rfl,rfl⟩
                      go_wp2_with fail
                      go_step3
                      exact ⟨rfl,noneJ_intro rfl FF.out X3.out R3.out B3.out⟩
          · have c3':(flagOf C != 0)=true:=by simpa using c3
            cases ob
            · obtain ⟨hq',e3,hs3⟩:=flagsRun_or (s:=s) (q:=q) fz ab (by rw [hC];exact c3)
              rw [hC] at *
              have FF:=hid (HFF.out.trans hs3);clear hs3
              rw [e3] at R3
              have HC:=hid hC;clear hC e3 c3
              go_wp2_with fail
              refine (scan_flag _ _).mono ?_
              rintro e w4 ⟨rfl,rfl⟩
              go_wp2_with fail
              go_roundw
              case rel=>exact ⟨q+1,_,false,ab,hq',rfl,rfl,rfl,R3.out,X3.out,T3.out,B3.out,FF.out⟩
              case measure=>rw [PL.out,placeOf_rd R3.out];omega
            · obtain ⟨hq',e3,hs3⟩:=flagsRun_not (s:=s) (q:=q) fz ab (by rw [hC];exact c3)
              rw [hC] at *
              have FF:=hid (HFF.out.trans hs3);clear hs3
              rw [e3] at R3
              have HC:=hid hC;clear hC e3 c3
              go_wp2_with fail
              refine (scan_flag _ _).mono ?_
              rintro e w4 ⟨rfl,rfl⟩
              go_wp2_with fail
              go_roundw
              case rel=>exact ⟨q+1,_,true,true,hq',rfl,rfl,rfl,R3.out,X3.out,T3.out,B3.out,FF.out⟩
              case measure=>rw [PL.out,placeOf_rd R3.out];omega
      · have HF:=hid (show flagsP s p f = .error (nextW s (p+1)) by unfold flagsP;rw [if_neg (by simp [HC1.out]),if_pos c2])
        have c2':(nextC s (p+1) != 63)=true:=by simpa using c2
        clear c2
        go_wp2_with fail
        go_step3
        exact ⟨rfl,noneJ_intro rfl HF.out X2.out R2.out B2.out⟩
    · have HF:=hid (show flagsP s p f = .error (nextW s p) by unfold flagsP;rw [if_pos c1])
      have c1':(nextC s p != 40)=true:=by simpa using c1
      clear c1
      go_wp2_with fail
      go_step3
      exact ⟨rfl,noneJ_intro rfl HF.out X1.out R1.out B1.out⟩
  · rintro a wc ⟨u,n,rfl,HF,hX,hR,hB⟩
    have HF:=hid HF
    have r1:=Rd.c1 hR
    have x0:=Blk.cell hX (j:=0) rfl;have x1:=Blk.cell hX (j:=1) rfl;have x2:=Blk.cell hX (j:=2) rfl
    have y0:=hX.frozen 0;have y1:=hX.frozen 1;have y2:=hX.frozen 2
    have BB:=hid hB
    clear hX hR hB
    unfold noneAct
    go_wp2_with fail
    go_region
    go_wp2_with fail
    rw [jump_ret]
    refine bodyPost_ret (v:=.tuple #[.int .i64 0,.bool false,.int .i64 0,.agg #[.int .i64 65,.int .i64 p,.int .i64 n]]) ?_ rfl ⟨?_,?_⟩
    · simp [results,Tryz.results101,go_sem,x0,x1,x2]
    · rw [HF.out];rfl
    · exact (((BB.out.setCell (Nat.le_refl _) _).setCell (Nat.le_refl _) _).setCell (Nat.le_refl _) _).drew
end Go.Proofs.YtnhnldmldnhaoaaGreatDoor
