/- The reader of patterns: what begins with a backslash. (Printed by gen_syesc.py; its end is syesc_tail.txt.) -/
import Derived.Test.YtnhnldmldnhaoaaGreatDoorSBrFull
import Derived.Test.YtnhnldmldnhaoaaGreatDoorSSynLen
set_option maxRecDepth 100000
set_option maxHeartbeats 16000000
open Go.Lib (hid)
namespace Go.Proofs.YtnhnldmldnhaoaaGreatDoor
open Go Go.RowKit Go.Proofs Go.Shelf
theorem Blk.carry {W w':World} {b:Nat} {cs:List Value} {t:TypeId} (h:Blk W b cs t) (hB:Below W.heap.size W w'):Blk w' b cs t:=Blk.below h hB h.lt
theorem ext_listE {a b:ByteArray} (h:a.data.toList=b.data.toList):a=b:=by
  apply ByteArray.ext
  exact Array.toList_inj.1 h
theorem tabs_carry {W w':World} (h:Tabs W) (hB:Below W.heap.size W w'):Tabs w':=h.below hB
theorem hexN_in2 (x y:UInt8) (hx:hexs.contains x=true) (hy:hexs.contains y=true):0≤hexN [x,y]∧hexN [x,y]≤255:=by
  have key:∀ x ∈ hexs,∀ y ∈ hexs,0≤hexN [x,y]∧hexN [x,y]≤255:=by decide +kernel
  exact key x (List.contains_iff_mem.1 hx) y (List.contains_iff_mem.1 hy)
theorem codeP_in {s:ByteArray} {q:Nat} {n:Int} {r:Nat} (h:codeP s q=some (n,r)):0≤n∧n≤1114111:=by
  unfold codeP at h
  by_cases c:stands s q [123]=true
  · rw [if_pos c] at h
    by_cases c2:(bracedN s q).2.1=true
    · rw [if_pos c2] at h
      obtain ⟨rfl,_⟩:=Prod.mk.inj (Option.some.inj h)
      unfold bracedN at c2 ⊢
      simp only [Bool.and_eq_true,decide_eq_true_eq] at c2 ⊢
      refine ⟨?_,c2.2⟩
      unfold hexN
      exact (numP_bd 16 1114111 (by omega) (by omega) _ 0 (lower_dig (takeWhile_yes _ _)) (by omega) (by omega)).1
    · rw [if_neg c2] at h;cases h
  · rw [if_neg c] at h
    split at h
    · rename_i x y l hd
      by_cases c2:hexs.contains x=true∧hexs.contains y=true
      · rw [if_pos c2] at h
        obtain ⟨rfl,_⟩:=Prod.mk.inj (Option.some.inj h)
        have h1:=hexN_in2 x y c2.1 c2.2
        omega
      · rw [if_neg c2] at h;cases h
    · cases h
theorem escP_rune {s:ByteArray} {p:Nat} {perl:Bool} {k r a q:Int} (h:escP s p perl = .lit k r a q):(k=1∧0≤r∧r≤1114111)∨k=3∨k=4:=by
  unfold escP at h
  split at h
  · cases h
  split at h
  · cases h
  split at h
  · rename_i _ _ c
    cases h
    have h1:=nextC_le s (p+1)
    unfold signI at c
    simp only [decide_eq_true_eq,Bool.or_eq_true,Bool.decide_or] at c
    exact .inl ⟨rfl,by omega,by omega⟩
  split at h
  · rename_i _ _ _ c
    cases h
    refine .inl ⟨rfl,c,?_⟩
    unfold letterI
    repeat' split
    all_goals omega
  split at h
  · unfold escX at h
    cases hx:codeP s (nextW s (p+1)) with
    | none=>rw [hx] at h;cases h
    | some y=>
      obtain ⟨n,r2⟩:=y
      rw [hx] at h
      cases h
      exact .inl ⟨rfl,codeP_in hx⟩
  split at h
  · unfold escPr at h
    cases hx:propP s (nextW s (p+1)) with
    | none=>rw [hx] at h;cases h
    | some y=>
      obtain ⟨n,r2⟩:=y
      rw [hx] at h
      simp only at h
      split at h <;> cases h
  split at h
  · cases h
  · unfold escPl at h
    split at h
    · cases h;exact .inr (.inl rfl)
    split at h
    · cases h;exact .inr (.inr rfl)
    split at h <;> cases h
theorem cut_quote (s:ByteArray) (q:Nat) (m:Int) (W:World) (hq:q≤s.size) (hs:s.size≤100000000) (hW:W.cell? ⟨2,0,none⟩=some (.int .i64 m)) :
    Calls Tryz.prog 105 #[.string (tail s q),.string ⟨#[92,69]⟩] W fun e w'=>∃ (T2:ByteArray) (c:Bool),e = .returned (.tuple #[.string (quoteP s q).1,.string T2,.bool c])∧(quoteP s q).2=q+(quoteP s q).1.size+(if c then 2 else 0)∧Below W.heap.size W w':=by
  refine (Tryz.strings_Cut (tail s q) ⟨#[92,69]⟩ m W (by have:=tail_size s q;omega) hW).mono ?_
  rintro e w' ⟨rfl,n,rfl⟩
  rw [tail_toList]
  have hl:(s.data.toList.drop q).length=s.size - q:=by rw [List.length_drop,toList_len]
  have he:(⟨(Lib.cut (s.data.toList.drop q) (⟨#[92,69]⟩:ByteArray).data.toList).1.toArray⟩:ByteArray)=(quoteP s q).1∧(quoteP s q).2=q+(quoteP s q).1.size+(if (Lib.cut (s.data.toList.drop q) (⟨#[92,69]⟩:ByteArray).data.toList).2.2 then 2 else 0):=by
    unfold Lib.cut quoteP
    show _=_∧_
    by_cases c:0≤Lib.index (s.data.toList.drop q) [92,69]
    · rw [if_pos c,if_pos (show 0≤Lib.index (s.data.toList.drop q) (⟨#[92,69]⟩:ByteArray).data.toList from c)]
      have hr:=Lib.index_room (s.data.toList.drop q) [92,69] c
      rw [hl] at hr
      refine ⟨?_,?_⟩
      · apply ext_listE
        simp only [ByteArray.data_extract,Array.toList_extract,List.extract_eq_take_drop]
        congr 1
        show (Lib.index (s.data.toList.drop q) [92,69]).toNat=_
        omega
      · simp only [ByteArray.size_extract,if_true]
        simp only [List.length_cons,List.length_nil] at hr
        omega
    · rw [if_neg c,if_neg (show ¬ 0≤Lib.index (s.data.toList.drop q) (⟨#[92,69]⟩:ByteArray).data.toList from c)]
      refine ⟨?_,?_⟩
      · apply ext_listE
        simp only [ByteArray.data_extract,Array.toList_extract,List.extract_eq_take_drop]
        rw [List.take_of_length_le (by rw [hl];exact Nat.le_refl _)]
      · simp only [ByteArray.size_extract]
        simp;omega
  rw [he.1]
  exact ⟨_,_,rfl,he.2,below_drewN (Below.refl _ _) n⟩
def EscRes (s:ByteArray) (st:St) (k r a:Int) (q:Nat) (x f t:Int) (N:List (Int × Int)) (Z:Prop) (R:PR (List T)):Prop:=
  (x≠0∧R = .wrong x f t)∨(x=0∧f=0∧t=0∧st.p < q∧q≤s.size∧Bd s q∧
    ((k=1∧0≤r∧r≤1114111∧R = .ok [atomT st.f r] { st with p:=q })∨(k=2∧∃ g,(Z→IsSet N g)∧R = .ok [setT (normL (if onB st.f 1=true then foldF g else g))] { st with p:=q })∨
     (k=3∧R = .ok [leafT 5 0 [] a] { st with p:=q })∨(k=4∧R = .ok (runesT st.f (quoteP s q).1) { st with p:=(quoteP s q).2 })))
theorem escape_any (b lo:Nat) (s:ByteArray) (st:St) (nv:Value) (w:World) (h:SynIn w b lo s st nv) (hs:s.size≤100000000) (k r a:Int) (q:Nat) (x f t:Int) (N:List (Int × Int)) (Z:Prop) (R:PR (List T)) (hR:EscRes s st k r a q x f t N Z R)
    (hC:∀ W,Tabs W→Calls Tryz.prog 103 #[.string s,.int .i64 (st.p:Int),.bool (onB st.f 32)] W fun e w'=>Below W.heap.size W w'∧∃ (sa:Option Addr) (sc:Nat),e = .returned (.tuple #[.agg #[.int .i64 k,.int .i32 r,.slice sa N.length sc,.int .i64 a],.int .i64 (q:Int),.agg #[.int .i64 x,.int .i64 f,.int .i64 t]])∧SetF w' (fun k=>Fresh W w' k) N sa N.length sc∧Z) :
    Calls Tryz.prog 78 #[.pointer (some ⟨b,0,none⟩)] w (ListsOut w b lo s nv R):=by
  have HI:=hid h;have HC:=hid hC;have HR:=hid hR
  clear h hC hR
  have L1:=hid (Left.start HI.out)
  have TA:=hid L1.out.i.e.t
  have RA:=hid L1.out.i.r
  have zA:=RA.out.lt
  have c0:=Blk.cell RA.out (j:=0) rfl
  have c1:=Blk.cell RA.out (j:=1) rfl
  have c2:=Blk.cell RA.out (j:=2) rfl
  go_enter Tryz.func78, Tryz.ntmps78
  go_wp2_with fail
  refine Code.wp_mono (Q:=fun e a' w'=>∃ (x3 x5:Nat) (sa:Option Addr) (sc LO HI:Nat),e = .normal∧a'={ tmps:=((Value.pointer (some ⟨b,0,none⟩)) :: undef :: (Value.slice none 0 0) :: (Value.pointer (some ⟨x3,0,none⟩)) :: (Value.int .i64 (q:Int)) :: (Value.pointer (some ⟨x5,0,none⟩)) :: undef :: undef :: undef :: (Value.tuple #[.agg #[.int .i64 k,.int .i32 r,.slice sa N.length sc,.int .i64 a],.int .i64 (q:Int),.agg #[.int .i64 x,.int .i64 f,.int .i64 t]]) :: (Value.pointer (some ⟨b,0,none⟩)) :: (Value.pointer (some ⟨b,0,none⟩)) :: (Value.pointer (some ⟨b,1,none⟩)) :: (Value.string s) :: (Value.pointer (some ⟨b,0,none⟩)) :: (Value.pointer (some ⟨b,0,none⟩)) :: (Value.pointer (some ⟨b,2,none⟩)) :: (Value.int .i64 (st.p:Int)) :: (Value.pointer (some ⟨b,0,none⟩)) :: (Value.pointer (some ⟨b,0,none⟩)) :: (Value.pointer (some ⟨b,0,none⟩)) :: (Value.agg #[.int .i64 st.f]) :: (Value.bool (onB st.f 32)) :: (Value.tuple #[.agg #[.int .i64 k,.int .i32 r,.slice sa N.length sc,.int .i64 a],.int .i64 (q:Int),.agg #[.int .i64 x,.int .i64 f,.int .i64 t]]) :: (Value.agg #[.int .i64 k,.int .i32 r,.slice sa N.length sc,.int .i64 a]) :: (Value.int .i64 (q:Int)) :: (Value.agg #[.int .i64 x,.int .i64 f,.int .i64 t]) :: undef :: undef :: undef :: undef :: undef :: undef :: undef :: undef :: undef :: undef :: undef :: undef :: undef :: undef :: undef :: undef :: undef :: undef :: undef :: undef :: undef :: undef :: undef :: undef :: undef :: undef :: undef :: undef :: undef :: undef :: undef :: undef :: undef :: undef :: undef :: undef :: undef :: undef :: undef :: undef :: undef :: undef :: undef :: undef :: undef :: undef :: undef :: undef :: undef :: undef :: undef :: undef :: undef :: undef :: undef :: undef :: undef :: undef :: undef :: undef :: undef :: undef :: undef :: undef :: undef :: undef :: undef :: undef :: undef :: []:List Value).toArray,defers:=[] }∧w.grownBy w' none∧Blk w' x3 [.int .i64 k,.int .i32 r,.slice sa N.length sc,.int .i64 a] 150∧Blk w' x5 [.int .i64 x,.int .i64 f,.int .i64 t] 32∧w.heap.size≤x3∧w.heap.size≤x5∧x3≠x5∧SetF w' (fun k=>LO≤k∧k < HI) N sa N.length sc∧w.heap.size≤LO∧HI≤w'.heap.size∧(x3 < LO∨HI≤x3)∧Z) ?_ ?_
  rotate_left
  · go_region_held3 (fun w'=>w'.cell? ⟨b,0,none⟩=some (.int .i64 st.f)∧w'.cell? ⟨b,1,none⟩=some (.string s)∧w'.cell? ⟨b,2,none⟩=some (.int .i64 (st.p:Int))) (go_keep) (first | (go_at_call 32;first | (refine (syn_on st.f 32 (w.drew)).mono ?_;rintro e w3 ⟨rfl,hB⟩;have hs3:=hB.size;have zA3:w.heap.size+0≤w3.heap.size:=(by first | omega | (simp at hs3;omega));have R3:=hid (show SyR w3 b s st.f st.p nv from Blk.carry (W:=w.drew) (Blk.drew (RA.out)) hB);have T3:=hid (show Tabs w3 from tabs_carry (W:=w.drew) (TA.out) hB);have GA3:=hid (show w.grownBy w3 none from grownBy_trans (grownBy_drew _ _) (grownBy_below hB none));have g0:=Blk.cell R3.out (j:=0) rfl;have g1:=Blk.cell R3.out (j:=1) rfl;have g2:=Blk.cell R3.out (j:=2) rfl;have hbA:=zA;clear hB hs3) | (refine (syn_on st.f 32 ((w.alloc (.cells #[.int .i64 0,.int .i32 0,.slice none 0 0,.int .i64 0] 150)).drew)).mono ?_;rintro e w3 ⟨rfl,hB⟩;have hs3:=hB.size;have zA3:w.heap.size+1≤w3.heap.size:=(by first | omega | (simp at hs3;omega));have R3:=hid (show SyR w3 b s st.f st.p nv from Blk.carry (W:=(w.alloc (.cells #[.int .i64 0,.int .i32 0,.slice none 0 0,.int .i64 0] 150)).drew) (Blk.drew (Blk.alloc (RA.out) _)) hB);have N3A:=hid (show Blk w3 w.heap.size [.int .i64 0,.int .i32 0,.slice none 0 0,.int .i64 0] 150 from Blk.carry (W:=(w.alloc (.cells #[.int .i64 0,.int .i32 0,.slice none 0 0,.int .i64 0] 150)).drew) (Blk.drew (Blk.new w [.int .i64 0,.int .i32 0,.slice none 0 0,.int .i64 0] 150)) hB);have z3A:=N3A.out.lt;have T3:=hid (show Tabs w3 from tabs_carry (W:=(w.alloc (.cells #[.int .i64 0,.int .i32 0,.slice none 0 0,.int .i64 0] 150)).drew) (Tabs.alloc (TA.out) _) hB);have GA3:=hid (show w.grownBy w3 none from grownBy_trans (grownBy_trans (grownBy_alloc _ _ _) (grownBy_drew _ _)) (grownBy_below hB none));have g0:=Blk.cell R3.out (j:=0) rfl;have g1:=Blk.cell R3.out (j:=1) rfl;have g2:=Blk.cell R3.out (j:=2) rfl;have hbA:=zA;clear hB hs3) | (refine (syn_on st.f 32 ((w.alloc (.cells #[.int .i64 0,.int .i64 0,.int .i64 0] 32)).drew)).mono ?_;rintro e w3 ⟨rfl,hB⟩;have hs3:=hB.size;have zA3:w.heap.size+1≤w3.heap.size:=(by first | omega | (simp at hs3;omega));have R3:=hid (show SyR w3 b s st.f st.p nv from Blk.carry (W:=(w.alloc (.cells #[.int .i64 0,.int .i64 0,.int .i64 0] 32)).drew) (Blk.drew (Blk.alloc (RA.out) _)) hB);have N3B:=hid (show Blk w3 w.heap.size [.int .i64 0,.int .i64 0,.int .i64 0] 32 from Blk.carry (W:=(w.alloc (.cells #[.int .i64 0,.int .i64 0,.int .i64 0] 32)).drew) (Blk.drew (Blk.new w [.int .i64 0,.int .i64 0,.int .i64 0] 32)) hB);have z3B:=N3B.out.lt;have T3:=hid (show Tabs w3 from tabs_carry (W:=(w.alloc (.cells #[.int .i64 0,.int .i64 0,.int .i64 0] 32)).drew) (Tabs.alloc (TA.out) _) hB);have GA3:=hid (show w.grownBy w3 none from grownBy_trans (grownBy_trans (grownBy_alloc _ _ _) (grownBy_drew _ _)) (grownBy_below hB none));have g0:=Blk.cell R3.out (j:=0) rfl;have g1:=Blk.cell R3.out (j:=1) rfl;have g2:=Blk.cell R3.out (j:=2) rfl;have hbA:=zA;clear hB hs3) | (refine (syn_on st.f 32 (((w.alloc (.cells #[.int .i64 0,.int .i32 0,.slice none 0 0,.int .i64 0] 150)).alloc (.cells #[.int .i64 0,.int .i64 0,.int .i64 0] 32)).drew)).mono ?_;rintro e w3 ⟨rfl,hB⟩;have hs3:=hB.size;have zA3:w.heap.size+2≤w3.heap.size:=(by first | omega | (simp at hs3;omega));have R3:=hid (show SyR w3 b s st.f st.p nv from Blk.carry (W:=((w.alloc (.cells #[.int .i64 0,.int .i32 0,.slice none 0 0,.int .i64 0] 150)).alloc (.cells #[.int .i64 0,.int .i64 0,.int .i64 0] 32)).drew) (Blk.drew (Blk.alloc (Blk.alloc (RA.out) _) _)) hB);have N3A:=hid (show Blk w3 w.heap.size [.int .i64 0,.int .i32 0,.slice none 0 0,.int .i64 0] 150 from Blk.carry (W:=((w.alloc (.cells #[.int .i64 0,.int .i32 0,.slice none 0 0,.int .i64 0] 150)).alloc (.cells #[.int .i64 0,.int .i64 0,.int .i64 0] 32)).drew) (Blk.drew (Blk.alloc (Blk.new w [.int .i64 0,.int .i32 0,.slice none 0 0,.int .i64 0] 150) _)) hB);have z3A:=N3A.out.lt;have N3B:=hid (show Blk w3 (w.heap.size+1) [.int .i64 0,.int .i64 0,.int .i64 0] 32 from Blk.carry (W:=((w.alloc (.cells #[.int .i64 0,.int .i32 0,.slice none 0 0,.int .i64 0] 150)).alloc (.cells #[.int .i64 0,.int .i64 0,.int .i64 0] 32)).drew) (Blk.second w _ _ _) hB);have z3B:=N3B.out.lt;have T3:=hid (show Tabs w3 from tabs_carry (W:=((w.alloc (.cells #[.int .i64 0,.int .i32 0,.slice none 0 0,.int .i64 0] 150)).alloc (.cells #[.int .i64 0,.int .i64 0,.int .i64 0] 32)).drew) (Tabs.alloc (Tabs.alloc (TA.out) _) _) hB);have GA3:=hid (show w.grownBy w3 none from grownBy_trans (grownBy_trans (grownBy_trans (grownBy_alloc _ _ _) (grownBy_alloc _ _ _)) (grownBy_drew _ _)) (grownBy_below hB none));have g0:=Blk.cell R3.out (j:=0) rfl;have g1:=Blk.cell R3.out (j:=1) rfl;have g2:=Blk.cell R3.out (j:=2) rfl;have hbA:=zA;clear hB hs3) | (refine (syn_on st.f 32 (((w.alloc (.cells #[.int .i64 0,.int .i64 0,.int .i64 0] 32)).alloc (.cells #[.int .i64 0,.int .i32 0,.slice none 0 0,.int .i64 0] 150)).drew)).mono ?_;rintro e w3 ⟨rfl,hB⟩;have hs3:=hB.size;have zA3:w.heap.size+2≤w3.heap.size:=(by first | omega | (simp at hs3;omega));have R3:=hid (show SyR w3 b s st.f st.p nv from Blk.carry (W:=((w.alloc (.cells #[.int .i64 0,.int .i64 0,.int .i64 0] 32)).alloc (.cells #[.int .i64 0,.int .i32 0,.slice none 0 0,.int .i64 0] 150)).drew) (Blk.drew (Blk.alloc (Blk.alloc (RA.out) _) _)) hB);have N3B:=hid (show Blk w3 w.heap.size [.int .i64 0,.int .i64 0,.int .i64 0] 32 from Blk.carry (W:=((w.alloc (.cells #[.int .i64 0,.int .i64 0,.int .i64 0] 32)).alloc (.cells #[.int .i64 0,.int .i32 0,.slice none 0 0,.int .i64 0] 150)).drew) (Blk.drew (Blk.alloc (Blk.new w [.int .i64 0,.int .i64 0,.int .i64 0] 32) _)) hB);have z3B:=N3B.out.lt;have N3A:=hid (show Blk w3 (w.heap.size+1) [.int .i64 0,.int .i32 0,.slice none 0 0,.int .i64 0] 150 from Blk.carry (W:=((w.alloc (.cells #[.int .i64 0,.int .i64 0,.int .i64 0] 32)).alloc (.cells #[.int .i64 0,.int .i32 0,.slice none 0 0,.int .i64 0] 150)).drew) (Blk.second w _ _ _) hB);have z3A:=N3A.out.lt;have T3:=hid (show Tabs w3 from tabs_carry (W:=((w.alloc (.cells #[.int .i64 0,.int .i64 0,.int .i64 0] 32)).alloc (.cells #[.int .i64 0,.int .i32 0,.slice none 0 0,.int .i64 0] 150)).drew) (Tabs.alloc (Tabs.alloc (TA.out) _) _) hB);have GA3:=hid (show w.grownBy w3 none from grownBy_trans (grownBy_trans (grownBy_trans (grownBy_alloc _ _ _) (grownBy_alloc _ _ _)) (grownBy_drew _ _)) (grownBy_below hB none));have g0:=Blk.cell R3.out (j:=0) rfl;have g1:=Blk.cell R3.out (j:=1) rfl;have g2:=Blk.cell R3.out (j:=2) rfl;have hbA:=zA;clear hB hs3)) | (go_at_call 103;first | (have _:=N3A.out;have _:=N3B.out;refine (HC.out (w3) (T3.out)).mono ?_;rintro e w4 ⟨hB,sa,sc,rfl,hS,hZ⟩;have hs4:=hB.size;have z34:w3.heap.size+0≤w4.heap.size:=(by first | omega | (simp at hs4;omega));have R4:=hid (show SyR w4 b s st.f st.p nv from Blk.carry (W:=w3) (R3.out) hB);have NA:=hid (show Blk w4 w.heap.size [.int .i64 0,.int .i32 0,.slice none 0 0,.int .i64 0] 150 from Blk.carry (W:=w3) (N3A.out) hB);have NB:=hid (show Blk w4 (w.heap.size+1) [.int .i64 0,.int .i64 0,.int .i64 0] 32 from Blk.carry (W:=w3) (N3B.out) hB);have z4A:=NA.out.lt;have fa0:=Blk.frozen (NA.out) 0;have ca0:=Blk.cell (NA.out) (j:=0) rfl;have fa1:=Blk.frozen (NA.out) 1;have ca1:=Blk.cell (NA.out) (j:=1) rfl;have fa2:=Blk.frozen (NA.out) 2;have ca2:=Blk.cell (NA.out) (j:=2) rfl;have fa3:=Blk.frozen (NA.out) 3;have ca3:=Blk.cell (NA.out) (j:=3) rfl;have z4B:=NB.out.lt;have fb0:=Blk.frozen (NB.out) 0;have cb0:=Blk.cell (NB.out) (j:=0) rfl;have fb1:=Blk.frozen (NB.out) 1;have cb1:=Blk.cell (NB.out) (j:=1) rfl;have fb2:=Blk.frozen (NB.out) 2;have cb2:=Blk.cell (NB.out) (j:=2) rfl;have G4:=hid (show w.grownBy w4 none from grownBy_trans GA3.out (grownBy_trans (grownBy_refl _ _) (grownBy_below hB none)));have S4:=hid (show SetF w4 (fun k=>w3.heap.size≤k∧k < w4.heap.size) N sa N.length sc from hS.turned (fun _ _=>rfl) (fun k hk=>⟨(by have:=hk.1;first | exact this | simpa using this),hk.2⟩));have g0:=Blk.cell R4.out (j:=0) rfl;have g1:=Blk.cell R4.out (j:=1) rfl;have g2:=Blk.cell R4.out (j:=2) rfl;have:b≠w.heap.size:=(by omega);have:w.heap.size≠b:=(by omega);have:b≠w.heap.size+1:=(by omega);have:w.heap.size+1≠b:=(by omega);have:w.heap.size≠w.heap.size+1:=(by omega);have:w.heap.size+1≠w.heap.size:=(by omega);clear hB hs4 hS) | (have _:=N3B.out;have _:=N3A.out;refine (HC.out (w3) (T3.out)).mono ?_;rintro e w4 ⟨hB,sa,sc,rfl,hS,hZ⟩;have hs4:=hB.size;have z34:w3.heap.size+0≤w4.heap.size:=(by first | omega | (simp at hs4;omega));have R4:=hid (show SyR w4 b s st.f st.p nv from Blk.carry (W:=w3) (R3.out) hB);have NB:=hid (show Blk w4 w.heap.size [.int .i64 0,.int .i64 0,.int .i64 0] 32 from Blk.carry (W:=w3) (N3B.out) hB);have NA:=hid (show Blk w4 (w.heap.size+1) [.int .i64 0,.int .i32 0,.slice none 0 0,.int .i64 0] 150 from Blk.carry (W:=w3) (N3A.out) hB);have z4B:=NB.out.lt;have fb0:=Blk.frozen (NB.out) 0;have cb0:=Blk.cell (NB.out) (j:=0) rfl;have fb1:=Blk.frozen (NB.out) 1;have cb1:=Blk.cell (NB.out) (j:=1) rfl;have fb2:=Blk.frozen (NB.out) 2;have cb2:=Blk.cell (NB.out) (j:=2) rfl;have z4A:=NA.out.lt;have fa0:=Blk.frozen (NA.out) 0;have ca0:=Blk.cell (NA.out) (j:=0) rfl;have fa1:=Blk.frozen (NA.out) 1;have ca1:=Blk.cell (NA.out) (j:=1) rfl;have fa2:=Blk.frozen (NA.out) 2;have ca2:=Blk.cell (NA.out) (j:=2) rfl;have fa3:=Blk.frozen (NA.out) 3;have ca3:=Blk.cell (NA.out) (j:=3) rfl;have G4:=hid (show w.grownBy w4 none from grownBy_trans GA3.out (grownBy_trans (grownBy_refl _ _) (grownBy_below hB none)));have S4:=hid (show SetF w4 (fun k=>w3.heap.size≤k∧k < w4.heap.size) N sa N.length sc from hS.turned (fun _ _=>rfl) (fun k hk=>⟨(by have:=hk.1;first | exact this | simpa using this),hk.2⟩));have g0:=Blk.cell R4.out (j:=0) rfl;have g1:=Blk.cell R4.out (j:=1) rfl;have g2:=Blk.cell R4.out (j:=2) rfl;have:b≠w.heap.size:=(by omega);have:w.heap.size≠b:=(by omega);have:b≠w.heap.size+1:=(by omega);have:w.heap.size+1≠b:=(by omega);have:w.heap.size≠w.heap.size+1:=(by omega);have:w.heap.size+1≠w.heap.size:=(by omega);clear hB hs4 hS) | (have _:=N3A.out;refine (HC.out (w3.alloc (.cells #[.int .i64 0,.int .i64 0,.int .i64 0] 32)) (Tabs.alloc (T3.out) _)).mono ?_;rintro e w4 ⟨hB,sa,sc,rfl,hS,hZ⟩;have hs4:=hB.size;have z34:w3.heap.size+1≤w4.heap.size:=(by first | omega | (simp at hs4;omega));have R4:=hid (show SyR w4 b s st.f st.p nv from Blk.carry (W:=w3.alloc (.cells #[.int .i64 0,.int .i64 0,.int .i64 0] 32)) (Blk.alloc (R3.out) _) hB);have NB:=hid (show Blk w4 w3.heap.size [.int .i64 0,.int .i64 0,.int .i64 0] 32 from Blk.carry (W:=w3.alloc (.cells #[.int .i64 0,.int .i64 0,.int .i64 0] 32)) (Blk.new w3 [.int .i64 0,.int .i64 0,.int .i64 0] 32) hB);have NA:=hid (show Blk w4 w.heap.size [.int .i64 0,.int .i32 0,.slice none 0 0,.int .i64 0] 150 from Blk.carry (W:=w3.alloc (.cells #[.int .i64 0,.int .i64 0,.int .i64 0] 32)) (Blk.alloc (N3A.out) _) hB);have z4A:=NA.out.lt;have fa0:=Blk.frozen (NA.out) 0;have ca0:=Blk.cell (NA.out) (j:=0) rfl;have fa1:=Blk.frozen (NA.out) 1;have ca1:=Blk.cell (NA.out) (j:=1) rfl;have fa2:=Blk.frozen (NA.out) 2;have ca2:=Blk.cell (NA.out) (j:=2) rfl;have fa3:=Blk.frozen (NA.out) 3;have ca3:=Blk.cell (NA.out) (j:=3) rfl;have z4B:=NB.out.lt;have fb0:=Blk.frozen (NB.out) 0;have cb0:=Blk.cell (NB.out) (j:=0) rfl;have fb1:=Blk.frozen (NB.out) 1;have cb1:=Blk.cell (NB.out) (j:=1) rfl;have fb2:=Blk.frozen (NB.out) 2;have cb2:=Blk.cell (NB.out) (j:=2) rfl;have G4:=hid (show w.grownBy w4 none from grownBy_trans GA3.out (grownBy_trans (grownBy_alloc _ _ _) (grownBy_below hB none)));have S4:=hid (show SetF w4 (fun k=>w3.heap.size+1≤k∧k < w4.heap.size) N sa N.length sc from hS.turned (fun _ _=>rfl) (fun k hk=>⟨(by have:=hk.1;first | exact this | simpa using this),hk.2⟩));have g0:=Blk.cell R4.out (j:=0) rfl;have g1:=Blk.cell R4.out (j:=1) rfl;have g2:=Blk.cell R4.out (j:=2) rfl;have:b≠w.heap.size:=(by omega);have:w.heap.size≠b:=(by omega);have:b≠w3.heap.size:=(by omega);have:w3.heap.size≠b:=(by omega);have:w.heap.size≠w3.heap.size:=(by omega);have:w3.heap.size≠w.heap.size:=(by omega);clear hB hs4 hS) | (have _:=N3B.out;refine (HC.out (w3.alloc (.cells #[.int .i64 0,.int .i32 0,.slice none 0 0,.int .i64 0] 150)) (Tabs.alloc (T3.out) _)).mono ?_;rintro e w4 ⟨hB,sa,sc,rfl,hS,hZ⟩;have hs4:=hB.size;have z34:w3.heap.size+1≤w4.heap.size:=(by first | omega | (simp at hs4;omega));have R4:=hid (show SyR w4 b s st.f st.p nv from Blk.carry (W:=w3.alloc (.cells #[.int .i64 0,.int .i32 0,.slice none 0 0,.int .i64 0] 150)) (Blk.alloc (R3.out) _) hB);have NA:=hid (show Blk w4 w3.heap.size [.int .i64 0,.int .i32 0,.slice none 0 0,.int .i64 0] 150 from Blk.carry (W:=w3.alloc (.cells #[.int .i64 0,.int .i32 0,.slice none 0 0,.int .i64 0] 150)) (Blk.new w3 [.int .i64 0,.int .i32 0,.slice none 0 0,.int .i64 0] 150) hB);have NB:=hid (show Blk w4 w.heap.size [.int .i64 0,.int .i64 0,.int .i64 0] 32 from Blk.carry (W:=w3.alloc (.cells #[.int .i64 0,.int .i32 0,.slice none 0 0,.int .i64 0] 150)) (Blk.alloc (N3B.out) _) hB);have z4B:=NB.out.lt;have fb0:=Blk.frozen (NB.out) 0;have cb0:=Blk.cell (NB.out) (j:=0) rfl;have fb1:=Blk.frozen (NB.out) 1;have cb1:=Blk.cell (NB.out) (j:=1) rfl;have fb2:=Blk.frozen (NB.out) 2;have cb2:=Blk.cell (NB.out) (j:=2) rfl;have z4A:=NA.out.lt;have fa0:=Blk.frozen (NA.out) 0;have ca0:=Blk.cell (NA.out) (j:=0) rfl;have fa1:=Blk.frozen (NA.out) 1;have ca1:=Blk.cell (NA.out) (j:=1) rfl;have fa2:=Blk.frozen (NA.out) 2;have ca2:=Blk.cell (NA.out) (j:=2) rfl;have fa3:=Blk.frozen (NA.out) 3;have ca3:=Blk.cell (NA.out) (j:=3) rfl;have G4:=hid (show w.grownBy w4 none from grownBy_trans GA3.out (grownBy_trans (grownBy_alloc _ _ _) (grownBy_below hB none)));have S4:=hid (show SetF w4 (fun k=>w3.heap.size+1≤k∧k < w4.heap.size) N sa N.length sc from hS.turned (fun _ _=>rfl) (fun k hk=>⟨(by have:=hk.1;first | exact this | simpa using this),hk.2⟩));have g0:=Blk.cell R4.out (j:=0) rfl;have g1:=Blk.cell R4.out (j:=1) rfl;have g2:=Blk.cell R4.out (j:=2) rfl;have:b≠w.heap.size:=(by omega);have:w.heap.size≠b:=(by omega);have:b≠w3.heap.size:=(by omega);have:w3.heap.size≠b:=(by omega);have:w.heap.size≠w3.heap.size:=(by omega);have:w3.heap.size≠w.heap.size:=(by omega);clear hB hs4 hS) | (have _:=N3A.out;refine (HC.out (w3) (T3.out)).mono ?_;rintro e w4 ⟨hB,sa,sc,rfl,hS,hZ⟩;have hs4:=hB.size;have z34:w3.heap.size+0≤w4.heap.size:=(by first | omega | (simp at hs4;omega));have R4:=hid (show SyR w4 b s st.f st.p nv from Blk.carry (W:=w3) (R3.out) hB);have NA:=hid (show Blk w4 w.heap.size [.int .i64 0,.int .i32 0,.slice none 0 0,.int .i64 0] 150 from Blk.carry (W:=w3) (N3A.out) hB);have z4A:=NA.out.lt;have fa0:=Blk.frozen (NA.out) 0;have ca0:=Blk.cell (NA.out) (j:=0) rfl;have fa1:=Blk.frozen (NA.out) 1;have ca1:=Blk.cell (NA.out) (j:=1) rfl;have fa2:=Blk.frozen (NA.out) 2;have ca2:=Blk.cell (NA.out) (j:=2) rfl;have fa3:=Blk.frozen (NA.out) 3;have ca3:=Blk.cell (NA.out) (j:=3) rfl;have G4:=hid (show w.grownBy w4 none from grownBy_trans GA3.out (grownBy_trans (grownBy_refl _ _) (grownBy_below hB none)));have S4:=hid (show SetF w4 (fun k=>w3.heap.size≤k∧k < w4.heap.size) N sa N.length sc from hS.turned (fun _ _=>rfl) (fun k hk=>⟨(by have:=hk.1;first | exact this | simpa using this),hk.2⟩));have g0:=Blk.cell R4.out (j:=0) rfl;have g1:=Blk.cell R4.out (j:=1) rfl;have g2:=Blk.cell R4.out (j:=2) rfl;have:b≠w.heap.size:=(by omega);have:w.heap.size≠b:=(by omega);have:b≠w4.heap.size:=(by omega);have:w4.heap.size≠b:=(by omega);have:w.heap.size≠w4.heap.size:=(by omega);have:w4.heap.size≠w.heap.size:=(by omega);clear hB hs4 hS) | (have _:=N3B.out;refine (HC.out (w3) (T3.out)).mono ?_;rintro e w4 ⟨hB,sa,sc,rfl,hS,hZ⟩;have hs4:=hB.size;have z34:w3.heap.size+0≤w4.heap.size:=(by first | omega | (simp at hs4;omega));have R4:=hid (show SyR w4 b s st.f st.p nv from Blk.carry (W:=w3) (R3.out) hB);have NB:=hid (show Blk w4 w.heap.size [.int .i64 0,.int .i64 0,.int .i64 0] 32 from Blk.carry (W:=w3) (N3B.out) hB);have z4B:=NB.out.lt;have fb0:=Blk.frozen (NB.out) 0;have cb0:=Blk.cell (NB.out) (j:=0) rfl;have fb1:=Blk.frozen (NB.out) 1;have cb1:=Blk.cell (NB.out) (j:=1) rfl;have fb2:=Blk.frozen (NB.out) 2;have cb2:=Blk.cell (NB.out) (j:=2) rfl;have G4:=hid (show w.grownBy w4 none from grownBy_trans GA3.out (grownBy_trans (grownBy_refl _ _) (grownBy_below hB none)));have S4:=hid (show SetF w4 (fun k=>w3.heap.size≤k∧k < w4.heap.size) N sa N.length sc from hS.turned (fun _ _=>rfl) (fun k hk=>⟨(by have:=hk.1;first | exact this | simpa using this),hk.2⟩));have g0:=Blk.cell R4.out (j:=0) rfl;have g1:=Blk.cell R4.out (j:=1) rfl;have g2:=Blk.cell R4.out (j:=2) rfl;have:b≠w.heap.size:=(by omega);have:w.heap.size≠b:=(by omega);have:b≠w4.heap.size:=(by omega);have:w4.heap.size≠b:=(by omega);have:w.heap.size≠w4.heap.size:=(by omega);have:w4.heap.size≠w.heap.size:=(by omega);clear hB hs4 hS) | (refine (HC.out ((w3.alloc (.cells #[.int .i64 0,.int .i32 0,.slice none 0 0,.int .i64 0] 150)).alloc (.cells #[.int .i64 0,.int .i64 0,.int .i64 0] 32)) (Tabs.alloc (Tabs.alloc (T3.out) _) _)).mono ?_;rintro e w4 ⟨hB,sa,sc,rfl,hS,hZ⟩;have hs4:=hB.size;have z34:w3.heap.size+2≤w4.heap.size:=(by first | omega | (simp at hs4;omega));have R4:=hid (show SyR w4 b s st.f st.p nv from Blk.carry (W:=(w3.alloc (.cells #[.int .i64 0,.int .i32 0,.slice none 0 0,.int .i64 0] 150)).alloc (.cells #[.int .i64 0,.int .i64 0,.int .i64 0] 32)) (Blk.alloc (Blk.alloc (R3.out) _) _) hB);have NA:=hid (show Blk w4 w3.heap.size [.int .i64 0,.int .i32 0,.slice none 0 0,.int .i64 0] 150 from Blk.carry (W:=(w3.alloc (.cells #[.int .i64 0,.int .i32 0,.slice none 0 0,.int .i64 0] 150)).alloc (.cells #[.int .i64 0,.int .i64 0,.int .i64 0] 32)) (Blk.alloc (Blk.new w3 [.int .i64 0,.int .i32 0,.slice none 0 0,.int .i64 0] 150) _) hB);have NB:=hid (show Blk w4 (w3.heap.size+1) [.int .i64 0,.int .i64 0,.int .i64 0] 32 from Blk.carry (W:=(w3.alloc (.cells #[.int .i64 0,.int .i32 0,.slice none 0 0,.int .i64 0] 150)).alloc (.cells #[.int .i64 0,.int .i64 0,.int .i64 0] 32)) (Blk.next w3 _ _ _) hB);have z4A:=NA.out.lt;have fa0:=Blk.frozen (NA.out) 0;have ca0:=Blk.cell (NA.out) (j:=0) rfl;have fa1:=Blk.frozen (NA.out) 1;have ca1:=Blk.cell (NA.out) (j:=1) rfl;have fa2:=Blk.frozen (NA.out) 2;have ca2:=Blk.cell (NA.out) (j:=2) rfl;have fa3:=Blk.frozen (NA.out) 3;have ca3:=Blk.cell (NA.out) (j:=3) rfl;have z4B:=NB.out.lt;have fb0:=Blk.frozen (NB.out) 0;have cb0:=Blk.cell (NB.out) (j:=0) rfl;have fb1:=Blk.frozen (NB.out) 1;have cb1:=Blk.cell (NB.out) (j:=1) rfl;have fb2:=Blk.frozen (NB.out) 2;have cb2:=Blk.cell (NB.out) (j:=2) rfl;have G4:=hid (show w.grownBy w4 none from grownBy_trans GA3.out (grownBy_trans (grownBy_trans (grownBy_alloc _ _ _) (grownBy_alloc _ _ _)) (grownBy_below hB none)));have S4:=hid (show SetF w4 (fun k=>w3.heap.size+2≤k∧k < w4.heap.size) N sa N.length sc from hS.turned (fun _ _=>rfl) (fun k hk=>⟨(by have:=hk.1;first | exact this | simpa using this),hk.2⟩));have g0:=Blk.cell R4.out (j:=0) rfl;have g1:=Blk.cell R4.out (j:=1) rfl;have g2:=Blk.cell R4.out (j:=2) rfl;have:b≠w3.heap.size:=(by omega);have:w3.heap.size≠b:=(by omega);have:b≠w3.heap.size+1:=(by omega);have:w3.heap.size+1≠b:=(by omega);have:w3.heap.size≠w3.heap.size+1:=(by omega);have:w3.heap.size+1≠w3.heap.size:=(by omega);clear hB hs4 hS) | (refine (HC.out ((w3.alloc (.cells #[.int .i64 0,.int .i64 0,.int .i64 0] 32)).alloc (.cells #[.int .i64 0,.int .i32 0,.slice none 0 0,.int .i64 0] 150)) (Tabs.alloc (Tabs.alloc (T3.out) _) _)).mono ?_;rintro e w4 ⟨hB,sa,sc,rfl,hS,hZ⟩;have hs4:=hB.size;have z34:w3.heap.size+2≤w4.heap.size:=(by first | omega | (simp at hs4;omega));have R4:=hid (show SyR w4 b s st.f st.p nv from Blk.carry (W:=(w3.alloc (.cells #[.int .i64 0,.int .i64 0,.int .i64 0] 32)).alloc (.cells #[.int .i64 0,.int .i32 0,.slice none 0 0,.int .i64 0] 150)) (Blk.alloc (Blk.alloc (R3.out) _) _) hB);have NB:=hid (show Blk w4 w3.heap.size [.int .i64 0,.int .i64 0,.int .i64 0] 32 from Blk.carry (W:=(w3.alloc (.cells #[.int .i64 0,.int .i64 0,.int .i64 0] 32)).alloc (.cells #[.int .i64 0,.int .i32 0,.slice none 0 0,.int .i64 0] 150)) (Blk.alloc (Blk.new w3 [.int .i64 0,.int .i64 0,.int .i64 0] 32) _) hB);have NA:=hid (show Blk w4 (w3.heap.size+1) [.int .i64 0,.int .i32 0,.slice none 0 0,.int .i64 0] 150 from Blk.carry (W:=(w3.alloc (.cells #[.int .i64 0,.int .i64 0,.int .i64 0] 32)).alloc (.cells #[.int .i64 0,.int .i32 0,.slice none 0 0,.int .i64 0] 150)) (Blk.next w3 _ _ _) hB);have z4B:=NB.out.lt;have fb0:=Blk.frozen (NB.out) 0;have cb0:=Blk.cell (NB.out) (j:=0) rfl;have fb1:=Blk.frozen (NB.out) 1;have cb1:=Blk.cell (NB.out) (j:=1) rfl;have fb2:=Blk.frozen (NB.out) 2;have cb2:=Blk.cell (NB.out) (j:=2) rfl;have z4A:=NA.out.lt;have fa0:=Blk.frozen (NA.out) 0;have ca0:=Blk.cell (NA.out) (j:=0) rfl;have fa1:=Blk.frozen (NA.out) 1;have ca1:=Blk.cell (NA.out) (j:=1) rfl;have fa2:=Blk.frozen (NA.out) 2;have ca2:=Blk.cell (NA.out) (j:=2) rfl;have fa3:=Blk.frozen (NA.out) 3;have ca3:=Blk.cell (NA.out) (j:=3) rfl;have G4:=hid (show w.grownBy w4 none from grownBy_trans GA3.out (grownBy_trans (grownBy_trans (grownBy_alloc _ _ _) (grownBy_alloc _ _ _)) (grownBy_below hB none)));have S4:=hid (show SetF w4 (fun k=>w3.heap.size+2≤k∧k < w4.heap.size) N sa N.length sc from hS.turned (fun _ _=>rfl) (fun k hk=>⟨(by have:=hk.1;first | exact this | simpa using this),hk.2⟩));have g0:=Blk.cell R4.out (j:=0) rfl;have g1:=Blk.cell R4.out (j:=1) rfl;have g2:=Blk.cell R4.out (j:=2) rfl;have:b≠w3.heap.size:=(by omega);have:w3.heap.size≠b:=(by omega);have:b≠w3.heap.size+1:=(by omega);have:w3.heap.size+1≠b:=(by omega);have:w3.heap.size≠w3.heap.size+1:=(by omega);have:w3.heap.size+1≠w3.heap.size:=(by omega);clear hB hs4 hS) | (refine (HC.out (w3.alloc (.cells #[.int .i64 0,.int .i32 0,.slice none 0 0,.int .i64 0] 150)) (Tabs.alloc (T3.out) _)).mono ?_;rintro e w4 ⟨hB,sa,sc,rfl,hS,hZ⟩;have hs4:=hB.size;have z34:w3.heap.size+1≤w4.heap.size:=(by first | omega | (simp at hs4;omega));have R4:=hid (show SyR w4 b s st.f st.p nv from Blk.carry (W:=w3.alloc (.cells #[.int .i64 0,.int .i32 0,.slice none 0 0,.int .i64 0] 150)) (Blk.alloc (R3.out) _) hB);have NA:=hid (show Blk w4 w3.heap.size [.int .i64 0,.int .i32 0,.slice none 0 0,.int .i64 0] 150 from Blk.carry (W:=w3.alloc (.cells #[.int .i64 0,.int .i32 0,.slice none 0 0,.int .i64 0] 150)) (Blk.new w3 [.int .i64 0,.int .i32 0,.slice none 0 0,.int .i64 0] 150) hB);have z4A:=NA.out.lt;have fa0:=Blk.frozen (NA.out) 0;have ca0:=Blk.cell (NA.out) (j:=0) rfl;have fa1:=Blk.frozen (NA.out) 1;have ca1:=Blk.cell (NA.out) (j:=1) rfl;have fa2:=Blk.frozen (NA.out) 2;have ca2:=Blk.cell (NA.out) (j:=2) rfl;have fa3:=Blk.frozen (NA.out) 3;have ca3:=Blk.cell (NA.out) (j:=3) rfl;have G4:=hid (show w.grownBy w4 none from grownBy_trans GA3.out (grownBy_trans (grownBy_alloc _ _ _) (grownBy_below hB none)));have S4:=hid (show SetF w4 (fun k=>w3.heap.size+1≤k∧k < w4.heap.size) N sa N.length sc from hS.turned (fun _ _=>rfl) (fun k hk=>⟨(by have:=hk.1;first | exact this | simpa using this),hk.2⟩));have g0:=Blk.cell R4.out (j:=0) rfl;have g1:=Blk.cell R4.out (j:=1) rfl;have g2:=Blk.cell R4.out (j:=2) rfl;have:b≠w3.heap.size:=(by omega);have:w3.heap.size≠b:=(by omega);have:b≠w4.heap.size:=(by omega);have:w4.heap.size≠b:=(by omega);have:w3.heap.size≠w4.heap.size:=(by omega);have:w4.heap.size≠w3.heap.size:=(by omega);clear hB hs4 hS) | (refine (HC.out (w3.alloc (.cells #[.int .i64 0,.int .i64 0,.int .i64 0] 32)) (Tabs.alloc (T3.out) _)).mono ?_;rintro e w4 ⟨hB,sa,sc,rfl,hS,hZ⟩;have hs4:=hB.size;have z34:w3.heap.size+1≤w4.heap.size:=(by first | omega | (simp at hs4;omega));have R4:=hid (show SyR w4 b s st.f st.p nv from Blk.carry (W:=w3.alloc (.cells #[.int .i64 0,.int .i64 0,.int .i64 0] 32)) (Blk.alloc (R3.out) _) hB);have NB:=hid (show Blk w4 w3.heap.size [.int .i64 0,.int .i64 0,.int .i64 0] 32 from Blk.carry (W:=w3.alloc (.cells #[.int .i64 0,.int .i64 0,.int .i64 0] 32)) (Blk.new w3 [.int .i64 0,.int .i64 0,.int .i64 0] 32) hB);have z4B:=NB.out.lt;have fb0:=Blk.frozen (NB.out) 0;have cb0:=Blk.cell (NB.out) (j:=0) rfl;have fb1:=Blk.frozen (NB.out) 1;have cb1:=Blk.cell (NB.out) (j:=1) rfl;have fb2:=Blk.frozen (NB.out) 2;have cb2:=Blk.cell (NB.out) (j:=2) rfl;have G4:=hid (show w.grownBy w4 none from grownBy_trans GA3.out (grownBy_trans (grownBy_alloc _ _ _) (grownBy_below hB none)));have S4:=hid (show SetF w4 (fun k=>w3.heap.size+1≤k∧k < w4.heap.size) N sa N.length sc from hS.turned (fun _ _=>rfl) (fun k hk=>⟨(by have:=hk.1;first | exact this | simpa using this),hk.2⟩));have g0:=Blk.cell R4.out (j:=0) rfl;have g1:=Blk.cell R4.out (j:=1) rfl;have g2:=Blk.cell R4.out (j:=2) rfl;have:b≠w3.heap.size:=(by omega);have:w3.heap.size≠b:=(by omega);have:b≠w4.heap.size:=(by omega);have:w4.heap.size≠b:=(by omega);have:w3.heap.size≠w4.heap.size:=(by omega);have:w4.heap.size≠w3.heap.size:=(by omega);clear hB hs4 hS) | (refine (HC.out (w3) (T3.out)).mono ?_;rintro e w4 ⟨hB,sa,sc,rfl,hS,hZ⟩;have hs4:=hB.size;have z34:w3.heap.size+0≤w4.heap.size:=(by first | omega | (simp at hs4;omega));have R4:=hid (show SyR w4 b s st.f st.p nv from Blk.carry (W:=w3) (R3.out) hB);have G4:=hid (show w.grownBy w4 none from grownBy_trans GA3.out (grownBy_trans (grownBy_refl _ _) (grownBy_below hB none)));have S4:=hid (show SetF w4 (fun k=>w3.heap.size≤k∧k < w4.heap.size) N sa N.length sc from hS.turned (fun _ _=>rfl) (fun k hk=>⟨(by have:=hk.1;first | exact this | simpa using this),hk.2⟩));have g0:=Blk.cell R4.out (j:=0) rfl;have g1:=Blk.cell R4.out (j:=1) rfl;have g2:=Blk.cell R4.out (j:=2) rfl;have:b≠w4.heap.size:=(by omega);have:w4.heap.size≠b:=(by omega);have:b≠w4.heap.size+1:=(by omega);have:w4.heap.size+1≠b:=(by omega);have:w4.heap.size≠w4.heap.size+1:=(by omega);have:w4.heap.size+1≠w4.heap.size:=(by omega);clear hB hs4 hS)))
    all_goals first | refine ⟨w.heap.size,w.heap.size+1,sa,sc,w3.heap.size,w4.heap.size,rfl,rfl,?_⟩ | refine ⟨w.heap.size+1,w.heap.size,sa,sc,w3.heap.size,w4.heap.size,rfl,rfl,?_⟩ | refine ⟨w.heap.size,w3.heap.size,sa,sc,w3.heap.size+1,w4.heap.size,rfl,rfl,?_⟩ | refine ⟨w3.heap.size,w.heap.size,sa,sc,w3.heap.size+1,w4.heap.size,rfl,rfl,?_⟩ | refine ⟨w.heap.size,w4.heap.size,sa,sc,w3.heap.size,w4.heap.size,rfl,rfl,?_⟩ | refine ⟨w4.heap.size,w.heap.size,sa,sc,w3.heap.size,w4.heap.size,rfl,rfl,?_⟩ | refine ⟨w3.heap.size,w3.heap.size+1,sa,sc,w3.heap.size+2,w4.heap.size,rfl,rfl,?_⟩ | refine ⟨w3.heap.size+1,w3.heap.size,sa,sc,w3.heap.size+2,w4.heap.size,rfl,rfl,?_⟩ | refine ⟨w3.heap.size,w4.heap.size,sa,sc,w3.heap.size+1,w4.heap.size,rfl,rfl,?_⟩ | refine ⟨w4.heap.size,w3.heap.size,sa,sc,w3.heap.size+1,w4.heap.size,rfl,rfl,?_⟩ | refine ⟨w4.heap.size,w4.heap.size+1,sa,sc,w3.heap.size,w4.heap.size,rfl,rfl,?_⟩ | refine ⟨w4.heap.size+1,w4.heap.size,sa,sc,w3.heap.size,w4.heap.size,rfl,rfl,?_⟩
    all_goals refine ⟨?_,?_,?_,by omega,by omega,by omega,?_,by omega,by simp [World.setCell] <;> omega,by omega,hZ⟩
    all_goals repeat' (first | with_reducible exact Blk.new _ _ _ | with_reducible exact Blk.next _ _ _ _ | with_reducible exact NA.out | with_reducible exact NB.out | with_reducible refine Blk.sets4 (c0:=.int .i64 0) (c1:=.int .i32 0) (c2:=.slice none 0 0) (c3:=.int .i64 0) ?_ | with_reducible refine Blk.sets3 (c0:=.int .i64 0) (c1:=.int .i64 0) (c2:=.int .i64 0) ?_ | with_reducible exact Blk.new4 _ _ _ _ _ _ _ _ _ | with_reducible exact Blk.new3 _ _ _ _ _ _ _ | with_reducible refine Blk.alloc ?_ _ | with_reducible refine Blk.setCell_other ?_ (by (dsimp only;omega)) _ | with_reducible exact S4.out | with_reducible refine SetF.setCell ?_ _ _ (fun k hk=>by dsimp only;omega) | with_reducible refine SetF.alloc ?_ (fun k hk=>by first | omega | (simp;omega)) _ | with_reducible refine grownBy_new ?_ (by omega) _ _ | with_reducible refine grownBy_trans ?_ (grownBy_alloc _ _ _) | exact G4.out)
  rintro e1 a1 W5 ⟨x3,x5,sa,sc,LO,HI',rfl,rfl,hg,b3,b5,l3,l5,h35,hS,hlo,hhi,h3d,hZ⟩
  have L5:=hid (L1.out.below (below_grownBy hg))
  have d0:=Blk.cell b5 (j:=0) rfl;have d1:=Blk.cell b5 (j:=1) rfl;have d2:=Blk.cell b5 (j:=2) rfl
  have hz5:=hg.size
  have E5:=hid b3;have S5:=hid hS
  clear hS hg b5 b3 c0 c1 c2
  rcases HR.out with ⟨hx,rfl⟩ | ⟨rfl,rfl,rfl,hqp,hqs,hqb,hk⟩
  · go_wp2_with fail
    refine (syn_check_bad x f t hx _).mono ?_
    rintro e w6 ⟨rfl,hB⟩
    exact ⟨rfl,rfl,(L5.out.below hB).g⟩
  go_wp2_with fail
  refine (syn_check_ok 0 0 _).mono ?_
  rintro e w6 ⟨rfl,hB⟩
  have hz6:=hB.size
  have x3lt:=E5.out.lt
  have L6:=hid (L5.out.below hB)
  have E6:=hid (Blk.below E5.out hB E5.out.lt)
  have S6:=hid (show SetF w6 (fun k=>LO≤k∧k < HI') N sa N.length sc from S5.out.turned (fun k hk=>hB.block k (by omega)) (fun _ h=>h))
  clear hB d0 d1 d2
  have g2:=Blk.cell L6.out.i.r (j:=2) rfl
  have f2:=L6.out.i.r.frozen 2
  have g0:=Blk.cell L6.out.i.r (j:=0) rfl
  have hm:=HI.out.m
  have hxb:x3≠b:=by omega
  have hbx:b≠x3:=by omega
  have L7:=hid (show Left w (w6.setCell ⟨b,2,none⟩ (.int .i64 (q:Int))) b lo s nv { st with p:=q } nv from L6.out.grown (st':={ st with p:=q }) (Blk.set L6.out.i.r 2 _) (grownBy_setCell _ _ _ _) rfl hqs hqb (by show st.ns.length≤q;omega))
  have E7:=hid (E6.out.setCell_other (a:=⟨b,2,none⟩) hxb (.int .i64 (q:Int)))
  have S7:=hid (show SetF (w6.setCell ⟨b,2,none⟩ (.int .i64 (q:Int))) (fun k=>LO≤k∧k < HI') N sa N.length sc from SetF.setCell S6.out _ _ (fun k hk=>by dsimp only;omega))
  have hz7:(w6.setCell ⟨b,2,none⟩ (.int .i64 (q:Int))).heap.size=w6.heap.size:=by simp [World.setCell]
  have e0:=Blk.cell E6.out (j:=0) rfl
  rcases hk with ⟨rfl,hr0,hr1,rfl⟩ | ⟨rfl,g,hgz,hRe⟩ | ⟨rfl,rfl⟩ | ⟨rfl,hRe⟩
  · have e1:=Blk.cell E6.out (j:=1) rfl
    have y0:((w6.setCell ⟨b,2,none⟩ (.int .i64 (q:Int))).drew).cell? ⟨b,0,none⟩=some (.int .i64 st.f):=Blk.cell L7.out.i.r (j:=0) rfl
    have y1:((w6.setCell ⟨b,2,none⟩ (.int .i64 (q:Int))).drew).cell? ⟨x3,1,none⟩=some (.int .i32 r):=Blk.cell E7.out (j:=1) rfl
    go_wp2_with fail
    go_region_held3 (fun w'=>w'.cell? ⟨b,0,none⟩=some (.int .i64 st.f)∧w'.cell? ⟨x3,1,none⟩=some (.int .i32 r)) (first | exact ⟨y0,y1⟩ | go_keep) ((go_at_call 46;refine (syn_atom st.f r _ hr0 hr1).mono ?_;rintro e w9 ⟨cs,rfl,hT,hB⟩;obtain ⟨op,ka,kn,kc,rune,xa,xn,xc,pl,cap,name,mn,mx,lz,rfl⟩:=hT.form;have L8:=hid (L7.out.below (Below.refl _ _).drew);have L9:=hid (L8.out.below hB);have T9:=hid (atom_fresh (nv:=nv) hT L8.out.g.size (fun k hk=>(L8.out.i.o.lt k hk).2));have q0:=Blk.cell L9.out.i.r (j:=0) rfl;have q1:=Blk.cell (Blk.carry (W:=(w6.setCell ⟨b,2,none⟩ (.int .i64 (q:Int))).drew) (Blk.drew E7.out) hB) (j:=1) rfl;clear hB hT))
    all_goals
      go_wp2_with fail
      go_ret
      exact ⟨_,_,nv,rfl,row_single T9.out L9.out.g.size (fun k hk=>(L9.out.i.o.lt k hk).2),L9.out.below ((Below.refl _ _).alloc (Nat.le_refl _) _)⟩
  · have hgs:=hgz hZ
    have hgl:=hgs.len
    have HRE:=hid hRe;have HGS:=hid hgs
    clear hRe
    go_wp2_with fail
    refine (syn_on st.f 1 _).mono ?_
    rintro e w8 ⟨rfl,hB⟩
    have hz8:=hB.size
    rw [hz7] at hz8
    have L8:=hid (L7.out.below hB)
    have E8:=hid (Blk.below E7.out hB E7.out.lt)
    have S8:=hid (show SetF w8 (fun k=>LO≤k∧k < HI') N sa N.length sc from S7.out.turned (fun k hk=>hB.block k (by omega)) (fun _ h=>h))
    have hno:=fun k hk=>(L8.out.i.o.lt k hk).2
    have HNO:=hid hno
    clear hB g0 g2 f2 e0 hno
    have e2:=Blk.cell E8.out (j:=2) rfl
    have k2:=E8.out.frozen 2
    have x3l8:=E8.out.lt
    by_cases hf:onB st.f 1=true
    · have HFL:=hid hf
      rw [hf]
      have HF:=hid (tables_Fold N sa sc w8.heap.size w8 ⟨S8.out.1,S8.out.2.1,by rcases S8.out.2.2 with h | ⟨b',o',e,hb',hr⟩;exact .inl h;exact .inr ⟨b',o',e,by omega,hr⟩⟩ (Nat.le_refl _) (by omega))
      go_wp2_with fail
      refine (HF.out).mono ?_
      rintro e w9 ⟨v,out,rfl,hLd,hs1,hs2,hs3,hB⟩
      have hIS:IsSet out (foldF g):=⟨hs1,fun c=>by
        rw [hs2]
        by_cases h0:0≤c∧c≤1114111
        · rw [foldF_congr (g:=memR N) (g':=g) (fun c h0 h1=>by rw [hgs.2 c];simp [h0,h1]) c h0.1 h0.2]
        · rw [show (decide (0≤c) && decide (c≤1114111))=false by simp;omega];rfl⟩
      obtain ⟨ya,yc,rfl,hSF⟩:=laid_setF hLd (by have:=hIS.len;omega)
      have HIS:=hid hIS
      have hz9:=hB.size
      have L9:=hid (L8.out.below hB)
      have E9:=hid (Blk.below E8.out hB E8.out.lt)
      have hx9:=E9.out.lt
      have SA:=hid (show SetF (w9.setCell ⟨x3,2,none⟩ (.slice ya out.length yc)) (fun k=>w8.heap.size≤k∧k < w9.heap.size) out ya out.length yc from SetF.setCell (hSF.turned (fun _ _=>rfl) (fun _ h=>h)) _ _ (fun k hk=>by dsimp only;omega))
      have LA:=hid (show Left w (w9.setCell ⟨x3,2,none⟩ (.slice ya out.length yc)) b lo s nv { st with p:=q } nv from by
        refine L9.out.newrow (row:=some x3) (grownBy_setCell _ _ _ _) zA (by have:=HI.out.e.le;omega) (fun k e=>by cases e;exact ⟨l3,fun e=>by have:=(HI.out.o.lt _ e).2;omega⟩))
      have EA:=hid (Blk.set E9.out 2 (.slice ya out.length yc))
      have e2':=Blk.cell E9.out (j:=2) rfl
      have k2':=E9.out.frozen 2
      have hzA:(w9.setCell ⟨x3,2,none⟩ (.slice ya out.length yc)).heap.size=w9.heap.size:=by simp [World.setCell]
      clear hLd hs1 hs2 hs3 hB hSF e2 k2
      go_wp2_with fail
      refine (syn_set out ya out.length yc (fun k=>w8.heap.size≤k∧k < w9.heap.size) _ SA.out (fun k hk=>by omega)).mono ?_
      rintro e wb ⟨cs,rfl,hT,hB⟩
      obtain ⟨op,ka,kn,kc,rune,xa,xn,xc,pl,cap,name,mn,mx,lz,rfl⟩:=hT.form
      have LB:=hid (LA.out.below hB)
      have hzb:=hB.size
      have TB:=hid (atom_fresh (nv:=nv) (show TreeF wb (fun k=>Fresh w8 wb k) _ _ from hT.turned (fun _ _=>rfl) (fun _ hk=>⟨by omega,by omega⟩)) L8.out.g.size HNO.out)
      clear hT hB
      go_wp2_with fail
      go_ret
      rw [HRE.out,if_pos HFL.out,normL_is HIS.out]
      exact ⟨_,_,nv,rfl,row_single TB.out LB.out.g.size (fun k hk=>(LB.out.i.o.lt k hk).2),LB.out.below ((Below.refl _ _).alloc (Nat.le_refl _) _)⟩
    · have HFL:=hid hf
      rw [show onB st.f 1=false by simpa using hf]
      go_wp2_with fail
      refine (syn_set N sa N.length sc (fun k=>LO≤k∧k < HI') _ S8.out (fun k hk=>by omega)).mono ?_
      rintro e wb ⟨cs,rfl,hT,hB⟩
      obtain ⟨op,ka,kn,kc,rune,xa,xn,xc,pl,cap,name,mn,mx,lz,rfl⟩:=hT.form
      have LB:=hid (L8.out.below hB)
      have hzb:=hB.size
      have TB:=hid (atom_fresh (nv:=nv) (show TreeF wb (fun k=>Fresh w wb k) _ _ from hT.turned (fun _ _=>rfl) (fun _ hk=>⟨by omega,by omega⟩)) (Nat.le_refl _) (fun k hk=>(HI.out.o.lt k hk).2))
      clear hT hB
      go_wp2_with fail
      go_ret
      rw [HRE.out,if_neg HFL.out,normL_is HGS.out]
      exact ⟨_,_,nv,rfl,row_single TB.out LB.out.g.size (fun k hk=>(LB.out.i.o.lt k hk).2),LB.out.below ((Below.refl _ _).alloc (Nat.le_refl _) _)⟩
  · have e3:=Blk.cell E6.out (j:=3) rfl
    have RS:=row_single (cs:=leafC 5 0 none 0 0 a) (t:=leafT 5 0 [] a) (nv:=nv) leafC_none L7.out.g.size (fun k hk=>(L7.out.i.o.lt k hk).2)
    rw [hz7] at RS
    have HRS:=hid RS
    clear RS
    go_wp2_with fail
    go_ret
    exact ⟨_,_,nv,rfl,HRS.out,L7.out.below ((Below.refl _ _).alloc (Nat.le_refl _) _)⟩
  · obtain ⟨QT,hQT⟩:∃ QT,QT=(quoteP s q).1:=⟨_,rfl⟩
    obtain ⟨Q2,hQ2⟩:∃ Q2,Q2=(quoteP s q).2:=⟨_,rfl⟩
    have hcut:=fun m W (hW:W.cell? ⟨2,0,none⟩=some (.int .i64 m))=>cut_quote s q m W hqs hs hW
    rw [← hQT,← hQ2] at hcut
    have hfit:=quoteP_fit s q hqs hqb
    rw [← hQ2] at hfit
    have hlen:=quoteP_len s q hqs
    rw [← hQT,← hQ2] at hlen
    have HQ:=hid hQT;have HQ2:=hid hQ2;have HCUT:=hid hcut;have HRE:=hid hRe
    obtain ⟨h1,h2,h3⟩:=hfit
    have HBD:=hid h3
    clear hQT hQ2 hcut h3 hRe
    go_wp2_with fail
    refine (syn_rest b s st.f q nv _ L7.out.i.r hqs).mono ?_
    rintro e w8 ⟨rfl,hRr,hB⟩
    have L8:=hid (L7.out.below hB)
    clear hRr hB
    obtain ⟨mm,hmm⟩:=L8.out.i.e.m
    have HM:=hid hmm
    clear hmm
    go_wp2_with fail
    refine (HCUT.out mm _ HM.out).mono ?_
    rintro e w9 ⟨T2,cc,rfl,hq2,hB⟩
    have L9:=hid (L8.out.below hB)
    clear hB e0 g0 g2 f2
    have g2:=Blk.cell L9.out.i.r (j:=2) rfl
    have f2:=L9.out.i.r.frozen 2
    have g0:=Blk.cell L9.out.i.r (j:=0) rfl
    cases cc with
    | false=>
      have hv:(q:Int)+(QT.size:Int)=(Q2:Int):=by simp at hq2;omega
      have LA:=hid (show Left w (w9.setCell ⟨b,2,none⟩ (.int .i64 ((q:Int)+(QT.size:Int)))) b lo s nv { st with p:=Q2 } nv from by
        rw [hv]
        exact L9.out.grown (st':={ st with p:=Q2 }) (Blk.set L9.out.i.r 2 _) (grownBy_setCell _ _ _ _) rfl h2 HBD.out (by show st.ns.length≤Q2;omega))
      have q8:q≤100000000:=by omega
      have qt8:QT.size≤100000000:=by omega
      clear hv
      go_wp2_with fail
      refine (syn_text st.f QT _ (by omega)).mono ?_
      rintro e wb ⟨v,rfl,hT,hB⟩
      have XB:=hid (lists_on LA.out (ListOut.lists rfl hT (LA.out.i.below hB) rfl (fun k hk=>(LA.out.i.o.lt k hk).2)))
      clear hT hB
      go_wp2_with fail
      go_ret
      rw [HRE.out,← HQ.out,← HQ2.out]
      exact XB.out
    | true=>
      have hv:(q:Int)+(QT.size:Int)+2=(Q2:Int):=by simp at hq2;omega
      have LA:=hid (show Left w ((w9.setCell ⟨b,2,none⟩ (.int .i64 ((q:Int)+(QT.size:Int)))).setCell ⟨b,2,none⟩ (.int .i64 ((q:Int)+(QT.size:Int)+2))) b lo s nv { st with p:=Q2 } nv from by
        rw [hv]
        exact L9.out.grown (st':={ st with p:=Q2 }) (Blk.set (Blk.set L9.out.i.r 2 _) 2 _) (grownBy_trans (grownBy_setCell _ _ _ _) (grownBy_setCell _ _ _ _)) rfl h2 HBD.out (by show st.ns.length≤Q2;omega))
      have q8:q≤100000000:=by omega
      have qt8:QT.size≤100000000:=by omega
      clear hv
      go_wp2_with fail
      refine (syn_text st.f QT _ (by omega)).mono ?_
      rintro e wb ⟨v,rfl,hT,hB⟩
      have XB:=hid (lists_on LA.out (ListOut.lists rfl hT (LA.out.i.below hB) rfl (fun k hk=>(LA.out.i.o.lt k hk).2)))
      clear hT hB
      go_wp2_with fail
      go_ret
      rw [HRE.out,← HQ.out,← HQ2.out]
      exact XB.out
theorem syn_escape (s:ByteArray) (hs:s.size≤100000000):EscC s:=by
  intro b lo st nv w h hc
  have hp:=h.p
  have hst:stands s st.p [92]=true:=stands_of_nextC (c:=92) hc (by decide)
  have hfit:=escP_fit s st.p (onB st.f 32) h.d hst
  have hB:=fun W (hW:Tabs W)=>scan_Escape s st.p (onB st.f 32) W hW h.p (by omega)
  have hu:escapeP s st=escapeP s st:=rfl
  conv at hu=>rhs;unfold escapeP
  cases hx:escP s st.p (onB st.f 32) with
  | wrong x a d=>
    rw [hx] at hfit hB hu
    exact escape_any b lo s st nv w h hs 0 0 0 0 x a d [] True _ (.inl ⟨hfit.1,hu⟩) fun W hW=>(hB W hW).mono fun e w' h2=>⟨h2.2,none,0,h2.1,⟨rfl,⟨Nat.le_refl _,by simp⟩,.inl rfl⟩,trivial⟩
  | set g q=>
    rw [hx] at hfit hB hu
    obtain ⟨Q,rfl,hq1,hq2,hq3⟩:=hfit
    refine escape_any b lo s st nv w h hs 2 0 0 Q 0 0 0 (normL g) (IsSet (normL g) g) _ (.inr ⟨rfl,rfl,rfl,hq1,hq2,hq3,.inr (.inl ⟨rfl,g,fun h=>h,hu⟩)⟩) fun W hW=>(hB W hW).mono fun e w' h2=>?_
    obtain ⟨v,out,rfl,hl,hi,hn,hb⟩:=h2
    obtain ⟨sa,sc,rfl,hS⟩:=laid_setF hl (by omega)
    rw [normL_is hi]
    exact ⟨hb,sa,sc,rfl,hS,hi⟩
  | lit k r a q=>
    have hkr:=escP_rune hx
    rw [hx] at hfit hB hu
    obtain ⟨_,Q,rfl,hq1,hq2,hq3⟩:=hfit
    simp only [Int.toNat_natCast] at hu
    refine escape_any b lo s st nv w h hs k r a Q 0 0 0 [] True _ (.inr ⟨rfl,rfl,rfl,hq1,hq2,hq3,?_⟩) fun W hW=>(hB W hW).mono fun e w' h2=>⟨h2.2,none,0,h2.1,⟨rfl,⟨Nat.le_refl _,by simp⟩,.inl rfl⟩,trivial⟩
    rcases hkr with ⟨rfl,h0,h1⟩ | rfl | rfl
    · exact .inl ⟨rfl,h0,h1,by rw [hu,if_pos rfl]⟩
    · exact .inr (.inr (.inl ⟨rfl,by rw [hu,if_neg (by omega),if_pos rfl]⟩))
    · exact .inr (.inr (.inr ⟨rfl,by rw [hu,if_neg (by omega),if_neg (by omega)]⟩))
end Go.Proofs.YtnhnldmldnhaoaaGreatDoor
