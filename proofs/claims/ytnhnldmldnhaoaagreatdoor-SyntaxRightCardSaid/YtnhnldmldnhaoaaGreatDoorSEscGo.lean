/- scan.Escape, whole. What an item of a class is: one answer for both sides. -/
import Derived.Test.YtnhnldmldnhaoaaGreatDoorSProperty
import Derived.Test.YtnhnldmldnhaoaaGreatDoorSEscape1
import Derived.Test.YtnhnldmldnhaoaaGreatDoorSEscape3
import Derived.Test.YtnhnldmldnhaoaaGreatDoorSEscS
import Derived.Test.YtnhnldmldnhaoaaGreatDoorSScan1
import Derived.Lib.RuneCount
import Derived.Test.YtnhnldmldnhaoaaGreatDoorSNext
import Derived.Test.YtnhnldmldnhaoaaGreatDoorSScanName
import Derived.Test.YtnhnldmldnhaoaaGreatDoorSRefHas
import Derived.Lib.ValidLaws
import Derived.Lib.SpaceUEq
import Derived.Lib.MapLaws
set_option maxRecDepth 100000
set_option maxHeartbeats 16000000
namespace Go.Proofs.YtnhnldmldnhaoaaGreatDoor
open Go Go.RowKit Go.Proofs Go.Shelf
theorem code_yes (s:ByteArray) (q:Nat) (n:Int) (r:Nat) (h:codeP s q=some (n,r)) (hq:q≤s.size) (hs:s.size≤140737488355328) (b:Nat) (rest:List Value) (t:TypeId) (W:World) (hR:Rd W b s q rest t) :
    Calls Tryz.prog 132 #[.pointer (some ⟨b,0,none⟩)] W fun e w'=>e = .returned (.tuple #[.int .i32 n,.bool true])∧Rd w' b s r rest t∧W.grownBy w' (some b):=by
  unfold codeP at h
  by_cases c1:stands s q [123]=true
  · rw [if_pos c1] at h
    by_cases h2:(bracedN s q).2.1=true
    · rw [if_pos h2] at h
      cases h
      refine (esc_code_braced b s q rest t W hR hq hs c1).mono fun e w' hh=>?_
      rw [h2] at hh;exact hh
    · rw [if_neg h2] at h;cases h
  · rw [if_neg c1] at h
    by_cases h3:q+1 < s.size
    · rw [drop_two s q h3] at h
      simp only at h
      by_cases h4:hexs.contains s[q]=true∧hexs.contains s[q+1]=true
      · rw [if_pos h4] at h
        cases h
        refine (esc_code_two b s q s[q] s[q+1] _ rest t W hR (by omega) hs (Bool.eq_false_iff.2 c1) (drop_two s q h3)).mono fun e w' hh=>?_
        exact ⟨(hh.1 h4).1,(hh.1 h4).2,hh.2.2⟩
      · rw [if_neg h4] at h;cases h
    · split at h
      · rename_i heq;exact absurd heq (drop_short s q (by omega) _ _ _)
      · cases h
theorem code_no (s:ByteArray) (q:Nat) (h:codeP s q=none) (hq:q≤s.size) (hs:s.size≤140737488355328):∃ (n:Int) (r:Nat),∀ (b:Nat) (rest:List Value) (t:TypeId) (W:World),Rd W b s q rest t→
    Calls Tryz.prog 132 #[.pointer (some ⟨b,0,none⟩)] W fun e w'=>e = .returned (.tuple #[.int .i32 n,.bool false])∧Rd w' b s r rest t∧W.grownBy w' (some b):=by
  unfold codeP at h
  by_cases c1:stands s q [123]=true
  · rw [if_pos c1] at h
    by_cases h2:(bracedN s q).2.1=true
    · rw [if_pos h2] at h;cases h
    · refine ⟨(bracedN s q).1,(bracedN s q).2.2,fun b rest t W hR=>(esc_code_braced b s q rest t W hR hq hs c1).mono fun e w' hh=>?_⟩
      rw [Bool.eq_false_iff.2 h2] at hh;exact hh
  · rw [if_neg c1] at h
    by_cases h3:q+1 < s.size
    · rw [drop_two s q h3] at h
      simp only at h
      by_cases h4:hexs.contains s[q]=true∧hexs.contains s[q+1]=true
      · rw [if_pos h4] at h;cases h
      · refine ⟨0,q,fun b rest t W hR=>(esc_code_two b s q s[q] s[q+1] _ rest t W hR (by omega) hs (Bool.eq_false_iff.2 c1) (drop_two s q h3)).mono fun e w' hh=>?_⟩
        exact ⟨(hh.2.1 h4).1,(hh.2.1 h4).2,hh.2.2⟩
    · exact ⟨0,q,fun b rest t W hR=>esc_code_short b s q rest t W hR hq (Bool.eq_false_iff.2 c1) (by omega)⟩
theorem name_yes (s:ByteArray) (q:Nat) (nm:ByteArray) (r:Nat) (h:propP s q=some (nm,r)) (hq:q≤s.size) (hs:s.size≤140737488355328) (b:Nat) (rest:List Value) (t:TypeId) (hb:0≠b∧1≠b) (W:World) (hR:Rd W b s q rest t) (hT:Tabs W) :
    Calls Tryz.prog 133 #[.pointer (some ⟨b,0,none⟩)] W fun e w'=>e = .returned (.tuple #[.string nm,.bool true])∧Rd w' b s r rest t∧W.grownBy w' (some b):=by
  unfold propP at h
  by_cases c1:stands s q [123]=true
  · rw [if_pos c1] at h
    by_cases h2:0≤Lib.indexByte (s.data.toList.drop (q+1)) 125
    · rw [if_pos h2] at h
      cases h
      exact esc_name_yes b s q _ rest t W hR hq hs c1 (by omega)
    · rw [if_neg h2] at h;cases h
  · rw [if_neg c1] at h
    by_cases h3:q < s.size
    · rw [if_pos h3] at h
      cases h
      refine (esc_name_rune b s q rest t W hR hT hb hq hs (Bool.eq_false_iff.2 c1)).mono fun e w' hh=>?_
      rw [decide_eq_true (show 0≤nextC s q by unfold nextC;rw [if_pos h3];omega)] at hh
      exact hh
    · rw [if_neg h3] at h;cases h
theorem name_no (s:ByteArray) (q:Nat) (h:propP s q=none) (hq:q≤s.size) (hs:s.size≤140737488355328):∃ (nm:ByteArray) (r:Nat),∀ (b:Nat) (rest:List Value) (t:TypeId) (_:0≠b∧1≠b) (W:World),Rd W b s q rest t→Tabs W→
    Calls Tryz.prog 133 #[.pointer (some ⟨b,0,none⟩)] W fun e w'=>e = .returned (.tuple #[.string nm,.bool false])∧Rd w' b s r rest t∧W.grownBy w' (some b):=by
  unfold propP at h
  by_cases c1:stands s q [123]=true
  · rw [if_pos c1] at h
    by_cases h2:0≤Lib.indexByte (s.data.toList.drop (q+1)) 125
    · rw [if_pos h2] at h;cases h
    · have h9:=Lib.indexByte_ge (s.data.toList.drop (q+1)) 125
      exact ⟨_,_,fun b rest t hb W hR hT=>esc_name_no b s q rest t W hR hq hs c1 (by omega)⟩
  · rw [if_neg c1] at h
    by_cases h3:q < s.size
    · rw [if_pos h3] at h;cases h
    · refine ⟨s.extract q (nextW s q),nextW s q,fun b rest t hb W hR hT=>(esc_name_rune b s q rest t W hR hT hb hq hs (Bool.eq_false_iff.2 c1)).mono fun e w' hh=>?_⟩
      rw [decide_eq_false (show ¬ 0≤nextC s q by unfold nextC;rw [if_neg h3];omega)] at hh
      exact hh
theorem byte_of {s:ByteArray} {p:Nat} {C:Int} (hC:nextC s p=C) (h0:0≤C) (h1:C < 128):∃ x:UInt8,s.data.toList[p]? = some x∧(x.toNat:Int)=C∧nextW s p=p+1:=by
  obtain ⟨h,e1,e2,_⟩:=nextC_small s p (by omega) (by omega)
  exact ⟨s[p],getElem_toList s p h,by omega,e2⟩
theorem byte_lit {s:ByteArray} {p:Nat} {C:Int} (k:UInt8) (hC:nextC s p=C) (hk:C=k.toNat) (h1:k.toNat < 128):s.data.toList[p]? = some k∧nextW s p=p+1:=by
  obtain ⟨x,h,e1,e2⟩:=byte_of hC (by omega) (by omega)
  refine ⟨?_,e2⟩
  rw [h]
  exact congrArg some (UInt8.toNat_inj.1 (by omega))
theorem letterI_cases {C:Int} (h:0≤letterI C):C=97∨C=102∨C=110∨C=114∨C=116∨C=118:=by
  unfold letterI at h
  repeat' split at h
  all_goals omega
theorem letterI_not {C:Int} (h:¬ 0≤letterI C):C≠97∧C≠102∧C≠110∧C≠114∧C≠116∧C≠118:=by
  refine ⟨?_,?_,?_,?_,?_,?_⟩ <;> (intro e;subst e;exact h (by decide))
theorem placeI_cases {C:Int} (h:placeI C≠0):C=65∨C=122∨C=98∨C=66:=by
  unfold placeI at h
  repeat' split at h
  all_goals first | omega | exact absurd rfl h
theorem placeI_not {C:Int} (h:placeI C=0):C≠65∧C≠122∧C≠98∧C≠66:=by
  refine ⟨?_,?_,?_,?_⟩ <;> (intro e;subst e;exact absurd h (by decide))
theorem signI_not {C:Int} (h:¬ signI C=true) (_:0≤C):C≤32∨127≤C∨(48≤C∧C≤57)∨(97≤C∧C≤122)∨(65≤C∧C≤90):=by
  unfold signI at h
  simp only [decide_eq_true_eq] at h
  omega
theorem perlSpec_some {C:Int} {f:Int→Bool} (h:perlSpec (min C 127)=some f):(97≤C∧C≤122)∨(65≤C∧C≤90):=by
  unfold perlSpec perlL at h
  by_cases h1:min C 127=100∨min C 127=68
  · omega
  · rw [if_neg h1] at h
    by_cases h2:min C 127=115∨min C 127=83
    · omega
    · rw [if_neg h2] at h
      by_cases h3:min C 127=119∨min C 127=87
      · omega
      · rw [if_neg h3] at h;cases h
theorem scan_Escape (s:ByteArray) (p:Nat) (b:Bool) (w:World) (hT:Tabs w) (hp:p≤s.size) (hs:s.size≤140737488355328) :
    Calls Tryz.prog 103 #[.string s,.int .i64 p,.bool b] w (EscOut w (escP s p b)):=by
  unfold escP
  by_cases c0n:¬ stands s p [92]=true
  · rw [if_pos c0n];exact escape_nob s p b w hs hp (Bool.eq_false_iff.2 c0n)
  rw [if_neg c0n]
  have c0:stands s p [92]=true:=Decidable.not_not.1 c0n
  have hle:=stands_le (p:=⟨#[92]⟩) hp c0
  have hle':p+1≤s.size:=hle
  by_cases h1:s.size≤p+1
  · rw [if_pos h1];exact escape_trail s p b w hs hT (by omega) c0
  rw [if_neg h1]
  have hp2:p+2≤s.size:=by omega
  have hC0:0≤nextC s (p+1):=by unfold nextC;rw [if_pos (by omega)];omega
  obtain ⟨C,hC⟩:∃ C,nextC s (p+1)=C:=⟨_,rfl⟩
  obtain ⟨Q,hQ⟩:∃ Q,nextW s (p+1)=Q:=⟨_,rfl⟩
  have hQs:Q≤s.size:=by rw [← hQ];exact nextW_le s (p+1) hle'
  rw [hC] at hC0
  rw [hC,hQ]
  have hb:0≠w.heap.size+1+1∧1≠w.heap.size+1+1:=by have:=hT.lt;omega
  by_cases hsg:signI C=true
  · rw [if_pos hsg]
    have hsg':=hsg
    unfold signI at hsg'
    simp only [decide_eq_true_eq] at hsg'
    obtain ⟨x,e1,e2,e3⟩:=byte_of hC hC0 (by omega)
    rw [hQ] at e3
    subst e3
    rw [← e2]
    exact escape_sign s p b x w hs hp2 c0 e1 (by unfold isSign;omega)
  rw [if_neg hsg]
  by_cases hl:0≤letterI C
  · rw [if_pos hl]
    rcases letterI_cases hl with rfl | rfl | rfl | rfl | rfl | rfl
    · obtain ⟨e1,e3⟩:=byte_lit 97 hC rfl (by decide);rw [hQ] at e3;subst e3;exact escape_let97 s p b w hs hp2 c0 e1
    · obtain ⟨e1,e3⟩:=byte_lit 102 hC rfl (by decide);rw [hQ] at e3;subst e3;exact escape_let102 s p b w hs hp2 c0 e1
    · obtain ⟨e1,e3⟩:=byte_lit 110 hC rfl (by decide);rw [hQ] at e3;subst e3;exact escape_let110 s p b w hs hp2 c0 e1
    · obtain ⟨e1,e3⟩:=byte_lit 114 hC rfl (by decide);rw [hQ] at e3;subst e3;exact escape_let114 s p b w hs hp2 c0 e1
    · obtain ⟨e1,e3⟩:=byte_lit 116 hC rfl (by decide);rw [hQ] at e3;subst e3;exact escape_let116 s p b w hs hp2 c0 e1
    · obtain ⟨e1,e3⟩:=byte_lit 118 hC rfl (by decide);rw [hQ] at e3;subst e3;exact escape_let118 s p b w hs hp2 c0 e1
  rw [if_neg hl]
  have hln:=letterI_not hl
  by_cases hx:C=120
  · rw [if_pos hx]
    subst hx
    obtain ⟨e1,e3⟩:=byte_lit 120 hC rfl (by decide)
    rw [hQ] at e3;subst e3
    unfold escX
    cases hcd:codeP s (p+1+1) with
    | none=>
      obtain ⟨n,r,hc⟩:=code_no s _ hcd hQs hs
      exact escape_x_no s p b w hs hp2 c0 e1 n r (fun W hR=>hc _ _ _ W hR)
    | some x=>
      obtain ⟨n,r⟩:=x
      exact escape_x_yes s p b w hs hp2 c0 e1 n r (fun W hR=>code_yes s _ n r hcd hQs hs _ _ _ W hR)
  rw [if_neg hx]
  by_cases hpp:C=112∨C=80
  · rw [if_pos hpp]
    unfold escPr
    rcases hpp with rfl | rfl
    · obtain ⟨e1,e3⟩:=byte_lit 112 hC rfl (by decide)
      rw [hQ] at e3;subst e3
      rw [show ((112:Int) == 80)=false from rfl]
      cases hcd:propP s (p+1+1) with
      | none=>
        obtain ⟨n,r,hc⟩:=name_no s _ hcd hQs hs
        exact escape_p112_no s p b w hs hT hp2 c0 e1 n r (fun W hR hT=>hc _ _ _ hb W hR hT)
      | some x=>
        obtain ⟨nm,r⟩:=x
        simp only
        cases hpr:propSpec nm.data.toList false with
        | none=>exact escape_p112_unknown s p b w hs hT hp2 c0 e1 nm r (fun W hR hT=>name_yes s _ nm r hcd hQs hs _ _ _ hb W hR hT) hpr
        | some f=>exact escape_p112_set s p b w hs hT hp2 c0 e1 nm r (fun W hR hT=>name_yes s _ nm r hcd hQs hs _ _ _ hb W hR hT) f hpr
    · obtain ⟨e1,e3⟩:=byte_lit 80 hC rfl (by decide)
      rw [hQ] at e3;subst e3
      rw [show ((80:Int) == 80)=true from rfl]
      cases hcd:propP s (p+1+1) with
      | none=>
        obtain ⟨n,r,hc⟩:=name_no s _ hcd hQs hs
        exact escape_p80_no s p b w hs hT hp2 c0 e1 n r (fun W hR hT=>hc _ _ _ hb W hR hT)
      | some x=>
        obtain ⟨nm,r⟩:=x
        simp only
        cases hpr:propSpec nm.data.toList true with
        | none=>exact escape_p80_unknown s p b w hs hT hp2 c0 e1 nm r (fun W hR hT=>name_yes s _ nm r hcd hQs hs _ _ _ hb W hR hT) hpr
        | some f=>exact escape_p80_set s p b w hs hT hp2 c0 e1 nm r (fun W hR hT=>name_yes s _ nm r hcd hQs hs _ _ _ hb W hR hT) f hpr
  rw [if_neg hpp]
  have hne3:C≠120∧C≠112∧C≠80:=by omega
  have hrg:=signI_not hsg hC0
  cases b with
  | false=>
    rw [if_pos rfl]
    rcases hrg with hr | hr | hr | hr | hr
    · exact escape_flat0 s p w hs hT hp2 c0 C Q hC hQ hC0 hr hln hne3
    · exact escape_flat1 s p w hs hT hp2 c0 C Q hC hQ hC0 hr hln hne3
    · exact escape_flat2 s p w hs hT hp2 c0 C Q hC hQ hC0 hr hln hne3
    · exact escape_flat3 s p w hs hT hp2 c0 C Q hC hQ hC0 hr hln hne3
    · exact escape_flat4 s p w hs hT hp2 c0 C Q hC hQ hC0 hr hln hne3
  | true=>
    rw [if_neg (by decide)]
    unfold escPl
    by_cases hplx:placeI C≠0
    · rw [if_pos hplx]
      rcases placeI_cases hplx with rfl | rfl | rfl | rfl
      · obtain ⟨e1,e3⟩:=byte_lit 65 hC rfl (by decide);rw [hQ] at e3;subst e3;exact escape_at65 s p w hs hp2 c0 e1
      · obtain ⟨e1,e3⟩:=byte_lit 122 hC rfl (by decide);rw [hQ] at e3;subst e3;exact escape_at122 s p w hs hp2 c0 e1
      · obtain ⟨e1,e3⟩:=byte_lit 98 hC rfl (by decide);rw [hQ] at e3;subst e3;exact escape_at98 s p w hs hp2 c0 e1
      · obtain ⟨e1,e3⟩:=byte_lit 66 hC rfl (by decide);rw [hQ] at e3;subst e3;exact escape_at66 s p w hs hp2 c0 e1
    rw [if_neg hplx]
    have hpl:placeI C=0:=Decidable.not_not.1 hplx
    have hpn:=placeI_not hpl
    by_cases h81:C=81
    · rw [if_pos h81]
      subst h81
      obtain ⟨e1,e3⟩:=byte_lit 81 hC rfl (by decide);rw [hQ] at e3;subst e3;exact escape_at81 s p w hs hp2 c0 e1
    rw [if_neg h81]
    have hne8:C≠120∧C≠112∧C≠80∧C≠65∧C≠122∧C≠98∧C≠66∧C≠81:=by omega
    cases hps:perlSpec (min C 127) with
    | none=>
      rcases hrg with hr | hr | hr | hr | hr
      · exact escape_pnone0 s p w hs hT hp2 c0 C Q hC hQ hC0 hr hln hne8 hps
      · exact escape_pnone1 s p w hs hT hp2 c0 C Q hC hQ hC0 hr hln hne8 hps
      · exact escape_pnone2 s p w hs hT hp2 c0 C Q hC hQ hC0 hr hln hne8 hps
      · exact escape_pnone3 s p w hs hT hp2 c0 C Q hC hQ hC0 hr hln hne8 hps
      · exact escape_pnone4 s p w hs hT hp2 c0 C Q hC hQ hC0 hr hln hne8 hps
    | some f=>
      rcases perlSpec_some hps with hr | hr
      · exact escape_pset3 s p w hs hT hp2 c0 C Q hC hQ hC0 hr hln hne8 f hps
      · exact escape_pset4 s p w hs hT hp2 c0 C Q hC hQ hC0 hr hln hne8 f hps
end Go.Proofs.YtnhnldmldnhaoaaGreatDoor
namespace Go.Proofs.YtnhnldmldnhaoaaGreatDoor
open Go Go.RowKit Go.Proofs Go.Shelf
def oneP (s:ByteArray) (p:Nat) (perl:Bool):EscR:=if stands s p [92]=true then escP s p perl else .lit 1 (nextC s p) 0 (nextW s p)
def nmL:List UInt8:=[97,98,99,100,101,102,103,104,105,106,107,108,109,110,111,112,113,114,115,116,117,118,119,120,121,122,94]
def namedP (s:ByteArray) (p:Nat):Option Nat:=
  if stands s p [91,58]=true then (if stands s (p+2+(runP s (p+2) nmL).length) [58,93]=true then some (p+2+(runP s (p+2) nmL).length) else none) else none
def posL (nm:List UInt8):Option (List (Int × Int)):=
  if nm=[97,108,110,117,109] then some [(48,57),(65,90),(97,122)]
  else if nm=[97,108,112,104,97] then some [(65,90),(97,122)]
  else if nm=[97,115,99,105,105] then some [(0,127)]
  else if nm=[98,108,97,110,107] then some [(9,9),(32,32)]
  else if nm=[99,110,116,114,108] then some [(0,31),(127,127)]
  else if nm=[100,105,103,105,116] then some [(48,57)]
  else if nm=[103,114,97,112,104] then some [(33,126)]
  else if nm=[108,111,119,101,114] then some [(97,122)]
  else if nm=[112,114,105,110,116] then some [(32,126)]
  else if nm=[112,117,110,99,116] then some [(33,47),(58,64),(91,96),(123,126)]
  else if nm=[115,112,97,99,101] then some [(9,13),(32,32)]
  else if nm=[117,112,112,101,114] then some [(65,90)]
  else if nm=[119,111,114,100] then some [(48,57),(65,90),(95,95),(97,122)]
  else if nm=[120,100,105,103,105,116] then some [(48,57),(65,70),(97,102)]
  else none
def posSpec (nm:List UInt8):Option (Int→Bool):=(posL (Lib.trimPrefix nm [94])).map fun l c=>memR l c != Lib.hasPrefix nm [94]
inductive ItemR where
  | wrong (e f t:Int)
  | ok (f:Int→Bool) (q:Nat)
def rangedP (s:ByteArray) (q:Nat):Bool:=stands s q [45] && decide (q+1 < s.size) && !stands s (q+1) [93]
def itemP (s:ByteArray) (p:Nat) (perl:Bool) (fr:Int):ItemR:=
  match namedP s p with
  | some k=>match posSpec (s.data.toList.drop (p+2) |>.take (k - (p+2))) with
    | none=>.wrong 72 p (k+2:Nat)
    | some f=>.ok f (k+2)
  | none=>
    if s.size≤p then .wrong 71 fr s.size
    else match oneP s p perl with
    | .wrong e f t=>.wrong e f t
    | .set f q=>.ok f q.toNat
    | .lit k r _ q=>
      if k≠1 then .wrong 72 p q
      else if rangedP s q.toNat=true then
        match oneP s (q.toNat+1) perl with
        | .wrong e f t=>.wrong e f t
        | .set _ q2=>.wrong 72 p q2
        | .lit k2 r2 _ q2=>if k2≠1∨r2 < r then .wrong 72 p q2 else .ok (fun c=>decide (r≤c) && decide (c≤r2)) q2.toNat
      else .ok (fun c=>decide (r≤c) && decide (c≤r)) q.toNat
def restP (s:ByteArray) (perl:Bool) (fr:Int):Nat→Nat→(Int→Bool)→ItemR
  | 0,_,_=>.wrong 0 0 0
  | n+1,p,g=>
    if stands s p [93]=true then .ok g (p+1)
    else match itemP s p perl fr with
    | .wrong e f t=>.wrong e f t
    | .ok f q=>restP s perl fr n q fun c=>g c || f c
def clsAt (s:ByteArray) (p:Nat):Nat:=if stands s (p+1) [94]=true then p+2 else p+1
def clsP (s:ByteArray) (p:Nat) (perl:Bool):ItemR:=
  if ¬ stands s p [91]=true then .wrong 1 p p
  else match itemP s (clsAt s p) perl p with
  | .wrong e f t=>.wrong e f t
  | .ok f q=>restP s perl p (s.size+1) q f
theorem nextW_gt (s:ByteArray) (p:Nat) (h:p < s.size):p < nextW s p:=by
  unfold nextW
  rw [if_pos h]
  have:=Lib.decode_width_pos s p h
  omega
theorem codeP_q {s:ByteArray} {q:Nat} {n:Int} {r:Nat} (hq:q≤s.size) (h:codeP s q=some (n,r)):q < r∧r≤s.size:=by
  unfold codeP at h
  by_cases c1:stands s q [123]=true
  · rw [if_pos c1] at h
    have l1:=stands_le (p:=⟨#[123]⟩) hq c1
    have l1':q+1≤s.size:=l1
    have l2:=runP_le s (q+1) hexs
    by_cases h2:(bracedN s q).2.1=true
    · rw [if_pos h2] at h
      cases h
      unfold bracedN at h2 ⊢
      simp only [Bool.and_eq_true] at h2
      simp only [Bool.and_eq_true]
      rw [if_pos h2.1]
      have l3:=stands_le (p:=⟨#[125]⟩) (by omega) h2.1.2
      have l3':q+1+(runP s (q+1) hexs).length+1≤s.size:=l3
      omega
    · rw [if_neg h2] at h;cases h
  · rw [if_neg c1] at h
    by_cases h3:q+1 < s.size
    · rw [drop_two s q h3] at h
      simp only at h
      split at h
      · cases h;omega
      · cases h
    · split at h
      · rename_i heq;exact absurd heq (drop_short s q (by omega) _ _ _)
      · cases h
theorem propP_q {s:ByteArray} {q:Nat} {nm:ByteArray} {r:Nat} (hq:q≤s.size) (h:propP s q=some (nm,r)):q < r∧r≤s.size:=by
  unfold propP at h
  by_cases c1:stands s q [123]=true
  · rw [if_pos c1] at h
    have l1:=stands_le (p:=⟨#[123]⟩) hq c1
    have l1':q+1≤s.size:=l1
    by_cases h2:0≤Lib.indexByte (s.data.toList.drop (q+1)) 125
    · rw [if_pos h2] at h
      cases h
      obtain ⟨o,ho⟩:∃ o:Nat,Lib.indexByte (s.data.toList.drop (q+1)) 125=o:=⟨(Lib.indexByte (s.data.toList.drop (q+1)) 125).toNat,by omega⟩
      rw [ho]
      obtain ⟨h1,_⟩:=Lib.indexByte_some ho
      have:=(List.getElem?_eq_some_iff.1 h1).1
      simp at this
      simp only [Int.toNat_natCast]
      omega
    · rw [if_neg h2] at h;cases h
  · rw [if_neg c1] at h
    by_cases h3:q < s.size
    · rw [if_pos h3] at h
      cases h
      exact ⟨nextW_gt s q h3,nextW_le s q hq⟩
    · rw [if_neg h3] at h;cases h
def QOk (s:ByteArray) (p:Nat):EscR→Prop
  | .wrong _ _ _=>True
  | .lit _ _ _ q=>∃ Q:Nat,q=Q∧p < Q∧Q≤s.size
  | .set _ q=>∃ Q:Nat,q=Q∧p < Q∧Q≤s.size
theorem escP_q (s:ByteArray) (p:Nat) (perl:Bool) (_:p≤s.size):QOk s p (escP s p perl):=by
  unfold escP
  split
  · trivial
  split
  · trivial
  rename_i h1
  have hg:=nextW_gt s (p+1) (by omega)
  have hl:=nextW_le s (p+1) (by omega)
  have ok:∃ Q:Nat,((nextW s (p+1):Nat):Int)=Q∧p < Q∧Q≤s.size:=⟨_,rfl,by omega,hl⟩
  split
  · exact ok
  split
  · exact ok
  split
  · unfold escX
    cases hc:codeP s (nextW s (p+1)) with
    | none=>trivial
    | some x=>
      have:=codeP_q hl hc
      exact ⟨_,rfl,by omega,this.2⟩
  split
  · unfold escPr
    cases hc:propP s (nextW s (p+1)) with
    | none=>trivial
    | some x=>
      have:=propP_q hl hc
      simp only
      split
      · trivial
      · exact ⟨_,rfl,by omega,this.2⟩
  split
  · trivial
  unfold escPl
  split
  · exact ok
  split
  · exact ok
  split
  · trivial
  · exact ok
theorem oneP_q (s:ByteArray) (p:Nat) (perl:Bool) (hp:p < s.size):QOk s p (oneP s p perl):=by
  unfold oneP
  split
  · exact escP_q s p perl (by omega)
  · exact ⟨_,rfl,nextW_gt s p hp,nextW_le s p (by omega)⟩
theorem namedP_q {s:ByteArray} {p k:Nat} (hp:p≤s.size) (h:namedP s p=some k):p+2≤k∧k+2≤s.size:=by
  unfold namedP at h
  by_cases c1:stands s p [91,58]=true
  · rw [if_pos c1] at h
    have l1:=stands_le (p:=⟨#[91,58]⟩) hp c1
    have l1':p+2≤s.size:=l1
    have l2:=runP_le s (p+2) nmL
    by_cases c2:stands s (p+2+(runP s (p+2) nmL).length) [58,93]=true
    · rw [if_pos c2] at h
      cases h
      have l3:=stands_le (p:=⟨#[58,93]⟩) (by omega) c2
      have l3':p+2+(runP s (p+2) nmL).length+2≤s.size:=l3
      omega
    · rw [if_neg c2] at h;cases h
  · rw [if_neg c1] at h;cases h
theorem itemP_q {s:ByteArray} {p:Nat} {perl:Bool} {fr:Int} {f:Int→Bool} {q:Nat} (hp:p≤s.size) (h:itemP s p perl fr = .ok f q):p < q∧q≤s.size:=by
  unfold itemP at h
  cases hn:namedP s p with
  | some k=>
    rw [hn] at h
    have hk:=namedP_q hp hn
    simp only at h
    split at h
    · cases h
    · cases h;omega
  | none=>
    rw [hn] at h
    simp only at h
    split at h
    · cases h
    rename_i h1
    have hq:=oneP_q s p perl (by omega)
    cases ho:oneP s p perl with
    | wrong e f t=>rw [ho] at h;cases h
    | set f' q'=>
      rw [ho] at h hq
      obtain ⟨Q,rfl,h2,h3⟩:=hq
      cases h
      simp only [Int.toNat_natCast];exact ⟨h2,h3⟩
    | lit k r a q'=>
      rw [ho] at h hq
      obtain ⟨Q,rfl,h2,h3⟩:=hq
      simp only [Int.toNat_natCast] at h
      split at h
      · cases h
      split at h
      · rename_i hr
        unfold rangedP at hr
        simp only [Bool.and_eq_true,decide_eq_true_eq] at hr
        have hq2:=oneP_q s (Q+1) perl hr.1.2
        cases ho2:oneP s (Q+1) perl with
        | wrong e f t=>rw [ho2] at h;cases h
        | set f' q'=>rw [ho2] at h;cases h
        | lit k r a q'=>
          rw [ho2] at h hq2
          obtain ⟨Q2,rfl,h4,h5⟩:=hq2
          simp only [Int.toNat_natCast] at h
          split at h
          · cases h
          · cases h;omega
      · cases h;exact ⟨h2,h3⟩
end Go.Proofs.YtnhnldmldnhaoaaGreatDoor
namespace Go.Proofs.YtnhnldmldnhaoaaGreatDoor
open Go Go.RowKit Go.Proofs Go.Shelf
theorem setFrom_len:∀ {a:List (Int × Int)} {l0:Int},l0≤1114111→setFrom l0 a=true→2 * (a.length:Int)≤1114111 - l0
  | [],l0,h0,h=>by simp only [List.length_nil];omega
  | x :: a,l0,h0,h=>by
    unfold setFrom at h
    simp only [Bool.and_eq_true,decide_eq_true_eq] at h
    have:=setFrom_len h.1.2 h.2
    rw [List.length_cons]
    omega
theorem IsSet.len {out:List (Int × Int)} {p:Int→Bool} (h:IsSet out p):out.length≤557058:=by
  have:=setFrom_len (by omega) h.1
  omega
def clsQ (s:ByteArray) (p:Nat) (perl:Bool) (fold:Option ((Int→Bool)→Int→Bool)):ItemR:=match clsP s p perl with
  | .wrong e f t=>.wrong e f t
  | .ok g q=>.ok (fun c=>(match fold with | none=>g c | some F=>F g c) != stands s (p+1) [94]) q
def ClsOut (w:World) (r:ItemR) (e:Ending) (w':World):Prop:=
  Below w.heap.size w w'∧match r with
  | .wrong x f t=>e = .returned (.tuple #[.slice none 0 0,.int .i64 0,.agg #[.int .i64 x,.int .i64 f,.int .i64 t]])
  | .ok g q=>∃ v out,e = .returned (.tuple #[v,.int .i64 q,.agg #[.int .i64 0,.int .i64 0,.int .i64 0]])∧Laid w w' out v∧IsSet out g
end Go.Proofs.YtnhnldmldnhaoaaGreatDoor
namespace Go.Proofs.YtnhnldmldnhaoaaGreatDoor
open Go Go.RowKit Go.Proofs Go.Shelf
mutual
noncomputable def partsP (s:ByteArray):Nat→St→PR T
  | 0,_=>.out
  | n+1,st=>match partP s n st [] with
    | .out=>.out
    | .wrong e f t=>.wrong e f t
    | .ok t st'=>altP s n st' [t]
noncomputable def altP (s:ByteArray):Nat→St→List T→PR T
  | 0,_,_=>.out
  | n+1,st,l=>
    if stands s st.p [124]=true then match partP s n { st with p:=st.p+1 } [] with
      | .out=>.out
      | .wrong e f t=>.wrong e f t
      | .ok t st'=>altP s n st' (l ++ [t])
    else match l with
      | [t]=>.ok t st
      | l=>.ok (kidsT 12 l) st
noncomputable def partP (s:ByteArray):Nat→St→List T→PR T
  | 0,_,_=>.out
  | n+1,st,l=>
    if nextC s st.p = -1∨nextC s st.p=124∨nextC s st.p=41 then .ok (catT l) st
    else match signP s st.p with
    | (none,_)=>match atomsP s n st with
      | .out=>.out
      | .wrong e f t=>.wrong e f t
      | .ok ts st'=>partP s n st' (l ++ ts)
    | (some (op,mn,mx),q)=>match l.getLast? with
      | none=>.wrong 82 st.p q
      | some k=>match repeatP s st.p q st.f op mn mx with
        | .error (e,f,t)=>.wrong e f t
        | .ok (lz,q')=>partP s n { st with p:=q' } (l.dropLast ++ [repT op k mn mx lz])
noncomputable def atomsP (s:ByteArray):Nat→St→PR (List T)
  | 0,_=>.out
  | n+1,st=>
    if nextC s st.p=40 then openP s n st
    else if nextC s st.p=92 then escapeP s st
    else if nextC s st.p=91 then match clsQ s st.p (onB st.f 32) (if onB st.f 1 then some foldF else none) with
      | .wrong e f t=>.wrong e f t
      | .ok g q=>.ok [setT (normL g)] { st with p:=q }
    else if nextC s st.p=46 then .ok [setT (dotL st.f)] { st with p:=nextW s st.p }
    else if nextC s st.p=94 then .ok [leafT 5 0 [] (if onB st.f 4=true then 4 else 1)] { st with p:=nextW s st.p }
    else if nextC s st.p=36 then .ok [leafT 5 0 [] (if onB st.f 4=true then 8 else 2)] { st with p:=nextW s st.p }
    else .ok [atomT st.f (nextC s st.p)] { st with p:=nextW s st.p }
noncomputable def openP (s:ByteArray):Nat→St→PR (List T)
  | 0,_=>.out
  | n+1,st=>
    if onB st.f 32=true∧stands s st.p [40,63]=true then
      if stands s st.p [40,63,80,60]=true∨stands s st.p [40,63,60]=true then
        match nameP s st.p with
        | .error q=>.wrong 64 st.p q
        | .ok (nm,q)=>if st.ns.contains nm=true then .wrong 64 st.p q else match groupP s n { st with p:=q } nm with
          | .out=>.out
          | .wrong e f t=>.wrong e f t
          | .ok t st'=>.ok [t] st'
      else match flagsP s st.p st.f with
        | .error q=>.wrong 65 st.p q
        | .ok (g,grp,q)=>if grp=true then match closeP s n { st with p:=q,f:=g } with
            | .out=>.out
            | .wrong e f t=>.wrong e f t
            | .ok t st'=>.ok [t] { st' with f:=st.f }
          else .ok [] { st with p:=q,f:=g }
    else match groupP s n { st with p:=st.p+1 } ⟨#[]⟩ with
      | .out=>.out
      | .wrong e f t=>.wrong e f t
      | .ok t st'=>.ok [t] st'
noncomputable def groupP (s:ByteArray):Nat→St→ByteArray→PR T
  | 0,_,_=>.out
  | n+1,st,nm=>match closeP s n { st with ns:=st.ns ++ [nm] } with
    | .out=>.out
    | .wrong e f t=>.wrong e f t
    | .ok t st'=>.ok (capT t (st.ns.length+1) nm) { st' with f:=st.f }
noncomputable def closeP (s:ByteArray):Nat→St→PR T
  | 0,_=>.out
  | n+1,st=>match partsP s n st with
    | .out=>.out
    | .wrong e f t=>.wrong e f t
    | .ok t st'=>if stands s st'.p [41]=true then .ok t { st' with p:=st'.p+1 } else .wrong 84 0 s.size
end
noncomputable def wholeP (s:ByteArray) (f:Int):PR T:=
  if onB f 2=true then .ok (catT (runesT f s)) ⟨0,f,[]⟩
  else match partsP s (8 * s.size+8) ⟨0,f,[]⟩ with
  | .out=>.out
  | .wrong e f t=>.wrong e f t
  | .ok t st=>if st.p < s.size then .wrong 84 0 s.size else .ok t st
end Go.Proofs.YtnhnldmldnhaoaaGreatDoor
namespace Go.Proofs.YtnhnldmldnhaoaaGreatDoor
open Go Go.RowKit Go.Proofs
theorem byte_at {s:ByteArray} {p:Nat} (h:p < s.size):s.data.toList[p]? = some s[p]:=by
  have hz:s.data.toList.length=s.size:=by simp
  rw [List.getElem?_eq_getElem (by omega)]
  simp
  rfl
def Bd (s:ByteArray) (p:Nat):Prop:=Lib.validD (s.data.toList.drop p)=true
theorem drop_ne {s:ByteArray} {p:Nat} (h:p < s.size):s.data.toList.drop p≠[]:=fun e=>by
  have h1:=congrArg List.length e
  have h2:s.data.toList.length=s.size:=by simp
  rw [List.length_drop,h2] at h1
  simp at h1
  omega
theorem Bd.step {s:ByteArray} {p:Nat} (h:Bd s p) (hp:p < s.size):¬ ((Utf8.decode s p).1=65533∧(Utf8.decode s p).2=1)∧Bd s (p+(Utf8.decode s p).2):=by
  unfold Bd at h
  rw [Lib.validD_step _ (drop_ne hp),Lib.decodeL_drop] at h
  by_cases c:(Utf8.decode s p).1=65533∧(Utf8.decode s p).2=1
  · rw [if_pos c] at h;cases h
  · rw [if_neg c,List.drop_drop] at h
    exact ⟨c,h⟩
theorem Bd.next {s:ByteArray} {p:Nat} (h:Bd s p):Bd s (nextW s p):=by
  unfold nextW
  by_cases hp:p < s.size
  · rw [if_pos hp];exact (h.step hp).2
  · rw [if_neg hp];exact h
theorem Bd.len {s:ByteArray} {p:Nat} (h:Bd s p) (hp:p < s.size):(p:Int)+Lib.runeLen (nextC s p)=nextW s p:=by
  have h1:=(h.step hp).1
  unfold nextC nextW
  rw [if_pos hp,if_pos hp]
  by_cases c:(Utf8.decode s p).1=65533
  · have h2:=Lib.encode_decode (s.data.toList.drop p) (drop_ne hp) (by rw [Lib.decodeL_drop];exact h1)
    have h3:=Lib.decodeL_le (s.data.toList.drop p) (drop_ne hp)
    rw [Lib.decodeL_drop] at h2 h3
    have h4:=congrArg List.length h2
    rw [c,List.length_take,Nat.min_eq_left h3] at h4
    rw [c]
    have h5:(Lib.encodeRune ((65533:Nat):Int)).length=3:=by decide
    have h6:Lib.runeLen ((65533:Nat):Int)=3:=by decide
    omega
  · have h2:=Lib.runeLen_decode (s.data.toList.drop p) (by rw [Lib.decodeL_drop];exact c)
    rw [Lib.decodeL_drop] at h2
    rw [h2];omega
theorem getD_drop (l:List UInt8) (p j:Nat):(l.drop p).getD j 0=l.getD (p+j) 0:=by
  rw [List.getD_eq_getElem?_getD,List.getD_eq_getElem?_getD,List.getElem?_drop]
theorem Bd.inside {s:ByteArray} {p:Nat} (j:Nat) (h1:1≤j) (h2:j < (Utf8.decode s p).2):128≤(s.data.toList.getD (p+j) 0).toNat:=by
  obtain ⟨c2,c3,c4,c5⟩:=Lib.decodeN_conts (s.data.toList.drop p).length ((s.data.toList.drop p).getD 0 0).toNat ((s.data.toList.drop p).getD 1 0).toNat ((s.data.toList.drop p).getD 2 0).toNat ((s.data.toList.drop p).getD 3 0).toNat
  rw [← Lib.decodeL_N,Lib.decodeL_drop] at c2 c3 c4 c5
  rw [← getD_drop]
  have hj:j=1∨j=2∨j=3:=by omega
  rcases hj with rfl | rfl | rfl
  · have:=(c2 (by omega)).1;omega
  · have:=(c3 (by omega)).1;omega
  · have:=(c4 (by omega)).1;omega
theorem Bd.asc {s:ByteArray} {c:UInt8} {q:Nat} (hc:s.data.toList[q]? = some c) (h128:c.toNat < 128):∀ (n p:Nat),q - p≤n→p≤q→Bd s p→Bd s q
  | 0,p,hn,hpq,h=>by
    obtain rfl:p=q:=by omega
    exact h
  | n+1,p,hn,hpq,h=>by
    by_cases e:p=q
    · subst e;exact h
    · have hq:=(List.getElem?_eq_some_iff.1 hc).1
      have hz:s.data.toList.length=s.size:=by simp
      have hp:p < s.size:=by omega
      have hw:=Lib.decode_width_pos s p hp
      by_cases hlt:q < p+(Utf8.decode s p).2
      · have h1:=Bd.inside (s:=s) (p:=p) (q - p) (by omega) (by omega)
        rw [show p+(q - p)=q by omega,List.getD_eq_getElem?_getD,hc] at h1
        simp only [Option.getD_some] at h1
        omega
      · exact Bd.asc hc h128 n (p+(Utf8.decode s p).2) (by omega) (by omega) (h.step hp).2
theorem Bd.one {s:ByteArray} {c:UInt8} {p:Nat} (h:Bd s p) (hc:s.data.toList[p]? = some c) (h128:c.toNat < 128):Bd s (p+1):=by
  unfold Bd at h ⊢
  obtain ⟨hl,e⟩:=List.getElem?_eq_some_iff.1 hc
  rw [List.drop_eq_getElem_cons hl,e,Lib.validD_cons c _ h128] at h
  exact h
theorem Bd.behind {s:ByteArray} {c:UInt8} {p q:Nat} (h:Bd s p) (hpq:p≤q) (hc:s.data.toList[q]? = some c) (h128:c.toNat < 128):Bd s (q+1):=
  (Bd.asc hc h128 (q - p) p (Nat.le_refl _) hpq h).one hc h128
theorem Bd.sign {s:ByteArray} {c:UInt8} {p q:Nat} (h:Bd s p) (hpq:p≤q) (hs:stands s q [c]=true) (h128:c.toNat < 128):Bd s (q+1):=by
  obtain ⟨hl,e⟩:=(stands_one s q c).1 hs
  refine h.behind hpq (c:=c) ?_ h128
  have hz:s.data.toList.length=s.size:=by simp
  rw [List.getElem?_eq_getElem (by omega),← e]
  simp
  rfl
theorem Bd.end_ (s:ByteArray):Bd s s.size:=by
  unfold Bd
  have hz:s.data.toList.length=s.size:=by simp
  rw [List.drop_eq_nil_of_le (by omega)]
  rfl
end Go.Proofs.YtnhnldmldnhaoaaGreatDoor
namespace Go.Proofs.YtnhnldmldnhaoaaGreatDoor
open Go Go.RowKit Go.Proofs
theorem stands_at {s:ByteArray} {p:Nat} {x:List UInt8} (h:stands s p x=true) (k:Nat) (v:UInt8) (hk:x[k]? = some v):s.data.toList[p+k]? = some v:=by
  unfold stands Lib.hasPrefix at h
  obtain ⟨t,ht⟩:=List.isPrefixOf_iff_prefix.1 h
  have:=congrArg (fun l=>l[k]?) ht
  simp only [List.getElem?_drop] at this
  rw [← this,List.getElem?_append_left (List.getElem?_eq_some_iff.1 hk).1,hk]
end Go.Proofs.YtnhnldmldnhaoaaGreatDoor
