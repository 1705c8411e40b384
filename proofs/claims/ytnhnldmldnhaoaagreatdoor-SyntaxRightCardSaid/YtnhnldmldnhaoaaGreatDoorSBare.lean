/- A tree with the fields alone that its Op has: trees. -/
import Derived.Test.YtnhnldmldnhaoaaGreatDoorSBase
import Derived.Test.YtnhnldmldnhaoaaGreatDoorProg
import Derived.WalkKit
import Derived.Lib.Hide
import Derived.WalkSpells
import Derived.WalkLawsBesides
import Derived.BigRegion
import Derived.LoopTactic
set_option maxRecDepth 100000
set_option maxHeartbeats 16000000
open Go.Lib (hid)
namespace Go.Proofs.YtnhnldmldnhaoaaGreatDoor
open Go Go.RowKit Go.Proofs
def bareC (op rune:Int) (sa:Option Addr) (sn sc:Nat) (pl cap:Int) (name:ByteArray) (mn mx:Int) (lz:Bool):List Value:=
  [.int .i64 op,.slice none 0 0,.int .i32 (if op=3 then rune else 0),(if op=4 then .slice sa sn sc else .slice none 0 0),.int .i64 (if op=5 then pl else 0),.int .i64 (if op=6 then cap else 0),
    .string (if op=6 then name else ⟨#[]⟩),.int .i64 (if op=10 then mn else 0),.int .i64 (if op=10 then mx else 0),.bool (if op=7∨op=8∨op=9∨op=10 then lz else false)]
theorem trees_bare (op:Int) (ka:Option Addr) (kn kc:Nat) (rune:Int) (sa:Option Addr) (sn sc:Nat) (pl cap:Int) (name:ByteArray) (mn mx:Int) (lz:Bool) (w:World) :
    Calls Tryz.prog 39 #[.agg #[.int .i64 op,.slice ka kn kc,.int .i32 rune,.slice sa sn sc,.int .i64 pl,.int .i64 cap,.string name,.int .i64 mn,.int .i64 mx,.bool lz]] w fun e w'=>
      e = .returned (.agg (bareC op rune sa sn sc pl cap name mn mx lz).toArray)∧Below w.heap.size w w':=by
  by_cases h3:op=3
  · subst h3
    go_enter Tryz.func39, Tryz.ntmps39
    go_wp2_with fail
    refine bodyPost_ret (v:=.agg (bareC 3 rune sa sn sc pl cap name mn mx lz).toArray) (by simp [results,Tryz.results39,go_sem,bareC]) rfl ⟨rfl,?_⟩
    exact (((Below.refl _ w).alloc (Nat.le_refl _) _).alloc (by simp) _).alloc (by simp;omega) _
  · by_cases h4:op=4
    · subst h4
      go_enter Tryz.func39, Tryz.ntmps39
      go_wp2_with fail
      refine bodyPost_ret (v:=.agg (bareC 4 rune sa sn sc pl cap name mn mx lz).toArray) (by simp [results,Tryz.results39,go_sem,bareC]) rfl ⟨rfl,?_⟩
      exact (((Below.refl _ w).alloc (Nat.le_refl _) _).alloc (by simp) _).alloc (by simp;omega) _
    · by_cases h5:op=5
      · subst h5
        go_enter Tryz.func39, Tryz.ntmps39
        go_wp2_with fail
        refine bodyPost_ret (v:=.agg (bareC 5 rune sa sn sc pl cap name mn mx lz).toArray) (by simp [results,Tryz.results39,go_sem,bareC]) rfl ⟨rfl,?_⟩
        exact (((Below.refl _ w).alloc (Nat.le_refl _) _).alloc (by simp) _).alloc (by simp;omega) _
      · by_cases h6:op=6
        · subst h6
          go_enter Tryz.func39, Tryz.ntmps39
          go_wp2_with fail
          go_region
          go_wp2_with fail
          refine bodyPost_ret (v:=.agg (bareC 6 rune sa sn sc pl cap name mn mx lz).toArray) (by simp [results,Tryz.results39,go_sem,bareC]) rfl ⟨rfl,?_⟩
          exact ((((Below.refl _ w).alloc (Nat.le_refl _) _).alloc (by simp) _).alloc (by simp;omega) _).drew
        · by_cases h10:op=10
          · subst h10
            go_enter Tryz.func39, Tryz.ntmps39
            go_wp2_with fail
            go_region
            go_wp2_with fail
            refine bodyPost_ret (v:=.agg (bareC 10 rune sa sn sc pl cap name mn mx lz).toArray) (by simp [results,Tryz.results39,go_sem,bareC]) rfl ⟨rfl,?_⟩
            exact ((((Below.refl _ w).alloc (Nat.le_refl _) _).alloc (by simp) _).alloc (by simp;omega) _).drew
          · by_cases h7:op=7
            · subst h7
              go_enter Tryz.func39, Tryz.ntmps39
              go_wp2_with fail
              refine bodyPost_ret (v:=.agg (bareC 7 rune sa sn sc pl cap name mn mx lz).toArray) (by simp [results,Tryz.results39,go_sem,bareC]) rfl ⟨rfl,?_⟩
              exact (((Below.refl _ w).alloc (Nat.le_refl _) _).alloc (by simp) _).alloc (by simp;omega) _
            · by_cases h8:op=8
              · subst h8
                go_enter Tryz.func39, Tryz.ntmps39
                go_wp2_with fail
                refine bodyPost_ret (v:=.agg (bareC 8 rune sa sn sc pl cap name mn mx lz).toArray) (by simp [results,Tryz.results39,go_sem,bareC]) rfl ⟨rfl,?_⟩
                exact (((Below.refl _ w).alloc (Nat.le_refl _) _).alloc (by simp) _).alloc (by simp;omega) _
              · by_cases h9:op=9
                · subst h9
                  go_enter Tryz.func39, Tryz.ntmps39
                  go_wp2_with fail
                  refine bodyPost_ret (v:=.agg (bareC 9 rune sa sn sc pl cap name mn mx lz).toArray) (by simp [results,Tryz.results39,go_sem,bareC]) rfl ⟨rfl,?_⟩
                  exact (((Below.refl _ w).alloc (Nat.le_refl _) _).alloc (by simp) _).alloc (by simp;omega) _
                · have hb:bareC op rune sa sn sc pl cap name mn mx lz=[.int .i64 op,.slice none 0 0,.int .i32 0,.slice none 0 0,.int .i64 0,.int .i64 0,.string ⟨#[]⟩,.int .i64 0,.int .i64 0,.bool false]:=by
                    unfold bareC;simp [h3,h4,h5,h6,h10,h7,h8,h9]
                  rw [hb]
                  have e3:(op == 3)=false:=by simpa using h3
                  have e4:(op == 4)=false:=by simpa using h4
                  have e5:(op == 5)=false:=by simpa using h5
                  have e6:(op == 6)=false:=by simpa using h6
                  have e10:(op == 10)=false:=by simpa using h10
                  have e7:(op == 7)=false:=by simpa using h7
                  have e8:(op == 8)=false:=by simpa using h8
                  have e9:(op == 9)=false:=by simpa using h9
                  clear h3 h4 h5 h6 h10 h7 h8 h9 hb
                  go_enter Tryz.func39, Tryz.ntmps39
                  go_wp2_with fail
                  refine bodyPost_ret (v:=.agg #[.int .i64 op,.slice none 0 0,.int .i32 0,.slice none 0 0,.int .i64 0,.int .i64 0,.string ⟨#[]⟩,.int .i64 0,.int .i64 0,.bool false]) (by simp [results,Tryz.results39,go_sem]) rfl ⟨rfl,?_⟩
                  exact (((Below.refl _ w).alloc (Nat.le_refl _) _).alloc (by simp) _).alloc (by simp;omega) _
end Go.Proofs.YtnhnldmldnhaoaaGreatDoor
namespace Go.Proofs.YtnhnldmldnhaoaaGreatDoor
open Go Go.RowKit Go.Proofs
def wordB (c:UInt8):Bool:=(decide (97≤c.toNat) && decide (c.toNat≤122)) || (decide (65≤c.toNat) && decide (c.toNat≤90)) || (decide (48≤c.toNat) && decide (c.toNat≤57)) || decide (c.toNat=95)
def digB (c:UInt8):Bool:=decide (48≤c.toNat) && decide (c.toNat≤57)
def nameB (s:ByteArray):Bool:=decide (0 < s.size) && decide (s.size≤32) && !digB (s.data.toList.getD 0 0) && s.data.toList.all wordB
theorem size_zero {s:ByteArray} (h:s.size=0):s=⟨#[]⟩:=by
  have e:s.data.toList=[]:=List.eq_nil_of_length_eq_zero (by simpa using h)
  cases s with | mk d=>rw [ByteArray.mk.injEq];exact Array.toList_inj.1 e
theorem list_ne {s:ByteArray} (h:¬ s.size=0):s.toList.isEmpty=false:=by
  rw [ByteArray.toList_eq]
  have:s.data.toList.length≠0:=by simpa using h
  cases hl:s.data.toList with
  | nil=>rw [hl] at this;exact absurd rfl this
  | cons=>rfl
theorem all_take_no {l:List UInt8} {f:UInt8→Bool} {k:Nat} (hk:k < l.length) (h:f l[k]=false):l.all f=false:=by
  rw [List.all_eq_false];exact ⟨l[k],List.getElem_mem hk,by simp [h]⟩
theorem trees_name_loop (s:ByteArray) (L:List UInt8) (hL:s.data.toList=L) (c:UInt8) (hp:0 < s.size) (hz:s.size≤32) (hc:s[0]'hp=c) (hd:¬ (48≤c.toNat∧c.toNat≤57)) (w:World) :
    Calls Tryz.prog 42 #[.string s] w fun e w'=>e = .returned (.bool (L.all wordB))∧Below w.heap.size w w':=by
  have hl0:=list_ne (s:=s) (by omega)
  have h32':¬ (32:Int) < (s.size:Int):=by omega
  obtain ⟨cap,w2,hrun,hcell,hbl2,hs2⟩:=conv_bytes (P:=Tryz.prog) w 9 63 5 s Tryz.underlying9 Tryz.underlying63 Tryz.underlying5
  rw [hL] at hcell
  have HCell:=hid hcell;clear hcell
  have HB2:=hid hbl2;clear hbl2
  have HS2:=hid hs2;clear hs2
  have hlen:L.length=s.size:=by rw [← hL];simp
  clear hL
  have HLn:=hid hlen;clear hlen
  by_cases hd1:c.toNat < 48
  · clear hd
    go_enter Tryz.func42, Tryz.ntmps42
    go_wp2_with fail
    clear hrun
    go_loop [25] (fun i=>∃ k:Nat,k≤L.length∧i = .int .i64 k∧(L.take k).all wordB=true) (fun i=>L.length - (intOf i).toNat)
    case atStart=>exact ⟨0,Nat.zero_le _,rfl,rfl⟩
    case round=>
      obtain ⟨k,hk,rfl,hall⟩:=hrel
      have hkz:k≤s.size:=by rw [← HLn.out];exact hk
      have HA:=hid hall;clear hall hk
      by_cases hlt:k < s.size
      · have hlt2:k < L.length:=by rw [HLn.out];exact hlt
        obtain ⟨x,hx⟩:∃ x,x=L[k]:=⟨_,rfl⟩
        have hcell:w2.cell? ⟨w.heap.size,k,none⟩=some (.int .u8 x.toNat):=by
          have h:=HCell.out k hlt
          rw [List.getD_eq_getElem?_getD,List.getElem?_eq_getElem hlt2] at h
          rw [hx];exact h
        have hnext:wordB x=true→(L.take (k+1)).all wordB=true:=fun h=>by
          rw [List.take_succ_eq_append_getElem hlt2,List.all_append,HA.out,← hx];simp [h]
        have hstop:wordB x=false→L.all wordB=false:=fun h=>all_take_no hlt2 (by rw [← hx];exact h)
        have HN:=hid hnext;have HS:=hid hstop;have HL2:=hid hlt2
        clear hnext hstop hx hlt2
        by_cases ha:97≤x.toNat∧x.toNat≤122
        · have hw:wordB x=true:=by unfold wordB;simp [ha.1,ha.2]
          have HW:=hid hw;clear hw
          obtain ⟨ha1,ha2⟩:=ha
          go_wp2_with fail
          go_round
          case rel=>exact ⟨k+1,HL2.out,by go_num,HN.out HW.out⟩
          case measure=>have:=HL2.out;simp [intOf];omega
        · by_cases hb:65≤x.toNat∧x.toNat≤90
          · have hw:wordB x=true:=by unfold wordB;simp [hb.1,hb.2]
            have HW:=hid hw;clear hw
            obtain ⟨hb1,hb2⟩:=hb
            have ha1:¬ 97≤x.toNat:=by omega
            clear ha
            go_wp2_with fail
            go_round
            case rel=>exact ⟨k+1,HL2.out,by go_num,HN.out HW.out⟩
            case measure=>have:=HL2.out;simp [intOf];omega
          · by_cases hg:48≤x.toNat∧x.toNat≤57
            · have hw:wordB x=true:=by unfold wordB;simp [hg.1,hg.2]
              have HW:=hid hw;clear hw
              obtain ⟨hg1,hg2⟩:=hg
              have ha1:¬ 97≤x.toNat:=by omega
              have hb1:¬ 65≤x.toNat:=by omega
              clear ha hb
              go_wp2_with fail
              go_round
              case rel=>exact ⟨k+1,HL2.out,by go_num,HN.out HW.out⟩
              case measure=>have:=HL2.out;simp [intOf];omega
            · by_cases hu:x.toNat=95
              · have hw:wordB x=true:=by unfold wordB;simp [hu]
                have HW:=hid hw;clear hw
                clear ha hb hg
                go_wp2_with fail
                go_round
                case rel=>exact ⟨k+1,HL2.out,by go_num,HN.out HW.out⟩
                case measure=>have:=HL2.out;simp [intOf];omega
              · have hw:wordB x=false:=by unfold wordB;simp only [Bool.or_eq_false_iff,Bool.and_eq_false_iff,decide_eq_false_iff_not];omega
                have HW:=hid (HS.out hw);clear hw
                have fa:(if (97:Int)≤(x.toNat:Int) then decide ((x.toNat:Int)≤122) else false)=false:=by split <;> simp <;> omega
                by_cases q1:97≤x.toNat
                · have q2:¬ x.toNat≤122:=by omega
                  have q3:65≤x.toNat:=by omega
                  have q4:¬ x.toNat≤90:=by omega
                  have q5:48≤x.toNat:=by omega
                  have q6:¬ x.toNat≤57:=by omega
                  clear ha hb hg fa
                  go_wp2_with fail
                  go_ret
                  exact ⟨by rw [HW.out];rfl,HB2.out⟩
                · by_cases q3:65≤x.toNat
                  · have q4:¬ x.toNat≤90:=by omega
                    have q5:48≤x.toNat:=by omega
                    have q6:¬ x.toNat≤57:=by omega
                    clear ha hb hg fa
                    go_wp2_with fail
                    go_ret
                    exact ⟨by rw [HW.out];rfl,HB2.out⟩
                  · by_cases q5:48≤x.toNat
                    · have q6:¬ x.toNat≤57:=by omega
                      clear ha hb hg fa
                      go_wp2_with fail
                      go_ret
                      exact ⟨by rw [HW.out];rfl,HB2.out⟩
                    · clear ha hb hg fa
                      go_wp2_with fail
                      go_ret
                      exact ⟨by rw [HW.out];rfl,HB2.out⟩
      · have hke:k=L.length:=by rw [HLn.out];omega
        have HQ:=hid (show L.all wordB=true by have:=HA.out;rwa [hke,List.take_length] at this)
        clear hke
        go_wp2_with fail
        go_ret
        exact ⟨by rw [HQ.out];rfl,HB2.out⟩
  · have hd2:57 < c.toNat:=by omega
    clear hd
    go_enter Tryz.func42, Tryz.ntmps42
    go_wp2_with fail
    clear hrun
    go_loop [25] (fun i=>∃ k:Nat,k≤L.length∧i = .int .i64 k∧(L.take k).all wordB=true) (fun i=>L.length - (intOf i).toNat)
    case atStart=>exact ⟨0,Nat.zero_le _,rfl,rfl⟩
    case round=>
      obtain ⟨k,hk,rfl,hall⟩:=hrel
      have hkz:k≤s.size:=by rw [← HLn.out];exact hk
      have HA:=hid hall;clear hall hk
      by_cases hlt:k < s.size
      · have hlt2:k < L.length:=by rw [HLn.out];exact hlt
        obtain ⟨x,hx⟩:∃ x,x=L[k]:=⟨_,rfl⟩
        have hcell:w2.cell? ⟨w.heap.size,k,none⟩=some (.int .u8 x.toNat):=by
          have h:=HCell.out k hlt
          rw [List.getD_eq_getElem?_getD,List.getElem?_eq_getElem hlt2] at h
          rw [hx];exact h
        have hnext:wordB x=true→(L.take (k+1)).all wordB=true:=fun h=>by
          rw [List.take_succ_eq_append_getElem hlt2,List.all_append,HA.out,← hx];simp [h]
        have hstop:wordB x=false→L.all wordB=false:=fun h=>all_take_no hlt2 (by rw [← hx];exact h)
        have HN:=hid hnext;have HS:=hid hstop;have HL2:=hid hlt2
        clear hnext hstop hx hlt2
        by_cases ha:97≤x.toNat∧x.toNat≤122
        · have hw:wordB x=true:=by unfold wordB;simp [ha.1,ha.2]
          have HW:=hid hw;clear hw
          obtain ⟨ha1,ha2⟩:=ha
          go_wp2_with fail
          go_round
          case rel=>exact ⟨k+1,HL2.out,by go_num,HN.out HW.out⟩
          case measure=>have:=HL2.out;simp [intOf];omega
        · by_cases hb:65≤x.toNat∧x.toNat≤90
          · have hw:wordB x=true:=by unfold wordB;simp [hb.1,hb.2]
            have HW:=hid hw;clear hw
            obtain ⟨hb1,hb2⟩:=hb
            have ha1:¬ 97≤x.toNat:=by omega
            clear ha
            go_wp2_with fail
            go_round
            case rel=>exact ⟨k+1,HL2.out,by go_num,HN.out HW.out⟩
            case measure=>have:=HL2.out;simp [intOf];omega
          · by_cases hg:48≤x.toNat∧x.toNat≤57
            · have hw:wordB x=true:=by unfold wordB;simp [hg.1,hg.2]
              have HW:=hid hw;clear hw
              obtain ⟨hg1,hg2⟩:=hg
              have ha1:¬ 97≤x.toNat:=by omega
              have hb1:¬ 65≤x.toNat:=by omega
              clear ha hb
              go_wp2_with fail
              go_round
              case rel=>exact ⟨k+1,HL2.out,by go_num,HN.out HW.out⟩
              case measure=>have:=HL2.out;simp [intOf];omega
            · by_cases hu:x.toNat=95
              · have hw:wordB x=true:=by unfold wordB;simp [hu]
                have HW:=hid hw;clear hw
                clear ha hb hg
                go_wp2_with fail
                go_round
                case rel=>exact ⟨k+1,HL2.out,by go_num,HN.out HW.out⟩
                case measure=>have:=HL2.out;simp [intOf];omega
              · have hw:wordB x=false:=by unfold wordB;simp only [Bool.or_eq_false_iff,Bool.and_eq_false_iff,decide_eq_false_iff_not];omega
                have HW:=hid (HS.out hw);clear hw
                have fa:(if (97:Int)≤(x.toNat:Int) then decide ((x.toNat:Int)≤122) else false)=false:=by split <;> simp <;> omega
                by_cases q1:97≤x.toNat
                · have q2:¬ x.toNat≤122:=by omega
                  have q3:65≤x.toNat:=by omega
                  have q4:¬ x.toNat≤90:=by omega
                  have q5:48≤x.toNat:=by omega
                  have q6:¬ x.toNat≤57:=by omega
                  clear ha hb hg fa
                  go_wp2_with fail
                  go_ret
                  exact ⟨by rw [HW.out];rfl,HB2.out⟩
                · by_cases q3:65≤x.toNat
                  · have q4:¬ x.toNat≤90:=by omega
                    have q5:48≤x.toNat:=by omega
                    have q6:¬ x.toNat≤57:=by omega
                    clear ha hb hg fa
                    go_wp2_with fail
                    go_ret
                    exact ⟨by rw [HW.out];rfl,HB2.out⟩
                  · by_cases q5:48≤x.toNat
                    · have q6:¬ x.toNat≤57:=by omega
                      clear ha hb hg fa
                      go_wp2_with fail
                      go_ret
                      exact ⟨by rw [HW.out];rfl,HB2.out⟩
                    · clear ha hb hg fa
                      go_wp2_with fail
                      go_ret
                      exact ⟨by rw [HW.out];rfl,HB2.out⟩
      · have hke:k=L.length:=by rw [HLn.out];omega
        have HQ:=hid (show L.all wordB=true by have:=HA.out;rwa [hke,List.take_length] at this)
        clear hke
        go_wp2_with fail
        go_ret
        exact ⟨by rw [HQ.out];rfl,HB2.out⟩
theorem trees_name (s:ByteArray) (w:World):Calls Tryz.prog 42 #[.string s] w fun e w'=>e = .returned (.bool (nameB s))∧Below w.heap.size w w':=by
  by_cases h0:s.size=0
  · obtain rfl:=size_zero h0
    clear h0
    go_enter Tryz.func42, Tryz.ntmps42
    go_wp2_with fail
    go_ret
    exact ⟨rfl,Below.refl _ w⟩
  · have hl0:=list_ne h0
    by_cases h32:32 < s.size
    · have hF:nameB s=false:=by unfold nameB;rw [decide_eq_false (show ¬ s.size≤32 by omega)];simp
      rw [hF]
      have h32':(32:Int) < (s.size:Int):=by omega
      go_enter Tryz.func42, Tryz.ntmps42
      go_wp2_with fail
      go_ret
      exact ⟨rfl,Below.refl _ w⟩
    · have hp:0 < s.size:=by omega
      have h32':¬ (32:Int) < (s.size:Int):=by omega
      obtain ⟨c,hc⟩:∃ c,s[0]'hp=c:=⟨_,rfl⟩
      have hcd:s.data.toList.getD 0 0=c:=by rw [← hc,List.getD_eq_getElem?_getD,List.getElem?_eq_getElem (by simpa using hp)];rfl
      have HC:=hid hcd;clear hcd
      by_cases hd:48≤c.toNat∧c.toNat≤57
      · have hF:nameB s=false:=by unfold nameB;rw [HC.out];unfold digB;simp [hd]
        rw [hF]
        obtain ⟨hd1,hd2⟩:=hd
        go_enter Tryz.func42, Tryz.ntmps42
        go_wp2_with fail
        go_ret
        exact ⟨rfl,Below.refl _ w⟩
      · have hF:nameB s=s.data.toList.all wordB:=by
          unfold nameB;rw [HC.out]
          have:digB c=false:=by unfold digB;simp;omega
          rw [this,decide_eq_true hp,decide_eq_true (show s.size≤32 by omega)];simp
        rw [hF]
        exact trees_name_loop s _ rfl c hp (by omega) hc hd w
end Go.Proofs.YtnhnldmldnhaoaaGreatDoor
namespace Go.Proofs.YtnhnldmldnhaoaaGreatDoor
open Go Go.RowKit Go.Proofs
theorem bareC_form (op rune:Int) (sa:Option Addr) (sn sc:Nat) (pl cap:Int) (name:ByteArray) (mn mx:Int) (lz:Bool):∃ (sa':Option Addr) (sn' sc':Nat),
    bareC op rune sa sn sc pl cap name mn mx lz=[.int .i64 op,.slice none 0 0,.int .i32 (if op=3 then rune else 0),.slice sa' sn' sc',.int .i64 (if op=5 then pl else 0),.int .i64 (if op=6 then cap else 0),
      .string (if op=6 then name else ⟨#[]⟩),.int .i64 (if op=10 then mn else 0),.int .i64 (if op=10 then mx else 0),.bool (if op=7∨op=8∨op=9∨op=10 then lz else false)]∧sn'=(if op=4 then sn else 0):=by
  by_cases h:op=4
  · exact ⟨sa,sn,sc,by unfold bareC;rw [if_pos h],by rw [if_pos h]⟩
  · exact ⟨none,0,0,by unfold bareC;rw [if_neg h],by rw [if_neg h]⟩
def bareOk (op rune:Int) (sn:Nat) (pl cap:Int) (name:ByteArray) (mn mx:Int) (lz:Bool):Bool:=
  decide ((if op=3 then rune else 0)=rune) && decide ((if op=4 then sn else 0)=sn) && decide ((if op=5 then pl else 0)=pl) && decide ((if op=6 then cap else 0)=cap) &&
    decide ((if op=6 then name else (⟨#[]⟩:ByteArray))=name) && decide ((if op=10 then mn else 0)=mn) && decide ((if op=10 then mx else 0)=mx) &&
    decide ((if op=7∨op=8∨op=9∨op=10 then lz else false)=lz)
def kindOk (op:Int) (kn:Nat) (rune:Int) (sn:Nat) (so:Bool) (pl:Int) (name:ByteArray) (mn mx:Int):Bool:=
  if op=1∨op=2 then decide (kn=0)
  else if op=3 then decide (kn=0) && decide (0≤rune) && decide (rune≤1114111)
  else if op=4 then decide (kn=0) && decide (0 < sn) && so
  else if op=5 then decide (kn=0) && decide (pl=1∨pl=2∨pl=4∨pl=8∨pl=16∨pl=32)
  else if op=6 then decide (kn=1) && (decide (name.size=0) || nameB name)
  else if op=7∨op=8∨op=9 then decide (kn=1)
  else if op=10 then decide (kn=1) && decide (0≤mn) && decide (mn≤1000) && (decide (mx = -1) || (decide (mn≤mx) && decide (mx≤1000)))
  else if op=11 then true
  else if op=12 then decide (0 < kn)
  else false
theorem toList_ne {a b:ByteArray} (h:¬ a=b):¬ a.toList=b.toList:=fun e=>h (by
  rw [ByteArray.toList_eq,ByteArray.toList_eq] at e
  cases a;cases b;rw [ByteArray.mk.injEq];exact Array.toList_inj.1 e)
theorem plain_no (op:Int) (ka:Option Addr) (kn kc:Nat) (rune:Int) (sa:Option Addr) (sn sc:Nat) (pl cap:Int) (name:ByteArray) (mn mx:Int) (lz:Bool) (w:World) (hno:bareOk op rune sn pl cap name mn mx lz=false) :
    Calls Tryz.prog 25 #[.agg #[.int .i64 op,.slice ka kn kc,.int .i32 rune,.slice sa sn sc,.int .i64 pl,.int .i64 cap,.string name,.int .i64 mn,.int .i64 mx,.bool lz]] w fun e w'=>
      e = .returned (.bool false)∧Below w.heap.size w w':=by
  go_enter Tryz.func25, Tryz.ntmps25
  go_wp2_with fail
  refine (trees_bare op ka kn kc rune sa sn sc pl cap name mn mx lz _).mono ?_
  rintro e w1 ⟨rfl,hB⟩
  obtain ⟨sa',sn',sc',hb,hsn⟩:=bareC_form op rune sa sn sc pl cap name mn mx lz
  rw [hb]
  have HB:=hid hB;clear hB hb
  unfold bareOk at hno
  rw [← hsn] at hno
  have HSN:=hid hsn;clear hsn
  generalize (if op=3 then rune else 0)=r' at hno ⊢
  generalize (if op=5 then pl else 0)=p' at hno ⊢
  generalize (if op=6 then cap else 0)=c' at hno ⊢
  generalize (if op=6 then name else (⟨#[]⟩:ByteArray))=n' at hno ⊢
  generalize (if op=10 then mn else 0)=mn' at hno ⊢
  generalize (if op=10 then mx else 0)=mx' at hno ⊢
  generalize (if op=7∨op=8∨op=9∨op=10 then lz else false)=l' at hno ⊢
  have hsz:w.heap.size < w1.heap.size:=by have:=HB.out.size;simp only [World.size_alloc] at this;omega
  have ht:=(Blk.below (Blk.new w [.int .i64 op,.slice ka kn kc,.int .i32 rune,.slice sa sn sc,.int .i64 pl,.int .i64 cap,.string name,.int .i64 mn,.int .i64 mx,.bool lz] 29) HB.out (by simp))
  have t0:=Blk.cell ht (j:=0) rfl;have t1:=Blk.cell ht (j:=1) rfl;have t2:=Blk.cell ht (j:=2) rfl;have t3:=Blk.cell ht (j:=3) rfl;have t4:=Blk.cell ht (j:=4) rfl
  have t5:=Blk.cell ht (j:=5) rfl;have t6:=Blk.cell ht (j:=6) rfl;have t7:=Blk.cell ht (j:=7) rfl;have t8:=Blk.cell ht (j:=8) rfl;have t9:=Blk.cell ht (j:=9) rfl
  clear ht
  by_cases k:r'=rune
  rotate_left
  · have k2:(r' != rune)=true:=by simpa using k
    clear k hno
    go_wp2_with fail
    go_ret
    exact ⟨rfl,((Below.refl _ w).alloc (Nat.le_refl _) _).trans ((HB.out.mono (by simp)).alloc (by omega) _)⟩
  · subst k
    by_cases k:sn'=sn
    rotate_left
    · have k2:((sn':Int) != (sn:Int))=true:=by simp;omega
      clear k hno
      go_wp2_with fail
      go_ret
      exact ⟨rfl,((Below.refl _ w).alloc (Nat.le_refl _) _).trans ((HB.out.mono (by simp)).alloc (by omega) _)⟩
    · subst k
      by_cases k:p'=pl
      rotate_left
      · have k2:(p' != pl)=true:=by simpa using k
        clear k hno
        go_wp2_with fail
        go_ret
        exact ⟨rfl,((Below.refl _ w).alloc (Nat.le_refl _) _).trans ((HB.out.mono (by simp)).alloc (by omega) _)⟩
      · subst k
        by_cases k:c'=cap
        rotate_left
        · have k2:(c' != cap)=true:=by simpa using k
          clear k hno
          go_wp2_with fail
          go_ret
          exact ⟨rfl,((Below.refl _ w).alloc (Nat.le_refl _) _).trans ((HB.out.mono (by simp)).alloc (by omega) _)⟩
        · subst k
          by_cases k:n'=name
          rotate_left
          · have k2:¬ n'.toList=name.toList:=toList_ne k
            clear k hno
            go_wp2_with fail
            go_ret
            exact ⟨rfl,((Below.refl _ w).alloc (Nat.le_refl _) _).trans ((HB.out.mono (by simp)).alloc (by omega) _)⟩
          · subst k
            by_cases k:mn'=mn
            rotate_left
            · have k2:(mn' != mn)=true:=by simpa using k
              clear k hno
              go_wp2_with fail
              go_ret
              exact ⟨rfl,((Below.refl _ w).alloc (Nat.le_refl _) _).trans ((HB.out.mono (by simp)).alloc (by omega) _)⟩
            · subst k
              by_cases k:mx'=mx
              rotate_left
              · have k2:(mx' != mx)=true:=by simpa using k
                clear k hno
                go_wp2_with fail
                go_ret
                exact ⟨rfl,((Below.refl _ w).alloc (Nat.le_refl _) _).trans ((HB.out.mono (by simp)).alloc (by omega) _)⟩
              · subst k
                by_cases k:l'=lz
                rotate_left
                · have k2:(!l' == lz)=true:=by cases l' <;> cases lz <;> simp_all
                  clear k hno
                  go_wp2_with fail
                  go_ret
                  exact ⟨rfl,((Below.refl _ w).alloc (Nat.le_refl _) _).trans ((HB.out.mono (by simp)).alloc (by omega) _)⟩
                · subst k
                  exact absurd hno (by simp)
end Go.Proofs.YtnhnldmldnhaoaaGreatDoor
namespace Go.Proofs.YtnhnldmldnhaoaaGreatDoor
open Go Go.RowKit Go.Proofs
def firstAt (v:Int):List Int→Int
  | []=>-1
  | z :: l=>if v=z then 0 else (if firstAt v l = -1 then -1 else firstAt v l+1)
theorem firstAt_ge (v:Int):∀ l:List Int,-1≤firstAt v l
  | []=>Int.le_refl _
  | z :: l=>by
    have:=firstAt_ge v l
    unfold firstAt
    split
    · omega
    · split <;> omega
theorem firstAt_mem (v:Int):∀ l:List Int,0≤firstAt v l↔v ∈ l
  | []=>by simp [firstAt]
  | z :: l=>by
    have h1:=firstAt_mem v l
    have h2:=firstAt_ge v l
    unfold firstAt
    by_cases h:v=z
    · simp [h]
    · rw [if_neg h,List.mem_cons]
      by_cases h3:firstAt v l = -1
      · rw [if_pos h3];constructor
        · intro h;omega
        · rintro (h4 | h4)
          · exact absurd h4 h
          · have:=h1.2 h4;omega
      · rw [if_neg h3];constructor
        · intro _;exact .inr (h1.1 (by omega))
        · intro _;omega
theorem firstAt_here {v:Int}:∀ {l:List Int} {k:Nat} (hk:k < l.length),(∀ j (hj:j < k),v≠l[j]'(by omega))→v=l[k]→firstAt v l=k
  | [],_,hk,_,_=>absurd hk (Nat.not_lt_zero _)
  | z :: l,0,_,_,h=>by simp only [List.getElem_cons_zero] at h;unfold firstAt;rw [if_pos h];rfl
  | z :: l,k+1,hk,hb,h=>by
    have h0:v≠z:=hb 0 (by omega)
    have:=firstAt_here (v:=v) (l:=l) (k:=k) (by simpa using hk) (fun j hj=>by simpa using hb (j+1) (by omega)) (by simpa using h)
    unfold firstAt;rw [if_neg h0,this,if_neg (by omega)];omega
theorem firstAt_none {v:Int} {l:List Int} (h:∀ j (hj:j < l.length),v≠l[j]):firstAt v l = -1:=by
  have h1:=firstAt_mem v l
  have h2:=firstAt_ge v l
  have:¬ v ∈ l:=fun hm=>by
    obtain ⟨j,hj,e⟩:=List.getElem_of_mem hm
    exact h j hj e.symm
  have:=mt h1.1 this
  omega
theorem index_at (b c:Nat) (zs:List Int) (v:Int) (w:World) (hz:zs.length≤1000000) (hc:∀ j (hj:j < zs.length),w.cell? ⟨b,j,none⟩=some (.int .i64 zs[j])) :
    Calls Tryz.prog 51 #[.slice (some ⟨b,0,none⟩) zs.length c,.int .i64 v] w fun e w'=>e = .returned (.int .i64 (firstAt v zs))∧w'=w:=by
  have HC:=hid hc;clear hc
  go_enter Tryz.func51, Tryz.ntmps51
  go_wp2_with fail
  go_loop [8] (fun i=>∃ k:Nat,k≤zs.length∧i = .int .i64 k∧∀ j (hj:j < k) (hz:j < zs.length),v≠zs[j]) (fun i=>zs.length - (intOf i).toNat)
  case atStart=>exact ⟨0,Nat.zero_le _,rfl,fun j hj=>absurd hj (Nat.not_lt_zero _)⟩
  case round=>
    obtain ⟨k,hk,rfl,hn⟩:=hrel
    have HN:=hid hn;clear hn
    by_cases hlt:k < zs.length
    · have hcell:=HC.out k hlt
      by_cases he:v=zs[k]
      · have HF:=hid (firstAt_here hlt (fun j hj=>HN.out j hj (by omega)) he)
        rw [← he] at hcell
        clear he
        go_wp2_with fail
        go_ret
        exact ⟨by rw [HF.out];rfl,rfl⟩
      · obtain ⟨x,hx⟩:∃ x,x=zs[k]:=⟨_,rfl⟩
        rw [← hx] at hcell he
        have HX:=hid hx;clear hx
        have he2:(v == x)=false:=by simpa using he
        have HE:=hid he;clear he
        go_wp2_with fail
        go_round
        case rel=>
          refine ⟨k+1,hlt,by go_num,fun j hj hz=>?_⟩
          by_cases hjk:j=k
          · subst hjk;rw [← HX.out];exact HE.out
          · exact HN.out j (by omega) hz
        case measure=>simp [intOf];omega
    · have HF:=hid (firstAt_none (v:=v) (l:=zs) (fun j hj=>HN.out j (by omega) hj))
      go_wp2_with fail
      go_ret
      exact ⟨by rw [HF.out];rfl,rfl⟩
theorem contains_at (b c:Nat) (zs:List Int) (v:Int) (w:World) (hz:zs.length≤1000000) (hc:∀ j (hj:j < zs.length),w.cell? ⟨b,j,none⟩=some (.int .i64 zs[j])) :
    Calls Tryz.prog 41 #[.slice (some ⟨b,0,none⟩) zs.length c,.int .i64 v] w fun e w'=>e = .returned (.bool (decide (v ∈ zs)))∧w'=w:=by
  have HC:=hid hc;clear hc
  have HM:=hid (firstAt_mem v zs)
  go_enter Tryz.func41, Tryz.ntmps41
  go_wp2_with fail
  refine (index_at b c zs v w hz HC.out).mono ?_
  rintro e w1 ⟨rfl,rfl⟩
  go_wp2_with fail
  go_ret
  exact ⟨congrArg (fun z=>Ending.returned (Value.bool z)) (decide_eq_decide.2 HM.out),rfl⟩
theorem contains_six (b:Nat) (v:Int) (w:World) (t:TypeId) (h:Blk w b [.int .i64 1,.int .i64 2,.int .i64 4,.int .i64 8,.int .i64 16,.int .i64 32] t) :
    Calls Tryz.prog 41 #[.slice (some ⟨b,0,none⟩) 6 6,.int .i64 v] w fun e w'=>e = .returned (.bool (decide (v ∈ ([1,2,4,8,16,32]:List Int))))∧w'=w:=by
  refine contains_at b 6 [1,2,4,8,16,32] v w (by decide) fun j hj=>?_
  have hj':j=0∨j=1∨j=2∨j=3∨j=4∨j=5:=by simp at hj;omega
  rcases hj' with rfl | rfl | rfl | rfl | rfl | rfl <;> exact Blk.cell h rfl
end Go.Proofs.YtnhnldmldnhaoaaGreatDoor
namespace Go.Proofs.YtnhnldmldnhaoaaGreatDoor
open Go Go.RowKit Go.Proofs
theorem plain_at (ka:Option Addr) (kn kc:Nat) (rune:Int) (sa:Option Addr) (sn sc:Nat) (pl cap:Int) (name:ByteArray) (mn mx:Int) (lz:Bool) (w:World) (so:Bool) (hyes:bareOk 5 rune sn pl cap name mn mx lz=true)
    (hset:(5:Int)=4→kn=0→0 < sn→∀ W,Below w.heap.size w W→Calls Tryz.prog 40 #[.slice sa sn sc] W fun e W'=>e = .returned (.bool so)∧Below W.heap.size W W') :
    Calls Tryz.prog 25 #[.agg #[.int .i64 5,.slice ka kn kc,.int .i32 rune,.slice sa sn sc,.int .i64 pl,.int .i64 cap,.string name,.int .i64 mn,.int .i64 mx,.bool lz]] w fun e w'=>
      e = .returned (.bool (kindOk 5 kn rune sn so pl name mn mx))∧Below w.heap.size w w':=by
  have HSET:=hid hset;clear hset
  go_enter Tryz.func25, Tryz.ntmps25
  go_wp2_with fail
  refine (trees_bare 5 ka kn kc rune sa sn sc pl cap name mn mx lz _).mono ?_
  rintro e w1 ⟨rfl,hB⟩
  obtain ⟨sa',sn',sc',hb,hsn⟩:=bareC_form 5 rune sa sn sc pl cap name mn mx lz
  rw [hb]
  have HB:=hid hB;clear hB hb
  unfold bareOk at hyes
  rw [← hsn] at hyes
  have HSN:=hid hsn;clear hsn
  generalize (if (5:Int)=3 then rune else 0)=r' at hyes ⊢
  generalize (if (5:Int)=5 then pl else 0)=p' at hyes ⊢
  generalize (if (5:Int)=6 then cap else 0)=c' at hyes ⊢
  generalize (if (5:Int)=6 then name else (⟨#[]⟩:ByteArray))=n' at hyes ⊢
  generalize (if (5:Int)=10 then mn else 0)=mn' at hyes ⊢
  generalize (if (5:Int)=10 then mx else 0)=mx' at hyes ⊢
  generalize (if (5:Int)=7∨(5:Int)=8∨(5:Int)=9∨(5:Int)=10 then lz else false)=l' at hyes ⊢
  have hsz:w.heap.size < w1.heap.size:=by have:=HB.out.size;simp only [World.size_alloc] at this;omega
  have ht:=(Blk.below (Blk.new w [.int .i64 5,.slice ka kn kc,.int .i32 rune,.slice sa sn sc,.int .i64 pl,.int .i64 cap,.string name,.int .i64 mn,.int .i64 mx,.bool lz] 29) HB.out (by simp))
  have t0:=Blk.cell ht (j:=0) rfl;have t1:=Blk.cell ht (j:=1) rfl;have t2:=Blk.cell ht (j:=2) rfl;have t3:=Blk.cell ht (j:=3) rfl;have t4:=Blk.cell ht (j:=4) rfl
  have t5:=Blk.cell ht (j:=5) rfl;have t6:=Blk.cell ht (j:=6) rfl;have t7:=Blk.cell ht (j:=7) rfl;have t8:=Blk.cell ht (j:=8) rfl;have t9:=Blk.cell ht (j:=9) rfl
  clear ht
  have B0:=hid (show Below w.heap.size w w1 from ((Below.refl _ w).alloc (Nat.le_refl _) _).trans (HB.out.mono (by simp)))
  clear HB
  simp only [Bool.and_eq_true,decide_eq_true_eq] at hyes
  obtain ⟨⟨⟨⟨⟨⟨⟨k1,k2⟩,k3⟩,k4⟩,k5⟩,k6⟩,k7⟩,k8⟩:=hyes
  subst k1 k2 k3 k4 k5 k6 k7 k8
  have B1:=hid (show ∀ o,Below w.heap.size w (w1.alloc o) from fun o=>B0.out.alloc (by omega) o)
  by_cases q1:kn=0
  · subst q1
    obtain ⟨D,hD⟩:∃ D,decide (p' ∈ ([1,2,4,8,16,32]:List Int))=D:=⟨_,rfl⟩
    have HK:=hid (show kindOk 5 0 r' sn' so p' n' mn' mx'=D by rw [← hD];unfold kindOk;simp)
    have HD:=hid hD;clear hD
    clear HSET
    go_wp2_with fail
    have hn:=Blk.new (w1.alloc (.cells #[.int .i64 5,.slice none 0 0,.int .i32 r',.slice sa' sn' sc',.int .i64 p',.int .i64 c',.string n',.int .i64 mn',.int .i64 mx',.bool l'] 29)) [.int .i64 1,.int .i64 2,.int .i64 4,.int .i64 8,.int .i64 16,.int .i64 32] 27
    rw [World.size_alloc] at hn
    refine (contains_six _ p' _ _ hn).mono ?_
    clear hn
    rintro e w2 ⟨rfl,rfl⟩
    rw [HD.out]
    go_wp2_with fail
    go_ret
    exact ⟨by rw [HK.out];rfl,(B1.out _).alloc (by simp;omega) _⟩
  · have q1':((kn:Int) == 0)=false:=by simpa using q1
    have HK:=hid (show kindOk 5 kn r' sn' so p' n' mn' mx'=false by unfold kindOk;simp [q1])
    clear HSET
    go_wp2_with fail
    go_ret
    exact ⟨by rw [HK.out];rfl,B1.out _⟩
end Go.Proofs.YtnhnldmldnhaoaaGreatDoor
