/- classes.Posix: the set of a name between colons. (Printed by gen_posix.py.) -/
import Derived.Test.YtnhnldmldnhaoaaGreatDoorSEscGo
set_option maxRecDepth 100000
set_option maxHeartbeats 16000000
open Go.Lib (hid)
namespace Go.Proofs.YtnhnldmldnhaoaaGreatDoor
open Go Go.RowKit Go.Proofs Go.Shelf
theorem posix_alnum (name:ByteArray) (turn:Bool) (w:World) (h1:Lib.hasPrefix name.data.toList [94]=turn) (h2:Lib.trimPrefix name.data.toList [94]=[97,108,110,117,109]) :
    Calls Tryz.prog 166 #[.string name] w (PropR w (some fun c=>memR [(48,57),(65,90),(97,122)] c != turn)):=by
  have HC:=hid (show ∀ W:World,Calls Tryz.prog 160 #[.string name,.string ⟨#[94]⟩] W fun e w'=>e = .returned (.tuple #[.string ⟨#[97,108,110,117,109]⟩,.bool turn])∧w'=W from fun W=>
    (Tryz.strings_CutPrefix name ⟨#[94]⟩ W).mono fun e w' h=>by obtain ⟨rfl,rfl⟩:=h;exact ⟨by rw [show (⟨#[94]⟩:ByteArray).data.toList=[94] from rfl,h1,h2],rfl⟩)
  clear h1 h2
  have HL:=hid (Laid.lit w [(48,57),(65,90),(97,122)] (flatR [(48,57),(65,90),(97,122)]).toArray rfl (by decide))
  have HB:=hid ((Below.refl w.heap.size w).alloc (Nat.le_refl _) (.cells (flatR [(48,57),(65,90),(97,122)]).toArray 61))
  have hr:RangesV (w.alloc (.cells (flatR [(48,57),(65,90),(97,122)]).toArray 61)) (w.heap.size+1) [(48,57),(65,90),(97,122)] (some ⟨w.heap.size,0,none⟩) 3 3:=⟨rfl,⟨Nat.le_refl _,by omega⟩,.inr ⟨_,_,rfl,by omega,RangesAt.of_cells _ 0 fun j hj=>⟨by rw [Nat.zero_add];exact (Blk.new w (flatR [(48,57),(65,90),(97,122)]) 61).cell (flatR_get _ j hj).1,by rw [Nat.zero_add];exact (Blk.new w (flatR [(48,57),(65,90),(97,122)]) 61).cell (flatR_get _ j hj).2⟩⟩⟩
  have HNOT:=hid (turned_not _ _ _ _ _ _ hr (by simp) (by decide))
  have HSAME:=hid (turned_same (some ⟨w.heap.size,0,none⟩) 3 3 (w.alloc (.cells (flatR [(48,57),(65,90),(97,122)]).toArray 61)))
  clear hr
  cases turn
  · go_enter Tryz.func166, Tryz.ntmps166
    go_wp2_with fail
    refine (HC.out w).mono ?_
    rintro e w1 ⟨rfl,rfl⟩
    go_wp2_with fail
    refine (HSAME.out).mono ?_
    rintro e w3 ⟨rfl,hb3⟩
    have HB3:=hid hb3;clear hb3
    go_wp2_with fail
    go_ret2
    refine ⟨_,[(48,57),(65,90),(97,122)],rfl,?_,(IsSet.of_right (by decide)).congr (fun c _ _=>by simp),by decide,HB.out.trans (HB3.out.mono HB.out.size)⟩
    exact HL.out.kept (grownBy_below HB3.out none) (by simp [Value.ownBlock])
  · go_enter Tryz.func166, Tryz.ntmps166
    go_wp2_with fail
    refine (HC.out w).mono ?_
    rintro e w1 ⟨rfl,rfl⟩
    go_wp2_with fail
    refine (HNOT.out).mono ?_
    rintro e w3 hh
    obtain ⟨v3,out3,rfl,hh⟩:=hh
    have H3:=hid hh;clear hh
    go_wp2_with fail
    go_ret2
    exact TurnR.prop ⟨v3,out3,rfl,H3.out⟩ HB.out (by decide) (fun c _ _=>by simp)
theorem posix_alpha (name:ByteArray) (turn:Bool) (w:World) (h1:Lib.hasPrefix name.data.toList [94]=turn) (h2:Lib.trimPrefix name.data.toList [94]=[97,108,112,104,97]) :
    Calls Tryz.prog 166 #[.string name] w (PropR w (some fun c=>memR [(65,90),(97,122)] c != turn)):=by
  have HC:=hid (show ∀ W:World,Calls Tryz.prog 160 #[.string name,.string ⟨#[94]⟩] W fun e w'=>e = .returned (.tuple #[.string ⟨#[97,108,112,104,97]⟩,.bool turn])∧w'=W from fun W=>
    (Tryz.strings_CutPrefix name ⟨#[94]⟩ W).mono fun e w' h=>by obtain ⟨rfl,rfl⟩:=h;exact ⟨by rw [show (⟨#[94]⟩:ByteArray).data.toList=[94] from rfl,h1,h2],rfl⟩)
  clear h1 h2
  have HL:=hid (Laid.lit w [(65,90),(97,122)] (flatR [(65,90),(97,122)]).toArray rfl (by decide))
  have HB:=hid ((Below.refl w.heap.size w).alloc (Nat.le_refl _) (.cells (flatR [(65,90),(97,122)]).toArray 61))
  have hr:RangesV (w.alloc (.cells (flatR [(65,90),(97,122)]).toArray 61)) (w.heap.size+1) [(65,90),(97,122)] (some ⟨w.heap.size,0,none⟩) 2 2:=⟨rfl,⟨Nat.le_refl _,by omega⟩,.inr ⟨_,_,rfl,by omega,RangesAt.of_cells _ 0 fun j hj=>⟨by rw [Nat.zero_add];exact (Blk.new w (flatR [(65,90),(97,122)]) 61).cell (flatR_get _ j hj).1,by rw [Nat.zero_add];exact (Blk.new w (flatR [(65,90),(97,122)]) 61).cell (flatR_get _ j hj).2⟩⟩⟩
  have HNOT:=hid (turned_not _ _ _ _ _ _ hr (by simp) (by decide))
  have HSAME:=hid (turned_same (some ⟨w.heap.size,0,none⟩) 2 2 (w.alloc (.cells (flatR [(65,90),(97,122)]).toArray 61)))
  clear hr
  cases turn
  · go_enter Tryz.func166, Tryz.ntmps166
    go_wp2_with fail
    refine (HC.out w).mono ?_
    rintro e w1 ⟨rfl,rfl⟩
    go_wp2_with fail
    refine (HSAME.out).mono ?_
    rintro e w3 ⟨rfl,hb3⟩
    have HB3:=hid hb3;clear hb3
    go_wp2_with fail
    go_ret2
    refine ⟨_,[(65,90),(97,122)],rfl,?_,(IsSet.of_right (by decide)).congr (fun c _ _=>by simp),by decide,HB.out.trans (HB3.out.mono HB.out.size)⟩
    exact HL.out.kept (grownBy_below HB3.out none) (by simp [Value.ownBlock])
  · go_enter Tryz.func166, Tryz.ntmps166
    go_wp2_with fail
    refine (HC.out w).mono ?_
    rintro e w1 ⟨rfl,rfl⟩
    go_wp2_with fail
    refine (HNOT.out).mono ?_
    rintro e w3 hh
    obtain ⟨v3,out3,rfl,hh⟩:=hh
    have H3:=hid hh;clear hh
    go_wp2_with fail
    go_ret2
    exact TurnR.prop ⟨v3,out3,rfl,H3.out⟩ HB.out (by decide) (fun c _ _=>by simp)
theorem posix_ascii (name:ByteArray) (turn:Bool) (w:World) (h1:Lib.hasPrefix name.data.toList [94]=turn) (h2:Lib.trimPrefix name.data.toList [94]=[97,115,99,105,105]) :
    Calls Tryz.prog 166 #[.string name] w (PropR w (some fun c=>memR [(0,127)] c != turn)):=by
  have HC:=hid (show ∀ W:World,Calls Tryz.prog 160 #[.string name,.string ⟨#[94]⟩] W fun e w'=>e = .returned (.tuple #[.string ⟨#[97,115,99,105,105]⟩,.bool turn])∧w'=W from fun W=>
    (Tryz.strings_CutPrefix name ⟨#[94]⟩ W).mono fun e w' h=>by obtain ⟨rfl,rfl⟩:=h;exact ⟨by rw [show (⟨#[94]⟩:ByteArray).data.toList=[94] from rfl,h1,h2],rfl⟩)
  clear h1 h2
  have HL:=hid (Laid.lit w [(0,127)] (flatR [(0,127)]).toArray rfl (by decide))
  have HB:=hid ((Below.refl w.heap.size w).alloc (Nat.le_refl _) (.cells (flatR [(0,127)]).toArray 61))
  have hr:RangesV (w.alloc (.cells (flatR [(0,127)]).toArray 61)) (w.heap.size+1) [(0,127)] (some ⟨w.heap.size,0,none⟩) 1 1:=⟨rfl,⟨Nat.le_refl _,by omega⟩,.inr ⟨_,_,rfl,by omega,RangesAt.of_cells _ 0 fun j hj=>⟨by rw [Nat.zero_add];exact (Blk.new w (flatR [(0,127)]) 61).cell (flatR_get _ j hj).1,by rw [Nat.zero_add];exact (Blk.new w (flatR [(0,127)]) 61).cell (flatR_get _ j hj).2⟩⟩⟩
  have HNOT:=hid (turned_not _ _ _ _ _ _ hr (by simp) (by decide))
  have HSAME:=hid (turned_same (some ⟨w.heap.size,0,none⟩) 1 1 (w.alloc (.cells (flatR [(0,127)]).toArray 61)))
  clear hr
  cases turn
  · go_enter Tryz.func166, Tryz.ntmps166
    go_wp2_with fail
    refine (HC.out w).mono ?_
    rintro e w1 ⟨rfl,rfl⟩
    go_wp2_with fail
    refine (HSAME.out).mono ?_
    rintro e w3 ⟨rfl,hb3⟩
    have HB3:=hid hb3;clear hb3
    go_wp2_with fail
    go_ret2
    refine ⟨_,[(0,127)],rfl,?_,(IsSet.of_right (by decide)).congr (fun c _ _=>by simp),by decide,HB.out.trans (HB3.out.mono HB.out.size)⟩
    exact HL.out.kept (grownBy_below HB3.out none) (by simp [Value.ownBlock])
  · go_enter Tryz.func166, Tryz.ntmps166
    go_wp2_with fail
    refine (HC.out w).mono ?_
    rintro e w1 ⟨rfl,rfl⟩
    go_wp2_with fail
    refine (HNOT.out).mono ?_
    rintro e w3 hh
    obtain ⟨v3,out3,rfl,hh⟩:=hh
    have H3:=hid hh;clear hh
    go_wp2_with fail
    go_ret2
    exact TurnR.prop ⟨v3,out3,rfl,H3.out⟩ HB.out (by decide) (fun c _ _=>by simp)
theorem posix_blank (name:ByteArray) (turn:Bool) (w:World) (h1:Lib.hasPrefix name.data.toList [94]=turn) (h2:Lib.trimPrefix name.data.toList [94]=[98,108,97,110,107]) :
    Calls Tryz.prog 166 #[.string name] w (PropR w (some fun c=>memR [(9,9),(32,32)] c != turn)):=by
  have HC:=hid (show ∀ W:World,Calls Tryz.prog 160 #[.string name,.string ⟨#[94]⟩] W fun e w'=>e = .returned (.tuple #[.string ⟨#[98,108,97,110,107]⟩,.bool turn])∧w'=W from fun W=>
    (Tryz.strings_CutPrefix name ⟨#[94]⟩ W).mono fun e w' h=>by obtain ⟨rfl,rfl⟩:=h;exact ⟨by rw [show (⟨#[94]⟩:ByteArray).data.toList=[94] from rfl,h1,h2],rfl⟩)
  clear h1 h2
  have HL:=hid (Laid.lit w [(9,9),(32,32)] (flatR [(9,9),(32,32)]).toArray rfl (by decide))
  have HB:=hid ((Below.refl w.heap.size w).alloc (Nat.le_refl _) (.cells (flatR [(9,9),(32,32)]).toArray 61))
  have hr:RangesV (w.alloc (.cells (flatR [(9,9),(32,32)]).toArray 61)) (w.heap.size+1) [(9,9),(32,32)] (some ⟨w.heap.size,0,none⟩) 2 2:=⟨rfl,⟨Nat.le_refl _,by omega⟩,.inr ⟨_,_,rfl,by omega,RangesAt.of_cells _ 0 fun j hj=>⟨by rw [Nat.zero_add];exact (Blk.new w (flatR [(9,9),(32,32)]) 61).cell (flatR_get _ j hj).1,by rw [Nat.zero_add];exact (Blk.new w (flatR [(9,9),(32,32)]) 61).cell (flatR_get _ j hj).2⟩⟩⟩
  have HNOT:=hid (turned_not _ _ _ _ _ _ hr (by simp) (by decide))
  have HSAME:=hid (turned_same (some ⟨w.heap.size,0,none⟩) 2 2 (w.alloc (.cells (flatR [(9,9),(32,32)]).toArray 61)))
  clear hr
  cases turn
  · go_enter Tryz.func166, Tryz.ntmps166
    go_wp2_with fail
    refine (HC.out w).mono ?_
    rintro e w1 ⟨rfl,rfl⟩
    go_wp2_with fail
    refine (HSAME.out).mono ?_
    rintro e w3 ⟨rfl,hb3⟩
    have HB3:=hid hb3;clear hb3
    go_wp2_with fail
    go_ret2
    refine ⟨_,[(9,9),(32,32)],rfl,?_,(IsSet.of_right (by decide)).congr (fun c _ _=>by simp),by decide,HB.out.trans (HB3.out.mono HB.out.size)⟩
    exact HL.out.kept (grownBy_below HB3.out none) (by simp [Value.ownBlock])
  · go_enter Tryz.func166, Tryz.ntmps166
    go_wp2_with fail
    refine (HC.out w).mono ?_
    rintro e w1 ⟨rfl,rfl⟩
    go_wp2_with fail
    refine (HNOT.out).mono ?_
    rintro e w3 hh
    obtain ⟨v3,out3,rfl,hh⟩:=hh
    have H3:=hid hh;clear hh
    go_wp2_with fail
    go_ret2
    exact TurnR.prop ⟨v3,out3,rfl,H3.out⟩ HB.out (by decide) (fun c _ _=>by simp)
theorem posix_cntrl (name:ByteArray) (turn:Bool) (w:World) (h1:Lib.hasPrefix name.data.toList [94]=turn) (h2:Lib.trimPrefix name.data.toList [94]=[99,110,116,114,108]) :
    Calls Tryz.prog 166 #[.string name] w (PropR w (some fun c=>memR [(0,31),(127,127)] c != turn)):=by
  have HC:=hid (show ∀ W:World,Calls Tryz.prog 160 #[.string name,.string ⟨#[94]⟩] W fun e w'=>e = .returned (.tuple #[.string ⟨#[99,110,116,114,108]⟩,.bool turn])∧w'=W from fun W=>
    (Tryz.strings_CutPrefix name ⟨#[94]⟩ W).mono fun e w' h=>by obtain ⟨rfl,rfl⟩:=h;exact ⟨by rw [show (⟨#[94]⟩:ByteArray).data.toList=[94] from rfl,h1,h2],rfl⟩)
  clear h1 h2
  have HL:=hid (Laid.lit w [(0,31),(127,127)] (flatR [(0,31),(127,127)]).toArray rfl (by decide))
  have HB:=hid ((Below.refl w.heap.size w).alloc (Nat.le_refl _) (.cells (flatR [(0,31),(127,127)]).toArray 61))
  have hr:RangesV (w.alloc (.cells (flatR [(0,31),(127,127)]).toArray 61)) (w.heap.size+1) [(0,31),(127,127)] (some ⟨w.heap.size,0,none⟩) 2 2:=⟨rfl,⟨Nat.le_refl _,by omega⟩,.inr ⟨_,_,rfl,by omega,RangesAt.of_cells _ 0 fun j hj=>⟨by rw [Nat.zero_add];exact (Blk.new w (flatR [(0,31),(127,127)]) 61).cell (flatR_get _ j hj).1,by rw [Nat.zero_add];exact (Blk.new w (flatR [(0,31),(127,127)]) 61).cell (flatR_get _ j hj).2⟩⟩⟩
  have HNOT:=hid (turned_not _ _ _ _ _ _ hr (by simp) (by decide))
  have HSAME:=hid (turned_same (some ⟨w.heap.size,0,none⟩) 2 2 (w.alloc (.cells (flatR [(0,31),(127,127)]).toArray 61)))
  clear hr
  cases turn
  · go_enter Tryz.func166, Tryz.ntmps166
    go_wp2_with fail
    refine (HC.out w).mono ?_
    rintro e w1 ⟨rfl,rfl⟩
    go_wp2_with fail
    refine (HSAME.out).mono ?_
    rintro e w3 ⟨rfl,hb3⟩
    have HB3:=hid hb3;clear hb3
    go_wp2_with fail
    go_ret2
    refine ⟨_,[(0,31),(127,127)],rfl,?_,(IsSet.of_right (by decide)).congr (fun c _ _=>by simp),by decide,HB.out.trans (HB3.out.mono HB.out.size)⟩
    exact HL.out.kept (grownBy_below HB3.out none) (by simp [Value.ownBlock])
  · go_enter Tryz.func166, Tryz.ntmps166
    go_wp2_with fail
    refine (HC.out w).mono ?_
    rintro e w1 ⟨rfl,rfl⟩
    go_wp2_with fail
    refine (HNOT.out).mono ?_
    rintro e w3 hh
    obtain ⟨v3,out3,rfl,hh⟩:=hh
    have H3:=hid hh;clear hh
    go_wp2_with fail
    go_ret2
    exact TurnR.prop ⟨v3,out3,rfl,H3.out⟩ HB.out (by decide) (fun c _ _=>by simp)
theorem posix_digit (name:ByteArray) (turn:Bool) (w:World) (h1:Lib.hasPrefix name.data.toList [94]=turn) (h2:Lib.trimPrefix name.data.toList [94]=[100,105,103,105,116]) :
    Calls Tryz.prog 166 #[.string name] w (PropR w (some fun c=>memR [(48,57)] c != turn)):=by
  have HC:=hid (show ∀ W:World,Calls Tryz.prog 160 #[.string name,.string ⟨#[94]⟩] W fun e w'=>e = .returned (.tuple #[.string ⟨#[100,105,103,105,116]⟩,.bool turn])∧w'=W from fun W=>
    (Tryz.strings_CutPrefix name ⟨#[94]⟩ W).mono fun e w' h=>by obtain ⟨rfl,rfl⟩:=h;exact ⟨by rw [show (⟨#[94]⟩:ByteArray).data.toList=[94] from rfl,h1,h2],rfl⟩)
  clear h1 h2
  have HL:=hid (Laid.lit w [(48,57)] (flatR [(48,57)]).toArray rfl (by decide))
  have HB:=hid ((Below.refl w.heap.size w).alloc (Nat.le_refl _) (.cells (flatR [(48,57)]).toArray 61))
  have hr:RangesV (w.alloc (.cells (flatR [(48,57)]).toArray 61)) (w.heap.size+1) [(48,57)] (some ⟨w.heap.size,0,none⟩) 1 1:=⟨rfl,⟨Nat.le_refl _,by omega⟩,.inr ⟨_,_,rfl,by omega,RangesAt.of_cells _ 0 fun j hj=>⟨by rw [Nat.zero_add];exact (Blk.new w (flatR [(48,57)]) 61).cell (flatR_get _ j hj).1,by rw [Nat.zero_add];exact (Blk.new w (flatR [(48,57)]) 61).cell (flatR_get _ j hj).2⟩⟩⟩
  have HNOT:=hid (turned_not _ _ _ _ _ _ hr (by simp) (by decide))
  have HSAME:=hid (turned_same (some ⟨w.heap.size,0,none⟩) 1 1 (w.alloc (.cells (flatR [(48,57)]).toArray 61)))
  clear hr
  cases turn
  · go_enter Tryz.func166, Tryz.ntmps166
    go_wp2_with fail
    refine (HC.out w).mono ?_
    rintro e w1 ⟨rfl,rfl⟩
    go_wp2_with fail
    refine (HSAME.out).mono ?_
    rintro e w3 ⟨rfl,hb3⟩
    have HB3:=hid hb3;clear hb3
    go_wp2_with fail
    go_ret2
    refine ⟨_,[(48,57)],rfl,?_,(IsSet.of_right (by decide)).congr (fun c _ _=>by simp),by decide,HB.out.trans (HB3.out.mono HB.out.size)⟩
    exact HL.out.kept (grownBy_below HB3.out none) (by simp [Value.ownBlock])
  · go_enter Tryz.func166, Tryz.ntmps166
    go_wp2_with fail
    refine (HC.out w).mono ?_
    rintro e w1 ⟨rfl,rfl⟩
    go_wp2_with fail
    refine (HNOT.out).mono ?_
    rintro e w3 hh
    obtain ⟨v3,out3,rfl,hh⟩:=hh
    have H3:=hid hh;clear hh
    go_wp2_with fail
    go_ret2
    exact TurnR.prop ⟨v3,out3,rfl,H3.out⟩ HB.out (by decide) (fun c _ _=>by simp)
theorem posix_graph (name:ByteArray) (turn:Bool) (w:World) (h1:Lib.hasPrefix name.data.toList [94]=turn) (h2:Lib.trimPrefix name.data.toList [94]=[103,114,97,112,104]) :
    Calls Tryz.prog 166 #[.string name] w (PropR w (some fun c=>memR [(33,126)] c != turn)):=by
  have HC:=hid (show ∀ W:World,Calls Tryz.prog 160 #[.string name,.string ⟨#[94]⟩] W fun e w'=>e = .returned (.tuple #[.string ⟨#[103,114,97,112,104]⟩,.bool turn])∧w'=W from fun W=>
    (Tryz.strings_CutPrefix name ⟨#[94]⟩ W).mono fun e w' h=>by obtain ⟨rfl,rfl⟩:=h;exact ⟨by rw [show (⟨#[94]⟩:ByteArray).data.toList=[94] from rfl,h1,h2],rfl⟩)
  clear h1 h2
  have HL:=hid (Laid.lit w [(33,126)] (flatR [(33,126)]).toArray rfl (by decide))
  have HB:=hid ((Below.refl w.heap.size w).alloc (Nat.le_refl _) (.cells (flatR [(33,126)]).toArray 61))
  have hr:RangesV (w.alloc (.cells (flatR [(33,126)]).toArray 61)) (w.heap.size+1) [(33,126)] (some ⟨w.heap.size,0,none⟩) 1 1:=⟨rfl,⟨Nat.le_refl _,by omega⟩,.inr ⟨_,_,rfl,by omega,RangesAt.of_cells _ 0 fun j hj=>⟨by rw [Nat.zero_add];exact (Blk.new w (flatR [(33,126)]) 61).cell (flatR_get _ j hj).1,by rw [Nat.zero_add];exact (Blk.new w (flatR [(33,126)]) 61).cell (flatR_get _ j hj).2⟩⟩⟩
  have HNOT:=hid (turned_not _ _ _ _ _ _ hr (by simp) (by decide))
  have HSAME:=hid (turned_same (some ⟨w.heap.size,0,none⟩) 1 1 (w.alloc (.cells (flatR [(33,126)]).toArray 61)))
  clear hr
  cases turn
  · go_enter Tryz.func166, Tryz.ntmps166
    go_wp2_with fail
    refine (HC.out w).mono ?_
    rintro e w1 ⟨rfl,rfl⟩
    go_wp2_with fail
    refine (HSAME.out).mono ?_
    rintro e w3 ⟨rfl,hb3⟩
    have HB3:=hid hb3;clear hb3
    go_wp2_with fail
    go_ret2
    refine ⟨_,[(33,126)],rfl,?_,(IsSet.of_right (by decide)).congr (fun c _ _=>by simp),by decide,HB.out.trans (HB3.out.mono HB.out.size)⟩
    exact HL.out.kept (grownBy_below HB3.out none) (by simp [Value.ownBlock])
  · go_enter Tryz.func166, Tryz.ntmps166
    go_wp2_with fail
    refine (HC.out w).mono ?_
    rintro e w1 ⟨rfl,rfl⟩
    go_wp2_with fail
    refine (HNOT.out).mono ?_
    rintro e w3 hh
    obtain ⟨v3,out3,rfl,hh⟩:=hh
    have H3:=hid hh;clear hh
    go_wp2_with fail
    go_ret2
    exact TurnR.prop ⟨v3,out3,rfl,H3.out⟩ HB.out (by decide) (fun c _ _=>by simp)
theorem posix_lower (name:ByteArray) (turn:Bool) (w:World) (h1:Lib.hasPrefix name.data.toList [94]=turn) (h2:Lib.trimPrefix name.data.toList [94]=[108,111,119,101,114]) :
    Calls Tryz.prog 166 #[.string name] w (PropR w (some fun c=>memR [(97,122)] c != turn)):=by
  have HC:=hid (show ∀ W:World,Calls Tryz.prog 160 #[.string name,.string ⟨#[94]⟩] W fun e w'=>e = .returned (.tuple #[.string ⟨#[108,111,119,101,114]⟩,.bool turn])∧w'=W from fun W=>
    (Tryz.strings_CutPrefix name ⟨#[94]⟩ W).mono fun e w' h=>by obtain ⟨rfl,rfl⟩:=h;exact ⟨by rw [show (⟨#[94]⟩:ByteArray).data.toList=[94] from rfl,h1,h2],rfl⟩)
  clear h1 h2
  have HL:=hid (Laid.lit w [(97,122)] (flatR [(97,122)]).toArray rfl (by decide))
  have HB:=hid ((Below.refl w.heap.size w).alloc (Nat.le_refl _) (.cells (flatR [(97,122)]).toArray 61))
  have hr:RangesV (w.alloc (.cells (flatR [(97,122)]).toArray 61)) (w.heap.size+1) [(97,122)] (some ⟨w.heap.size,0,none⟩) 1 1:=⟨rfl,⟨Nat.le_refl _,by omega⟩,.inr ⟨_,_,rfl,by omega,RangesAt.of_cells _ 0 fun j hj=>⟨by rw [Nat.zero_add];exact (Blk.new w (flatR [(97,122)]) 61).cell (flatR_get _ j hj).1,by rw [Nat.zero_add];exact (Blk.new w (flatR [(97,122)]) 61).cell (flatR_get _ j hj).2⟩⟩⟩
  have HNOT:=hid (turned_not _ _ _ _ _ _ hr (by simp) (by decide))
  have HSAME:=hid (turned_same (some ⟨w.heap.size,0,none⟩) 1 1 (w.alloc (.cells (flatR [(97,122)]).toArray 61)))
  clear hr
  cases turn
  · go_enter Tryz.func166, Tryz.ntmps166
    go_wp2_with fail
    refine (HC.out w).mono ?_
    rintro e w1 ⟨rfl,rfl⟩
    go_wp2_with fail
    refine (HSAME.out).mono ?_
    rintro e w3 ⟨rfl,hb3⟩
    have HB3:=hid hb3;clear hb3
    go_wp2_with fail
    go_ret2
    refine ⟨_,[(97,122)],rfl,?_,(IsSet.of_right (by decide)).congr (fun c _ _=>by simp),by decide,HB.out.trans (HB3.out.mono HB.out.size)⟩
    exact HL.out.kept (grownBy_below HB3.out none) (by simp [Value.ownBlock])
  · go_enter Tryz.func166, Tryz.ntmps166
    go_wp2_with fail
    refine (HC.out w).mono ?_
    rintro e w1 ⟨rfl,rfl⟩
    go_wp2_with fail
    refine (HNOT.out).mono ?_
    rintro e w3 hh
    obtain ⟨v3,out3,rfl,hh⟩:=hh
    have H3:=hid hh;clear hh
    go_wp2_with fail
    go_ret2
    exact TurnR.prop ⟨v3,out3,rfl,H3.out⟩ HB.out (by decide) (fun c _ _=>by simp)
theorem posix_print (name:ByteArray) (turn:Bool) (w:World) (h1:Lib.hasPrefix name.data.toList [94]=turn) (h2:Lib.trimPrefix name.data.toList [94]=[112,114,105,110,116]) :
    Calls Tryz.prog 166 #[.string name] w (PropR w (some fun c=>memR [(32,126)] c != turn)):=by
  have HC:=hid (show ∀ W:World,Calls Tryz.prog 160 #[.string name,.string ⟨#[94]⟩] W fun e w'=>e = .returned (.tuple #[.string ⟨#[112,114,105,110,116]⟩,.bool turn])∧w'=W from fun W=>
    (Tryz.strings_CutPrefix name ⟨#[94]⟩ W).mono fun e w' h=>by obtain ⟨rfl,rfl⟩:=h;exact ⟨by rw [show (⟨#[94]⟩:ByteArray).data.toList=[94] from rfl,h1,h2],rfl⟩)
  clear h1 h2
  have HL:=hid (Laid.lit w [(32,126)] (flatR [(32,126)]).toArray rfl (by decide))
  have HB:=hid ((Below.refl w.heap.size w).alloc (Nat.le_refl _) (.cells (flatR [(32,126)]).toArray 61))
  have hr:RangesV (w.alloc (.cells (flatR [(32,126)]).toArray 61)) (w.heap.size+1) [(32,126)] (some ⟨w.heap.size,0,none⟩) 1 1:=⟨rfl,⟨Nat.le_refl _,by omega⟩,.inr ⟨_,_,rfl,by omega,RangesAt.of_cells _ 0 fun j hj=>⟨by rw [Nat.zero_add];exact (Blk.new w (flatR [(32,126)]) 61).cell (flatR_get _ j hj).1,by rw [Nat.zero_add];exact (Blk.new w (flatR [(32,126)]) 61).cell (flatR_get _ j hj).2⟩⟩⟩
  have HNOT:=hid (turned_not _ _ _ _ _ _ hr (by simp) (by decide))
  have HSAME:=hid (turned_same (some ⟨w.heap.size,0,none⟩) 1 1 (w.alloc (.cells (flatR [(32,126)]).toArray 61)))
  clear hr
  cases turn
  · go_enter Tryz.func166, Tryz.ntmps166
    go_wp2_with fail
    refine (HC.out w).mono ?_
    rintro e w1 ⟨rfl,rfl⟩
    go_wp2_with fail
    refine (HSAME.out).mono ?_
    rintro e w3 ⟨rfl,hb3⟩
    have HB3:=hid hb3;clear hb3
    go_wp2_with fail
    go_ret2
    refine ⟨_,[(32,126)],rfl,?_,(IsSet.of_right (by decide)).congr (fun c _ _=>by simp),by decide,HB.out.trans (HB3.out.mono HB.out.size)⟩
    exact HL.out.kept (grownBy_below HB3.out none) (by simp [Value.ownBlock])
  · go_enter Tryz.func166, Tryz.ntmps166
    go_wp2_with fail
    refine (HC.out w).mono ?_
    rintro e w1 ⟨rfl,rfl⟩
    go_wp2_with fail
    refine (HNOT.out).mono ?_
    rintro e w3 hh
    obtain ⟨v3,out3,rfl,hh⟩:=hh
    have H3:=hid hh;clear hh
    go_wp2_with fail
    go_ret2
    exact TurnR.prop ⟨v3,out3,rfl,H3.out⟩ HB.out (by decide) (fun c _ _=>by simp)
theorem posix_punct (name:ByteArray) (turn:Bool) (w:World) (h1:Lib.hasPrefix name.data.toList [94]=turn) (h2:Lib.trimPrefix name.data.toList [94]=[112,117,110,99,116]) :
    Calls Tryz.prog 166 #[.string name] w (PropR w (some fun c=>memR [(33,47),(58,64),(91,96),(123,126)] c != turn)):=by
  have HC:=hid (show ∀ W:World,Calls Tryz.prog 160 #[.string name,.string ⟨#[94]⟩] W fun e w'=>e = .returned (.tuple #[.string ⟨#[112,117,110,99,116]⟩,.bool turn])∧w'=W from fun W=>
    (Tryz.strings_CutPrefix name ⟨#[94]⟩ W).mono fun e w' h=>by obtain ⟨rfl,rfl⟩:=h;exact ⟨by rw [show (⟨#[94]⟩:ByteArray).data.toList=[94] from rfl,h1,h2],rfl⟩)
  clear h1 h2
  have HL:=hid (Laid.lit w [(33,47),(58,64),(91,96),(123,126)] (flatR [(33,47),(58,64),(91,96),(123,126)]).toArray rfl (by decide))
  have HB:=hid ((Below.refl w.heap.size w).alloc (Nat.le_refl _) (.cells (flatR [(33,47),(58,64),(91,96),(123,126)]).toArray 61))
  have hr:RangesV (w.alloc (.cells (flatR [(33,47),(58,64),(91,96),(123,126)]).toArray 61)) (w.heap.size+1) [(33,47),(58,64),(91,96),(123,126)] (some ⟨w.heap.size,0,none⟩) 4 4:=⟨rfl,⟨Nat.le_refl _,by omega⟩,.inr ⟨_,_,rfl,by omega,RangesAt.of_cells _ 0 fun j hj=>⟨by rw [Nat.zero_add];exact (Blk.new w (flatR [(33,47),(58,64),(91,96),(123,126)]) 61).cell (flatR_get _ j hj).1,by rw [Nat.zero_add];exact (Blk.new w (flatR [(33,47),(58,64),(91,96),(123,126)]) 61).cell (flatR_get _ j hj).2⟩⟩⟩
  have HNOT:=hid (turned_not _ _ _ _ _ _ hr (by simp) (by decide))
  have HSAME:=hid (turned_same (some ⟨w.heap.size,0,none⟩) 4 4 (w.alloc (.cells (flatR [(33,47),(58,64),(91,96),(123,126)]).toArray 61)))
  clear hr
  cases turn
  · go_enter Tryz.func166, Tryz.ntmps166
    go_wp2_with fail
    refine (HC.out w).mono ?_
    rintro e w1 ⟨rfl,rfl⟩
    go_wp2_with fail
    refine (HSAME.out).mono ?_
    rintro e w3 ⟨rfl,hb3⟩
    have HB3:=hid hb3;clear hb3
    go_wp2_with fail
    go_ret2
    refine ⟨_,[(33,47),(58,64),(91,96),(123,126)],rfl,?_,(IsSet.of_right (by decide)).congr (fun c _ _=>by simp),by decide,HB.out.trans (HB3.out.mono HB.out.size)⟩
    exact HL.out.kept (grownBy_below HB3.out none) (by simp [Value.ownBlock])
  · go_enter Tryz.func166, Tryz.ntmps166
    go_wp2_with fail
    refine (HC.out w).mono ?_
    rintro e w1 ⟨rfl,rfl⟩
    go_wp2_with fail
    refine (HNOT.out).mono ?_
    rintro e w3 hh
    obtain ⟨v3,out3,rfl,hh⟩:=hh
    have H3:=hid hh;clear hh
    go_wp2_with fail
    go_ret2
    exact TurnR.prop ⟨v3,out3,rfl,H3.out⟩ HB.out (by decide) (fun c _ _=>by simp)
theorem posix_space (name:ByteArray) (turn:Bool) (w:World) (h1:Lib.hasPrefix name.data.toList [94]=turn) (h2:Lib.trimPrefix name.data.toList [94]=[115,112,97,99,101]) :
    Calls Tryz.prog 166 #[.string name] w (PropR w (some fun c=>memR [(9,13),(32,32)] c != turn)):=by
  have HC:=hid (show ∀ W:World,Calls Tryz.prog 160 #[.string name,.string ⟨#[94]⟩] W fun e w'=>e = .returned (.tuple #[.string ⟨#[115,112,97,99,101]⟩,.bool turn])∧w'=W from fun W=>
    (Tryz.strings_CutPrefix name ⟨#[94]⟩ W).mono fun e w' h=>by obtain ⟨rfl,rfl⟩:=h;exact ⟨by rw [show (⟨#[94]⟩:ByteArray).data.toList=[94] from rfl,h1,h2],rfl⟩)
  clear h1 h2
  have HL:=hid (Laid.lit w [(9,13),(32,32)] (flatR [(9,13),(32,32)]).toArray rfl (by decide))
  have HB:=hid ((Below.refl w.heap.size w).alloc (Nat.le_refl _) (.cells (flatR [(9,13),(32,32)]).toArray 61))
  have hr:RangesV (w.alloc (.cells (flatR [(9,13),(32,32)]).toArray 61)) (w.heap.size+1) [(9,13),(32,32)] (some ⟨w.heap.size,0,none⟩) 2 2:=⟨rfl,⟨Nat.le_refl _,by omega⟩,.inr ⟨_,_,rfl,by omega,RangesAt.of_cells _ 0 fun j hj=>⟨by rw [Nat.zero_add];exact (Blk.new w (flatR [(9,13),(32,32)]) 61).cell (flatR_get _ j hj).1,by rw [Nat.zero_add];exact (Blk.new w (flatR [(9,13),(32,32)]) 61).cell (flatR_get _ j hj).2⟩⟩⟩
  have HNOT:=hid (turned_not _ _ _ _ _ _ hr (by simp) (by decide))
  have HSAME:=hid (turned_same (some ⟨w.heap.size,0,none⟩) 2 2 (w.alloc (.cells (flatR [(9,13),(32,32)]).toArray 61)))
  clear hr
  cases turn
  · go_enter Tryz.func166, Tryz.ntmps166
    go_wp2_with fail
    refine (HC.out w).mono ?_
    rintro e w1 ⟨rfl,rfl⟩
    go_wp2_with fail
    refine (HSAME.out).mono ?_
    rintro e w3 ⟨rfl,hb3⟩
    have HB3:=hid hb3;clear hb3
    go_wp2_with fail
    go_ret2
    refine ⟨_,[(9,13),(32,32)],rfl,?_,(IsSet.of_right (by decide)).congr (fun c _ _=>by simp),by decide,HB.out.trans (HB3.out.mono HB.out.size)⟩
    exact HL.out.kept (grownBy_below HB3.out none) (by simp [Value.ownBlock])
  · go_enter Tryz.func166, Tryz.ntmps166
    go_wp2_with fail
    refine (HC.out w).mono ?_
    rintro e w1 ⟨rfl,rfl⟩
    go_wp2_with fail
    refine (HNOT.out).mono ?_
    rintro e w3 hh
    obtain ⟨v3,out3,rfl,hh⟩:=hh
    have H3:=hid hh;clear hh
    go_wp2_with fail
    go_ret2
    exact TurnR.prop ⟨v3,out3,rfl,H3.out⟩ HB.out (by decide) (fun c _ _=>by simp)
theorem posix_upper (name:ByteArray) (turn:Bool) (w:World) (h1:Lib.hasPrefix name.data.toList [94]=turn) (h2:Lib.trimPrefix name.data.toList [94]=[117,112,112,101,114]) :
    Calls Tryz.prog 166 #[.string name] w (PropR w (some fun c=>memR [(65,90)] c != turn)):=by
  have HC:=hid (show ∀ W:World,Calls Tryz.prog 160 #[.string name,.string ⟨#[94]⟩] W fun e w'=>e = .returned (.tuple #[.string ⟨#[117,112,112,101,114]⟩,.bool turn])∧w'=W from fun W=>
    (Tryz.strings_CutPrefix name ⟨#[94]⟩ W).mono fun e w' h=>by obtain ⟨rfl,rfl⟩:=h;exact ⟨by rw [show (⟨#[94]⟩:ByteArray).data.toList=[94] from rfl,h1,h2],rfl⟩)
  clear h1 h2
  have HL:=hid (Laid.lit w [(65,90)] (flatR [(65,90)]).toArray rfl (by decide))
  have HB:=hid ((Below.refl w.heap.size w).alloc (Nat.le_refl _) (.cells (flatR [(65,90)]).toArray 61))
  have hr:RangesV (w.alloc (.cells (flatR [(65,90)]).toArray 61)) (w.heap.size+1) [(65,90)] (some ⟨w.heap.size,0,none⟩) 1 1:=⟨rfl,⟨Nat.le_refl _,by omega⟩,.inr ⟨_,_,rfl,by omega,RangesAt.of_cells _ 0 fun j hj=>⟨by rw [Nat.zero_add];exact (Blk.new w (flatR [(65,90)]) 61).cell (flatR_get _ j hj).1,by rw [Nat.zero_add];exact (Blk.new w (flatR [(65,90)]) 61).cell (flatR_get _ j hj).2⟩⟩⟩
  have HNOT:=hid (turned_not _ _ _ _ _ _ hr (by simp) (by decide))
  have HSAME:=hid (turned_same (some ⟨w.heap.size,0,none⟩) 1 1 (w.alloc (.cells (flatR [(65,90)]).toArray 61)))
  clear hr
  cases turn
  · go_enter Tryz.func166, Tryz.ntmps166
    go_wp2_with fail
    refine (HC.out w).mono ?_
    rintro e w1 ⟨rfl,rfl⟩
    go_wp2_with fail
    refine (HSAME.out).mono ?_
    rintro e w3 ⟨rfl,hb3⟩
    have HB3:=hid hb3;clear hb3
    go_wp2_with fail
    go_ret2
    refine ⟨_,[(65,90)],rfl,?_,(IsSet.of_right (by decide)).congr (fun c _ _=>by simp),by decide,HB.out.trans (HB3.out.mono HB.out.size)⟩
    exact HL.out.kept (grownBy_below HB3.out none) (by simp [Value.ownBlock])
  · go_enter Tryz.func166, Tryz.ntmps166
    go_wp2_with fail
    refine (HC.out w).mono ?_
    rintro e w1 ⟨rfl,rfl⟩
    go_wp2_with fail
    refine (HNOT.out).mono ?_
    rintro e w3 hh
    obtain ⟨v3,out3,rfl,hh⟩:=hh
    have H3:=hid hh;clear hh
    go_wp2_with fail
    go_ret2
    exact TurnR.prop ⟨v3,out3,rfl,H3.out⟩ HB.out (by decide) (fun c _ _=>by simp)
theorem posix_word (name:ByteArray) (turn:Bool) (w:World) (h1:Lib.hasPrefix name.data.toList [94]=turn) (h2:Lib.trimPrefix name.data.toList [94]=[119,111,114,100]) :
    Calls Tryz.prog 166 #[.string name] w (PropR w (some fun c=>memR [(48,57),(65,90),(95,95),(97,122)] c != turn)):=by
  have HC:=hid (show ∀ W:World,Calls Tryz.prog 160 #[.string name,.string ⟨#[94]⟩] W fun e w'=>e = .returned (.tuple #[.string ⟨#[119,111,114,100]⟩,.bool turn])∧w'=W from fun W=>
    (Tryz.strings_CutPrefix name ⟨#[94]⟩ W).mono fun e w' h=>by obtain ⟨rfl,rfl⟩:=h;exact ⟨by rw [show (⟨#[94]⟩:ByteArray).data.toList=[94] from rfl,h1,h2],rfl⟩)
  clear h1 h2
  have HL:=hid (Laid.lit w [(48,57),(65,90),(95,95),(97,122)] (flatR [(48,57),(65,90),(95,95),(97,122)]).toArray rfl (by decide))
  have HB:=hid ((Below.refl w.heap.size w).alloc (Nat.le_refl _) (.cells (flatR [(48,57),(65,90),(95,95),(97,122)]).toArray 61))
  have hr:RangesV (w.alloc (.cells (flatR [(48,57),(65,90),(95,95),(97,122)]).toArray 61)) (w.heap.size+1) [(48,57),(65,90),(95,95),(97,122)] (some ⟨w.heap.size,0,none⟩) 4 4:=⟨rfl,⟨Nat.le_refl _,by omega⟩,.inr ⟨_,_,rfl,by omega,RangesAt.of_cells _ 0 fun j hj=>⟨by rw [Nat.zero_add];exact (Blk.new w (flatR [(48,57),(65,90),(95,95),(97,122)]) 61).cell (flatR_get _ j hj).1,by rw [Nat.zero_add];exact (Blk.new w (flatR [(48,57),(65,90),(95,95),(97,122)]) 61).cell (flatR_get _ j hj).2⟩⟩⟩
  have HNOT:=hid (turned_not _ _ _ _ _ _ hr (by simp) (by decide))
  have HSAME:=hid (turned_same (some ⟨w.heap.size,0,none⟩) 4 4 (w.alloc (.cells (flatR [(48,57),(65,90),(95,95),(97,122)]).toArray 61)))
  clear hr
  cases turn
  · go_enter Tryz.func166, Tryz.ntmps166
    go_wp2_with fail
    refine (HC.out w).mono ?_
    rintro e w1 ⟨rfl,rfl⟩
    go_wp2_with fail
    refine (HSAME.out).mono ?_
    rintro e w3 ⟨rfl,hb3⟩
    have HB3:=hid hb3;clear hb3
    go_wp2_with fail
    go_ret2
    refine ⟨_,[(48,57),(65,90),(95,95),(97,122)],rfl,?_,(IsSet.of_right (by decide)).congr (fun c _ _=>by simp),by decide,HB.out.trans (HB3.out.mono HB.out.size)⟩
    exact HL.out.kept (grownBy_below HB3.out none) (by simp [Value.ownBlock])
  · go_enter Tryz.func166, Tryz.ntmps166
    go_wp2_with fail
    refine (HC.out w).mono ?_
    rintro e w1 ⟨rfl,rfl⟩
    go_wp2_with fail
    refine (HNOT.out).mono ?_
    rintro e w3 hh
    obtain ⟨v3,out3,rfl,hh⟩:=hh
    have H3:=hid hh;clear hh
    go_wp2_with fail
    go_ret2
    exact TurnR.prop ⟨v3,out3,rfl,H3.out⟩ HB.out (by decide) (fun c _ _=>by simp)
theorem posix_xdigit (name:ByteArray) (turn:Bool) (w:World) (h1:Lib.hasPrefix name.data.toList [94]=turn) (h2:Lib.trimPrefix name.data.toList [94]=[120,100,105,103,105,116]) :
    Calls Tryz.prog 166 #[.string name] w (PropR w (some fun c=>memR [(48,57),(65,70),(97,102)] c != turn)):=by
  have HC:=hid (show ∀ W:World,Calls Tryz.prog 160 #[.string name,.string ⟨#[94]⟩] W fun e w'=>e = .returned (.tuple #[.string ⟨#[120,100,105,103,105,116]⟩,.bool turn])∧w'=W from fun W=>
    (Tryz.strings_CutPrefix name ⟨#[94]⟩ W).mono fun e w' h=>by obtain ⟨rfl,rfl⟩:=h;exact ⟨by rw [show (⟨#[94]⟩:ByteArray).data.toList=[94] from rfl,h1,h2],rfl⟩)
  clear h1 h2
  have HL:=hid (Laid.lit w [(48,57),(65,70),(97,102)] (flatR [(48,57),(65,70),(97,102)]).toArray rfl (by decide))
  have HB:=hid ((Below.refl w.heap.size w).alloc (Nat.le_refl _) (.cells (flatR [(48,57),(65,70),(97,102)]).toArray 61))
  have hr:RangesV (w.alloc (.cells (flatR [(48,57),(65,70),(97,102)]).toArray 61)) (w.heap.size+1) [(48,57),(65,70),(97,102)] (some ⟨w.heap.size,0,none⟩) 3 3:=⟨rfl,⟨Nat.le_refl _,by omega⟩,.inr ⟨_,_,rfl,by omega,RangesAt.of_cells _ 0 fun j hj=>⟨by rw [Nat.zero_add];exact (Blk.new w (flatR [(48,57),(65,70),(97,102)]) 61).cell (flatR_get _ j hj).1,by rw [Nat.zero_add];exact (Blk.new w (flatR [(48,57),(65,70),(97,102)]) 61).cell (flatR_get _ j hj).2⟩⟩⟩
  have HNOT:=hid (turned_not _ _ _ _ _ _ hr (by simp) (by decide))
  have HSAME:=hid (turned_same (some ⟨w.heap.size,0,none⟩) 3 3 (w.alloc (.cells (flatR [(48,57),(65,70),(97,102)]).toArray 61)))
  clear hr
  cases turn
  · go_enter Tryz.func166, Tryz.ntmps166
    go_wp2_with fail
    refine (HC.out w).mono ?_
    rintro e w1 ⟨rfl,rfl⟩
    go_wp2_with fail
    refine (HSAME.out).mono ?_
    rintro e w3 ⟨rfl,hb3⟩
    have HB3:=hid hb3;clear hb3
    go_wp2_with fail
    go_ret2
    refine ⟨_,[(48,57),(65,70),(97,102)],rfl,?_,(IsSet.of_right (by decide)).congr (fun c _ _=>by simp),by decide,HB.out.trans (HB3.out.mono HB.out.size)⟩
    exact HL.out.kept (grownBy_below HB3.out none) (by simp [Value.ownBlock])
  · go_enter Tryz.func166, Tryz.ntmps166
    go_wp2_with fail
    refine (HC.out w).mono ?_
    rintro e w1 ⟨rfl,rfl⟩
    go_wp2_with fail
    refine (HNOT.out).mono ?_
    rintro e w3 hh
    obtain ⟨v3,out3,rfl,hh⟩:=hh
    have H3:=hid hh;clear hh
    go_wp2_with fail
    go_ret2
    exact TurnR.prop ⟨v3,out3,rfl,H3.out⟩ HB.out (by decide) (fun c _ _=>by simp)
theorem posL_none {nm:List UInt8} (h:posL nm=none):(nm == [97,108,110,117,109])=false∧(nm == [97,108,112,104,97])=false∧(nm == [97,115,99,105,105])=false∧(nm == [98,108,97,110,107])=false∧(nm == [99,110,116,114,108])=false∧(nm == [100,105,103,105,116])=false∧(nm == [103,114,97,112,104])=false∧(nm == [108,111,119,101,114])=false∧(nm == [112,114,105,110,116])=false∧(nm == [112,117,110,99,116])=false∧(nm == [115,112,97,99,101])=false∧(nm == [117,112,112,101,114])=false∧(nm == [119,111,114,100])=false∧(nm == [120,100,105,103,105,116])=false:=by
  refine ⟨?_,?_,?_,?_,?_,?_,?_,?_,?_,?_,?_,?_,?_,?_⟩
  all_goals (rw [beq_eq_false_iff_ne];rintro rfl;revert h;decide)
theorem posix_none (name:ByteArray) (turn:Bool) (nm:List UInt8) (w:World) (h1:Lib.hasPrefix name.data.toList [94]=turn) (h2:Lib.trimPrefix name.data.toList [94]=nm) (h3:posL nm=none) :
    Calls Tryz.prog 166 #[.string name] w (PropR w none):=by
  have HC:=hid (show ∀ W:World,Calls Tryz.prog 160 #[.string name,.string ⟨#[94]⟩] W fun e w'=>e = .returned (.tuple #[.string ⟨nm.toArray⟩,.bool turn])∧w'=W from fun W=>
    (Tryz.strings_CutPrefix name ⟨#[94]⟩ W).mono fun e w' h=>by obtain ⟨rfl,rfl⟩:=h;exact ⟨by rw [show (⟨#[94]⟩:ByteArray).data.toList=[94] from rfl,h1,h2],rfl⟩)
  have hq:=posL_none h3
  rw [← toList_mk nm] at hq
  obtain ⟨s2,hs2⟩:∃ s2:ByteArray,s2=⟨nm.toArray⟩:=⟨_,rfl⟩
  rw [← hs2] at HC hq
  clear h1 h2 h3 hs2
  obtain ⟨n0,n1,n2,n3,n4,n5,n6,n7,n8,n9,n10,n11,n12,n13⟩:=hq
  go_enter Tryz.func166, Tryz.ntmps166
  go_wp2_with fail
  refine (HC.out w).mono ?_
  rintro e w1 ⟨rfl,rfl⟩
  go_wp2_with fail
  refine (turned_no _ _ _ _ _).mono ?_
  rintro e w3 ⟨rfl,hb3⟩
  have HB3:=hid hb3;clear hb3
  go_wp2_with fail
  go_ret2
  exact ⟨_,[],rfl,World.ownsRow_nil _ _ _ _,rfl,by simp,HB3.out⟩
theorem classes_Posix (name:ByteArray) (w:World):Calls Tryz.prog 166 #[.string name] w (PropR w (posSpec name.data.toList)):=by
  unfold posSpec
  cases hp:posL (Lib.trimPrefix name.data.toList [94]) with
  | none=>exact posix_none name _ _ w rfl rfl hp
  | some l=>
    unfold posL at hp
    by_cases c0:Lib.trimPrefix name.data.toList [94]=[97,108,110,117,109]
    · rw [if_pos c0] at hp;cases hp;exact posix_alnum name _ w rfl c0
    rw [if_neg c0] at hp
    by_cases c1:Lib.trimPrefix name.data.toList [94]=[97,108,112,104,97]
    · rw [if_pos c1] at hp;cases hp;exact posix_alpha name _ w rfl c1
    rw [if_neg c1] at hp
    by_cases c2:Lib.trimPrefix name.data.toList [94]=[97,115,99,105,105]
    · rw [if_pos c2] at hp;cases hp;exact posix_ascii name _ w rfl c2
    rw [if_neg c2] at hp
    by_cases c3:Lib.trimPrefix name.data.toList [94]=[98,108,97,110,107]
    · rw [if_pos c3] at hp;cases hp;exact posix_blank name _ w rfl c3
    rw [if_neg c3] at hp
    by_cases c4:Lib.trimPrefix name.data.toList [94]=[99,110,116,114,108]
    · rw [if_pos c4] at hp;cases hp;exact posix_cntrl name _ w rfl c4
    rw [if_neg c4] at hp
    by_cases c5:Lib.trimPrefix name.data.toList [94]=[100,105,103,105,116]
    · rw [if_pos c5] at hp;cases hp;exact posix_digit name _ w rfl c5
    rw [if_neg c5] at hp
    by_cases c6:Lib.trimPrefix name.data.toList [94]=[103,114,97,112,104]
    · rw [if_pos c6] at hp;cases hp;exact posix_graph name _ w rfl c6
    rw [if_neg c6] at hp
    by_cases c7:Lib.trimPrefix name.data.toList [94]=[108,111,119,101,114]
    · rw [if_pos c7] at hp;cases hp;exact posix_lower name _ w rfl c7
    rw [if_neg c7] at hp
    by_cases c8:Lib.trimPrefix name.data.toList [94]=[112,114,105,110,116]
    · rw [if_pos c8] at hp;cases hp;exact posix_print name _ w rfl c8
    rw [if_neg c8] at hp
    by_cases c9:Lib.trimPrefix name.data.toList [94]=[112,117,110,99,116]
    · rw [if_pos c9] at hp;cases hp;exact posix_punct name _ w rfl c9
    rw [if_neg c9] at hp
    by_cases c10:Lib.trimPrefix name.data.toList [94]=[115,112,97,99,101]
    · rw [if_pos c10] at hp;cases hp;exact posix_space name _ w rfl c10
    rw [if_neg c10] at hp
    by_cases c11:Lib.trimPrefix name.data.toList [94]=[117,112,112,101,114]
    · rw [if_pos c11] at hp;cases hp;exact posix_upper name _ w rfl c11
    rw [if_neg c11] at hp
    by_cases c12:Lib.trimPrefix name.data.toList [94]=[119,111,114,100]
    · rw [if_pos c12] at hp;cases hp;exact posix_word name _ w rfl c12
    rw [if_neg c12] at hp
    by_cases c13:Lib.trimPrefix name.data.toList [94]=[120,100,105,103,105,116]
    · rw [if_pos c13] at hp;cases hp;exact posix_xdigit name _ w rfl c13
    rw [if_neg c13] at hp
    cases hp
end Go.Proofs.YtnhnldmldnhaoaaGreatDoor
