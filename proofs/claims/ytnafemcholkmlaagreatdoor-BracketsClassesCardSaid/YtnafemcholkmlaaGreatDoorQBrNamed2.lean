/- The reader of layer 7: a name between colons that is there. (Printed by gen_brnamed2.py.) -/
import Derived.Test.YtnafemcholkmlaaGreatDoorQPosix
import Derived.Test.YtnafemcholkmlaaGreatDoorQBrItem0
import Derived.IntWalk
namespace Go.Proofs.YtnafemcholkmlaaGreatDoor
open Go Go.RowKit Go.Proofs Go.Shelf

/-- What the reader's named hands back at a name. -/
def NamedOut (w : World) (b : Nat) (s : ByteArray) (fr : Int) (perl : Bool) (f : Int → Bool) (q : Nat) (e : Ending) (w' : World) : Prop :=
  ∃ v out, e = .returned (.tuple #[v, .bool true]) ∧ Laid w w' out v ∧ IsSet out f ∧ out.length ≤ 1000 ∧ BrR w' b s q fr perl ∧ w.grownBy w' (some b)

set_option maxHeartbeats 2000000 in
theorem named_yes (b : Nat) (s : ByteArray) (p : Nat) (fr : Int) (perl : Bool) (w : World) (h : BrR w b s p fr perl) (hp : p ≤ s.size) (hs : s.size ≤ 1000000000000000) (hn : stands s p [91, 58] = true)
    (he : stands s (p + 2 + (runP s (p + 2) nmL).length) [58, 93] = true) (f : Int → Bool) (hsp : posSpec (runP s (p + 2) nmL) = some f) :
    Calls Tryz.prog 32 #[.pointer (some ⟨b, 0, none⟩)] w fun e w' => NamedOut w b s fr perl f (p + 2 + (runP s (p + 2) nmL).length + 2) e w' := by
  have HR := Lib.hid h
  have HN := Lib.hid hn
  have HE := Lib.hid he
  have hle : p + 2 ≤ s.size := stands_le (p := ⟨#[91, 58]⟩) hp hn
  have hrl := runP_le s (p + 2) nmL
  have hle2 : p + 2 + (runP s (p + 2) nmL).length + 2 ≤ s.size := stands_le (p := ⟨#[58, 93]⟩) (by omega) he
  obtain ⟨n, hn0⟩ : ∃ n, n = (runP s (p + 2) nmL).length := ⟨_, rfl⟩
  rw [← hn0] at hle2 hrl
  have t1 := tail_size s (p + 2)
  have t2 := tail_size s (p + 2 + n)
  have HC := Lib.hid (classes_Posix ⟨(runP s (p + 2) nmL).toArray⟩)
  have HX := Lib.hid (show (tail s (p + 2)).extract 0 n = ⟨(runP s (p + 2) nmL).toArray⟩ by rw [hn0]; exact run_head s (p + 2) nmL)
  have HS := Lib.hid hsp
  have HN0 := Lib.hid hn0
  clear h hn he hsp
  obtain ⟨nm, hnm⟩ : ∃ nm : ByteArray, nm = ⟨(runP s (p + 2) nmL).toArray⟩ := ⟨_, rfl⟩
  have hnms : nm.size = n := by rw [hnm, hn0]; show (runP s (p + 2) nmL).toArray.size = _; simp
  have HNM := Lib.hid (show nm.data.toList = runP s (p + 2) nmL by rw [hnm])
  rw [← hnm] at HC HX
  clear hnm hn0
  go_enter Tryz.func32, Tryz.ntmps32
  go_wp2_with fail
  refine (br_rest b s p _ _ _ HR.out hp).mono ?_
  rintro e w1 ⟨rfl, hR, hB⟩
  have R1 := Lib.hid hR; have B1 := Lib.hid hB; clear hR hB
  go_wp2_with fail
  refine (Tryz.strings_CutPrefix (tail s p) ⟨#[91, 58]⟩ _).mono ?_
  rintro e w2 ⟨rfl, rfl⟩
  rw [show Lib.hasPrefix (tail s p).data.toList (⟨#[91, 58]⟩ : ByteArray).data.toList = true by rw [tail_toList]; exact HN.out, show (⟨#[91, 58]⟩ : ByteArray).data.toList = [91, 58] from rfl, cut_toList s p _ HN.out]
  go_wp2_with fail
  refine (Any.strings_TrimLeft_laid Tryz.lays161 (by kernel_rfl) _ ⟨#[97, 98, 99, 100, 101, 102, 103, 104, 105, 106, 107, 108, 109, 110, 111, 112, 113, 114, 115, 116, 117, 118, 119, 120, 121, 122, 94]⟩ _ (by decide) nmL_ascii).mono ?_
  rintro e w3 ⟨rfl, hB⟩
  have R3 := Lib.hid (Rd.below R1.out hB R1.out.lt); have B3 := Lib.hid (below_then B1.out hB); clear hB
  rw [show (⟨#[97, 98, 99, 100, 101, 102, 103, 104, 105, 106, 107, 108, 109, 110, 111, 112, 113, 114, 115, 116, 117, 118, 119, 120, 121, 122, 94]⟩ : ByteArray).data.toList = nmL from rfl, trim_tail, ← HN0.out]
  go_wp2_with fail
  refine (Tryz.strings_HasPrefix _ _ _).mono ?_
  rintro e w4 ⟨rfl, rfl⟩
  rw [tail_toList, show Lib.hasPrefix (List.drop (p + 2 + n) s.data.toList) (⟨#[58, 93]⟩ : ByteArray).data.toList = true by rw [HN0.out]; exact HE.out]
  have c1 := Rd.c1 R3.out
  have hdif : (((tail s (p + 2)).size : Int) - ((tail s (p + 2 + n)).size : Int)) = (n : Int) := by omega
  have hsz : n ≤ (tail s (p + 2)).size := by omega
  have hsz1 : (n : Int) ≤ ((tail s (p + 2)).size : Int) := by omega
  have hszm : (tail s (p + 2)).size ≤ 1000000000000000 := by omega
  have hsub : IntKind.i64.wrap (((tail s (p + 2)).size : Int) - ((tail s (p + 2 + n)).size : Int)) = (n : Int) := by rw [hdif]; exact IntWalk.i64_in _ (by omega)
  have hx : (tail s (p + 2)).extract 0 n = nm := HX.out
  go_wp2_with fail
  go_quiet (fail)
  clear hdif hsub
  have f1 : ∀ k, (w4.drewN k).frozen? ⟨b, 1, none⟩ = false := fun k => Rd.f1 R3.out

  have g1 := fun k => (show (w4.drewN k).cell? ⟨b, 1, none⟩ = some (.int .i64 p) from c1)
  go_wp2_with fail
  rw [show s.size - (p + 2) - (s.size - (p + 2 + n)) = n by omega, HX.out]
  have e1 : ((p : Int) + ((n : Int) + 4)) = ((p + 2 + n + 2 : Nat) : Int) := by omega
  rw [e1]
  have R5 := Lib.hid (show BrR ((w4.drewN nq).setCell ⟨b, 1, none⟩ (.int .i64 (p + 2 + n + 2 : Nat))) b s (p + 2 + n + 2) fr perl from Rd.move (Blk.drewN R3.out nq) _)
  have G5 := Lib.hid (show w.grownBy ((w4.drewN nq).setCell ⟨b, 1, none⟩ (.int .i64 (p + 2 + n + 2 : Nat))) (some b) from grownBy_trans (grownBy_trans (grownBy_below B3.out _) (grownBy_drewN _ _ _)) (grownBy_setCell _ _ _ _))
  clear e1 f1 g1 c1
  generalize (w4.drewN nq).setCell ⟨b, 1, none⟩ (.int .i64 (p + 2 + n + 2 : Nat)) = W5 at R5 G5 ⊢
  refine (HC.out W5).mono ?_
  rw [HNM.out, HS.out]
  rintro e w6 ⟨v, out, rfl, hL, hI, hN6, hB⟩
  obtain ⟨sa, sc, rfl, _, _⟩ := Laid.ranges hL (by omega)
  have R6 := Lib.hid (Rd.below R5.out hB R5.out.lt); have G6 := Lib.hid (grownBy_trans G5.out (grownBy_below hB _)); have HL := Lib.hid hL; have HI := Lib.hid hI; have HL6 := Lib.hid hN6; have Z := Lib.hid G5.out.size
  clear hL hI hN6 hB
  have g1 := Rd.c1 R6.out
  simp only [Option.isSome_some]
  go_wp2_with fail
  go_ret2
  exact ⟨_, out, rfl, Joins.ownsRow_le HL.out Z.out, HI.out, HL6.out, by rw [← HN0.out]; exact R6.out, G6.out⟩

set_option maxHeartbeats 2000000 in
theorem named_bad (b : Nat) (s : ByteArray) (p : Nat) (fr : Int) (perl : Bool) (w : World) (h : BrR w b s p fr perl) (hp : p ≤ s.size) (hs : s.size ≤ 1000000000000000) (hn : stands s p [91, 58] = true)
    (he : stands s (p + 2 + (runP s (p + 2) nmL).length) [58, 93] = true) (hsp : posSpec (runP s (p + 2) nmL) = none) :
    Calls Tryz.prog 32 #[.pointer (some ⟨b, 0, none⟩)] w fun e w' => e = wrongE 72 p (p + 2 + (runP s (p + 2) nmL).length + 2 : Nat) ∧ w.grownBy w' (some b) := by
  have HR := Lib.hid h
  have HN := Lib.hid hn
  have HE := Lib.hid he
  have hle : p + 2 ≤ s.size := stands_le (p := ⟨#[91, 58]⟩) hp hn
  have hrl := runP_le s (p + 2) nmL
  have hle2 : p + 2 + (runP s (p + 2) nmL).length + 2 ≤ s.size := stands_le (p := ⟨#[58, 93]⟩) (by omega) he
  obtain ⟨n, hn0⟩ : ∃ n, n = (runP s (p + 2) nmL).length := ⟨_, rfl⟩
  rw [← hn0] at hle2 hrl
  have t1 := tail_size s (p + 2)
  have t2 := tail_size s (p + 2 + n)
  have HC := Lib.hid (classes_Posix ⟨(runP s (p + 2) nmL).toArray⟩)
  have HX := Lib.hid (show (tail s (p + 2)).extract 0 n = ⟨(runP s (p + 2) nmL).toArray⟩ by rw [hn0]; exact run_head s (p + 2) nmL)
  have HS := Lib.hid hsp
  have HN0 := Lib.hid hn0
  clear h hn he hsp
  obtain ⟨nm, hnm⟩ : ∃ nm : ByteArray, nm = ⟨(runP s (p + 2) nmL).toArray⟩ := ⟨_, rfl⟩
  have hnms : nm.size = n := by rw [hnm, hn0]; show (runP s (p + 2) nmL).toArray.size = _; simp
  have HNM := Lib.hid (show nm.data.toList = runP s (p + 2) nmL by rw [hnm])
  rw [← hnm] at HC HX
  clear hnm hn0
  go_enter Tryz.func32, Tryz.ntmps32
  go_wp2_with fail
  refine (br_rest b s p _ _ _ HR.out hp).mono ?_
  rintro e w1 ⟨rfl, hR, hB⟩
  have R1 := Lib.hid hR; have B1 := Lib.hid hB; clear hR hB
  go_wp2_with fail
  refine (Tryz.strings_CutPrefix (tail s p) ⟨#[91, 58]⟩ _).mono ?_
  rintro e w2 ⟨rfl, rfl⟩
  rw [show Lib.hasPrefix (tail s p).data.toList (⟨#[91, 58]⟩ : ByteArray).data.toList = true by rw [tail_toList]; exact HN.out, show (⟨#[91, 58]⟩ : ByteArray).data.toList = [91, 58] from rfl, cut_toList s p _ HN.out]
  go_wp2_with fail
  refine (Any.strings_TrimLeft_laid Tryz.lays161 (by kernel_rfl) _ ⟨#[97, 98, 99, 100, 101, 102, 103, 104, 105, 106, 107, 108, 109, 110, 111, 112, 113, 114, 115, 116, 117, 118, 119, 120, 121, 122, 94]⟩ _ (by decide) nmL_ascii).mono ?_
  rintro e w3 ⟨rfl, hB⟩
  have R3 := Lib.hid (Rd.below R1.out hB R1.out.lt); have B3 := Lib.hid (below_then B1.out hB); clear hB
  rw [show (⟨#[97, 98, 99, 100, 101, 102, 103, 104, 105, 106, 107, 108, 109, 110, 111, 112, 113, 114, 115, 116, 117, 118, 119, 120, 121, 122, 94]⟩ : ByteArray).data.toList = nmL from rfl, trim_tail, ← HN0.out]
  go_wp2_with fail
  refine (Tryz.strings_HasPrefix _ _ _).mono ?_
  rintro e w4 ⟨rfl, rfl⟩
  rw [tail_toList, show Lib.hasPrefix (List.drop (p + 2 + n) s.data.toList) (⟨#[58, 93]⟩ : ByteArray).data.toList = true by rw [HN0.out]; exact HE.out]
  have c1 := Rd.c1 R3.out
  have hdif : (((tail s (p + 2)).size : Int) - ((tail s (p + 2 + n)).size : Int)) = (n : Int) := by omega
  have hsz : n ≤ (tail s (p + 2)).size := by omega
  have hsz1 : (n : Int) ≤ ((tail s (p + 2)).size : Int) := by omega
  have hszm : (tail s (p + 2)).size ≤ 1000000000000000 := by omega
  have hsub : IntKind.i64.wrap (((tail s (p + 2)).size : Int) - ((tail s (p + 2 + n)).size : Int)) = (n : Int) := by rw [hdif]; exact IntWalk.i64_in _ (by omega)
  have hx : (tail s (p + 2)).extract 0 n = nm := HX.out
  go_wp2_with fail
  go_quiet (fail)
  clear hdif hsub
  have f1 : ∀ k, (w4.drewN k).frozen? ⟨b, 1, none⟩ = false := fun k => Rd.f1 R3.out

  have g1 := fun k => (show (w4.drewN k).cell? ⟨b, 1, none⟩ = some (.int .i64 p) from c1)
  go_wp2_with fail
  rw [show s.size - (p + 2) - (s.size - (p + 2 + n)) = n by omega, HX.out]
  have e1 : ((p : Int) + ((n : Int) + 4)) = ((p + 2 + n + 2 : Nat) : Int) := by omega
  rw [e1]
  have R5 := Lib.hid (show BrR ((w4.drewN nq).setCell ⟨b, 1, none⟩ (.int .i64 (p + 2 + n + 2 : Nat))) b s (p + 2 + n + 2) fr perl from Rd.move (Blk.drewN R3.out nq) _)
  have G5 := Lib.hid (show w.grownBy ((w4.drewN nq).setCell ⟨b, 1, none⟩ (.int .i64 (p + 2 + n + 2 : Nat))) (some b) from grownBy_trans (grownBy_trans (grownBy_below B3.out _) (grownBy_drewN _ _ _)) (grownBy_setCell _ _ _ _))
  clear e1 f1 g1 c1
  generalize (w4.drewN nq).setCell ⟨b, 1, none⟩ (.int .i64 (p + 2 + n + 2 : Nat)) = W5 at R5 G5 ⊢
  refine (HC.out W5).mono ?_
  rw [HNM.out, HS.out]
  rintro e w6 ⟨v, out, rfl, hL, hI, hN6, hB⟩
  obtain ⟨sa, sc, rfl, _, _⟩ := Laid.ranges hL (by omega)
  have R6 := Lib.hid (Rd.below R5.out hB R5.out.lt); have G6 := Lib.hid (grownBy_trans G5.out (grownBy_below hB _)); have HL := Lib.hid hL; have HI := Lib.hid hI; have HL6 := Lib.hid hN6; have Z := Lib.hid G5.out.size
  clear hL hI hN6 hB
  have g1 := Rd.c1 R6.out
  simp only [Option.isSome_none]
  go_wp2_with fail
  refine (br_stop _ _ _ _).mono ?_
  rintro e w9 ⟨rfl, rfl⟩
  exact ⟨rfl, by rw [← HN0.out, show ((p + 2 + n + 2 : Nat) : Int) = (p : Int) + 2 + n + 2 by omega], G6.out⟩

set_option maxHeartbeats 2000000 in
theorem item_named (b : Nat) (s : ByteArray) (p : Nat) (fr : Int) (perl : Bool) (w : World) (h : BrR w b s p fr perl) (hp : p ≤ s.size) (hs : s.size ≤ 1000000000000000) (hn : stands s p [91, 58] = true)
    (he : stands s (p + 2 + (runP s (p + 2) nmL).length) [58, 93] = true) (f : Int → Bool) (hsp : posSpec (runP s (p + 2) nmL) = some f) :
    Calls Tryz.prog 20 #[.pointer (some ⟨b, 0, none⟩)] w (ItemOut w b s fr perl (.ok f (p + 2 + (runP s (p + 2) nmL).length + 2))) := by
  have HC := Lib.hid (named_yes b s p fr perl w h hp hs hn he f hsp)
  have c1 := Rd.c1 h
  clear h hn he hsp
  go_enter Tryz.func20, Tryz.ntmps20
  go_wp2_with fail
  refine (HC.out).mono ?_
  rintro e w1 ⟨v, out, rfl, hL, hI, hN, hR, hG⟩
  obtain ⟨sa, sc, rfl, _, _⟩ := Laid.ranges hL (by omega)
  have R1 := Lib.hid hR; have G1 := Lib.hid hG; have HL := Lib.hid hL; have HI := Lib.hid hI; have HN := Lib.hid hN; clear hR hG hL hI hN
  go_wp2_with fail
  refine bodyPost_ret (v := .slice sa out.length sc) ?_ rfl ⟨G1.out, _, out, rfl, HL.out, ?_, HN.out, R1.out⟩
  · simp [results, Tryz.results20]
  · intro c h0 h1; rw [HI.out.2 c]; simp [h0, h1]

set_option maxHeartbeats 2000000 in
theorem item_nambad (b : Nat) (s : ByteArray) (p : Nat) (fr : Int) (perl : Bool) (w : World) (h : BrR w b s p fr perl) (hp : p ≤ s.size) (hs : s.size ≤ 1000000000000000) (hn : stands s p [91, 58] = true)
    (he : stands s (p + 2 + (runP s (p + 2) nmL).length) [58, 93] = true) (hsp : posSpec (runP s (p + 2) nmL) = none) :
    Calls Tryz.prog 20 #[.pointer (some ⟨b, 0, none⟩)] w (ItemOut w b s fr perl (.wrong 72 p (p + 2 + (runP s (p + 2) nmL).length + 2 : Nat))) := by
  have HC := Lib.hid (named_bad b s p fr perl w h hp hs hn he hsp)
  have c1 := Rd.c1 h
  clear h hn he hsp
  go_enter Tryz.func20, Tryz.ntmps20
  go_wp2_with fail
  refine (HC.out).mono ?_
  rintro e w1 ⟨rfl, hG⟩
  exact ⟨rfl, hG, rfl⟩

end Go.Proofs.YtnafemcholkmlaaGreatDoor
