/- The reader of patterns: what begins with a bracket, a group that has a number and no name. The reader of patterns: what stands next. -/
import Derived.Test.YtnhnldmldnhaoaaGreatDoorDSyClose
import Derived.Test.YtnhnldmldnhaoaaGreatDoorDSetsNot
import Derived.Deep.RegionHeld3
namespace Go.Proofs.YtnhnldmldnhaoaaGreatDoor
open Go Go.RowKit Go.Proofs Go.Shelf

theorem row_single {w W : World} {nv : Value} {t : T} {cs : List Value} (hT : TreeF W (FreshN w W nv) t cs) (hz : w.heap.size ≤ W.heap.size) (hn : ∀ k, nv.ownBlock = some k → k < W.heap.size) :
    RowF (W.alloc (.cells cs.toArray 29)) w.heap.size (fun k => nv.ownBlock = some k) [t] (.slice (some ⟨W.heap.size, 0, none⟩) 1 1) cs := by
  refine ⟨row_one hT.length hz, TreesF.single (hT.turned (fun k hk => Below.heap_alloc W _ k hk.1.2) (fun k hk => ⟨⟨hk.1.1, by rw [World.size_alloc]; have := hk.1.2; omega, hk.2⟩, fun e => by have e2 : W.heap.size = k := Option.some.inj e; have := hk.1.2; omega⟩)), fun k hk e => ?_⟩
  have e2 : W.heap.size = k := Option.some.inj hk
  have := hn k e
  omega
set_option maxRecDepth 100000 in
set_option maxHeartbeats 8000000 in
theorem open_plain_ok (b lo : Nat) (s : ByteArray) (st : St) (nv : Value) (w : World) (h : SynIn w b lo s st nv) (hs : s.size ≤ 100000000) (hc : nextC s st.p = 40) (hP : onB st.f 32 = false) (t : T) (st1 : St)
    (hG : ∀ W, SynIn W b lo s { st with p := st.p + 1 } nv → Calls Tryz.prog 100 #[.pointer (some ⟨b, 0, none⟩), .string ⟨#[]⟩] W (TreeOut W b lo s nv (.ok t st1))) :
    Calls Tryz.prog 77 #[.pointer (some ⟨b, 0, none⟩)] w (ListsOut w b lo s nv (.ok [t] st1)) := by
  have hp := h.p
  have hb := h.r.lt
  have hst : stands s st.p [40] = true := stands_of_nextC (c := 40) hc (by decide)
  have hlt : st.p < s.size := stands_lt' hst
  have hbd : Bd s (st.p + 1) := Bd.sign h.d (Nat.le_refl _) hst (by decide)
  have HP := Lib.hid hG; have HBD := Lib.hid hbd
  have HI := Lib.hid h
  have g0 := Blk.cell h.r (j := 0) rfl
  clear h hG hst hbd
  go_enter Tryz.func77, Tryz.ntmps77
  go_wp2_with fail
  refine (syn_on st.f 32 _).mono ?_
  rintro e w1 ⟨rfl, hB⟩
  have L1 := Lib.hid (HI.out.below hB)
  clear hB g0
  rw [hP]
  have g2 := Blk.cell L1.out.i.r (j := 2) rfl
  have f2 := L1.out.i.r.frozen 2
  have L4 := L1
  have L5 := Lib.hid (L4.out.grown (st' := { st with p := st.p + 1 }) (by have := Blk.set L4.out.i.r 2 (.int .i64 ((st.p : Int) + 1)); exact this) (grownBy_setCell _ _ _ _) rfl (by show st.p + 1 ≤ s.size; omega) HBD.out (by have := HI.out.m; show st.ns.length ≤ st.p + 1; omega))
  go_wp2_with fail
  refine (HP.out _ L5.out.i).mono ?_
  rintro e w6 ⟨cs, nv1, rfl, hT, hL⟩
  obtain ⟨op, ka, kn, kc, rune, xa, xn, xc, pl, cap, name, mn, mx, lz, rfl⟩ := hT.form
  have L6 := Lib.hid (L5.out.trans hL); have T6 := Lib.hid (tree_down hT L5.out.g.size)
  clear hT hL
  go_wp2_with fail
  go_ret
  exact ⟨_, _, nv1, rfl, row_single T6.out L6.out.g.size (fun k hk => (L6.out.i.o.lt k hk).2), L6.out.below ((Below.refl _ _).alloc (Nat.le_refl _) _)⟩
set_option maxRecDepth 100000 in
set_option maxHeartbeats 8000000 in
theorem open_plain_wrong (b lo : Nat) (s : ByteArray) (st : St) (nv : Value) (w : World) (h : SynIn w b lo s st nv) (hs : s.size ≤ 100000000) (hc : nextC s st.p = 40) (hP : onB st.f 32 = false) (x a d : Int)
    (hG : ∀ W, SynIn W b lo s { st with p := st.p + 1 } nv → Calls Tryz.prog 100 #[.pointer (some ⟨b, 0, none⟩), .string ⟨#[]⟩] W (TreeOut W b lo s nv (.wrong x a d))) :
    Calls Tryz.prog 77 #[.pointer (some ⟨b, 0, none⟩)] w (ListsOut w b lo s nv (.wrong x a d)) := by
  have hp := h.p
  have hb := h.r.lt
  have hst : stands s st.p [40] = true := stands_of_nextC (c := 40) hc (by decide)
  have hlt : st.p < s.size := stands_lt' hst
  have hbd : Bd s (st.p + 1) := Bd.sign h.d (Nat.le_refl _) hst (by decide)
  have HP := Lib.hid hG; have HBD := Lib.hid hbd
  have HI := Lib.hid h
  have g0 := Blk.cell h.r (j := 0) rfl
  clear h hG hst hbd
  go_enter Tryz.func77, Tryz.ntmps77
  go_wp2_with fail
  refine (syn_on st.f 32 _).mono ?_
  rintro e w1 ⟨rfl, hB⟩
  have L1 := Lib.hid (HI.out.below hB)
  clear hB g0
  rw [hP]
  have g2 := Blk.cell L1.out.i.r (j := 2) rfl
  have f2 := L1.out.i.r.frozen 2
  have L4 := L1
  have L5 := Lib.hid (L4.out.grown (st' := { st with p := st.p + 1 }) (by have := Blk.set L4.out.i.r 2 (.int .i64 ((st.p : Int) + 1)); exact this) (grownBy_setCell _ _ _ _) rfl (by show st.p + 1 ≤ s.size; omega) HBD.out (by have := HI.out.m; show st.ns.length ≤ st.p + 1; omega))
  go_wp2_with fail
  refine (HP.out _ L5.out.i).mono ?_
  rintro e w6 ⟨rfl, hg⟩
  exact ⟨rfl, rfl, L5.out.g.trans hg L5.out.mine⟩
set_option maxRecDepth 100000 in
set_option maxHeartbeats 8000000 in
theorem open_perl_ok (b lo : Nat) (s : ByteArray) (st : St) (nv : Value) (w : World) (h : SynIn w b lo s st nv) (hs : s.size ≤ 100000000) (hc : nextC s st.p = 40) (hP : onB st.f 32 = true) (hq : stands s st.p [40, 63] = false) (t : T) (st1 : St)
    (hG : ∀ W, SynIn W b lo s { st with p := st.p + 1 } nv → Calls Tryz.prog 100 #[.pointer (some ⟨b, 0, none⟩), .string ⟨#[]⟩] W (TreeOut W b lo s nv (.ok t st1))) :
    Calls Tryz.prog 77 #[.pointer (some ⟨b, 0, none⟩)] w (ListsOut w b lo s nv (.ok [t] st1)) := by
  have hp := h.p
  have hb := h.r.lt
  have hst : stands s st.p [40] = true := stands_of_nextC (c := 40) hc (by decide)
  have hlt : st.p < s.size := stands_lt' hst
  have hbd : Bd s (st.p + 1) := Bd.sign h.d (Nat.le_refl _) hst (by decide)
  have HP := Lib.hid hG; have HBD := Lib.hid hbd
  have HI := Lib.hid h
  have g0 := Blk.cell h.r (j := 0) rfl
  clear h hG hst hbd
  go_enter Tryz.func77, Tryz.ntmps77
  go_wp2_with fail
  refine (syn_on st.f 32 _).mono ?_
  rintro e w1 ⟨rfl, hB⟩
  have L1 := Lib.hid (HI.out.below hB)
  clear hB g0
  rw [hP]
  go_wp2_with fail
  refine (syn_rest b s st.f st.p nv _ L1.out.i.r hp).mono ?_
  rintro e w2 ⟨rfl, hR, hB⟩
  have L4 := Lib.hid (L1.out.below hB)
  clear hR hB
  go_wp2_with fail
  refine (Tryz.strings_HasPrefix _ _ _).mono ?_
  rintro e w3 ⟨rfl, rfl⟩
  rw [tail_toList, show Lib.hasPrefix (List.drop st.p s.data.toList) (⟨#[40, 63]⟩ : ByteArray).data.toList = false from hq]
  have g2 := Blk.cell L4.out.i.r (j := 2) rfl
  have f2 := L4.out.i.r.frozen 2
  have L5 := Lib.hid (L4.out.grown (st' := { st with p := st.p + 1 }) (by have := Blk.set L4.out.i.r 2 (.int .i64 ((st.p : Int) + 1)); exact this) (grownBy_setCell _ _ _ _) rfl (by show st.p + 1 ≤ s.size; omega) HBD.out (by have := HI.out.m; show st.ns.length ≤ st.p + 1; omega))
  go_wp2_with fail
  refine (HP.out _ L5.out.i).mono ?_
  rintro e w6 ⟨cs, nv1, rfl, hT, hL⟩
  obtain ⟨op, ka, kn, kc, rune, xa, xn, xc, pl, cap, name, mn, mx, lz, rfl⟩ := hT.form
  have L6 := Lib.hid (L5.out.trans hL); have T6 := Lib.hid (tree_down hT L5.out.g.size)
  clear hT hL
  go_wp2_with fail
  go_ret
  exact ⟨_, _, nv1, rfl, row_single T6.out L6.out.g.size (fun k hk => (L6.out.i.o.lt k hk).2), L6.out.below ((Below.refl _ _).alloc (Nat.le_refl _) _)⟩
set_option maxRecDepth 100000 in
set_option maxHeartbeats 8000000 in
theorem open_perl_wrong (b lo : Nat) (s : ByteArray) (st : St) (nv : Value) (w : World) (h : SynIn w b lo s st nv) (hs : s.size ≤ 100000000) (hc : nextC s st.p = 40) (hP : onB st.f 32 = true) (hq : stands s st.p [40, 63] = false) (x a d : Int)
    (hG : ∀ W, SynIn W b lo s { st with p := st.p + 1 } nv → Calls Tryz.prog 100 #[.pointer (some ⟨b, 0, none⟩), .string ⟨#[]⟩] W (TreeOut W b lo s nv (.wrong x a d))) :
    Calls Tryz.prog 77 #[.pointer (some ⟨b, 0, none⟩)] w (ListsOut w b lo s nv (.wrong x a d)) := by
  have hp := h.p
  have hb := h.r.lt
  have hst : stands s st.p [40] = true := stands_of_nextC (c := 40) hc (by decide)
  have hlt : st.p < s.size := stands_lt' hst
  have hbd : Bd s (st.p + 1) := Bd.sign h.d (Nat.le_refl _) hst (by decide)
  have HP := Lib.hid hG; have HBD := Lib.hid hbd
  have HI := Lib.hid h
  have g0 := Blk.cell h.r (j := 0) rfl
  clear h hG hst hbd
  go_enter Tryz.func77, Tryz.ntmps77
  go_wp2_with fail
  refine (syn_on st.f 32 _).mono ?_
  rintro e w1 ⟨rfl, hB⟩
  have L1 := Lib.hid (HI.out.below hB)
  clear hB g0
  rw [hP]
  go_wp2_with fail
  refine (syn_rest b s st.f st.p nv _ L1.out.i.r hp).mono ?_
  rintro e w2 ⟨rfl, hR, hB⟩
  have L4 := Lib.hid (L1.out.below hB)
  clear hR hB
  go_wp2_with fail
  refine (Tryz.strings_HasPrefix _ _ _).mono ?_
  rintro e w3 ⟨rfl, rfl⟩
  rw [tail_toList, show Lib.hasPrefix (List.drop st.p s.data.toList) (⟨#[40, 63]⟩ : ByteArray).data.toList = false from hq]
  have g2 := Blk.cell L4.out.i.r (j := 2) rfl
  have f2 := L4.out.i.r.frozen 2
  have L5 := Lib.hid (L4.out.grown (st' := { st with p := st.p + 1 }) (by have := Blk.set L4.out.i.r 2 (.int .i64 ((st.p : Int) + 1)); exact this) (grownBy_setCell _ _ _ _) rfl (by show st.p + 1 ≤ s.size; omega) HBD.out (by have := HI.out.m; show st.ns.length ≤ st.p + 1; omega))
  go_wp2_with fail
  refine (HP.out _ L5.out.i).mono ?_
  rintro e w6 ⟨rfl, hg⟩
  exact ⟨rfl, rfl, L5.out.g.trans hg L5.out.mine⟩
/-- What begins with a bracket, where no flags, no name follow. -/
theorem syn_open_plain (s : ByteArray) (n : Nat) (hs : s.size ≤ 100000000) (hG : GroupC s n) (hq : ∀ p, stands s p [40, 63] = false) : OpenC s (n + 1) := by
  intro b lo st nv w h hlt hc hn
  have hl : 8 * (s.size - (st.p + 1)) + 6 ≤ n := by omega
  have hG' : ∀ W, SynIn W b lo s { st with p := st.p + 1 } nv → Calls Tryz.prog 100 #[.pointer (some ⟨b, 0, none⟩), .string ⟨#[]⟩] W (TreeOut W b lo s nv (groupP s n { st with p := st.p + 1 } ⟨#[]⟩)) := fun W hW => hG b lo _ _ nv W hW (by have := h.m; show st.ns.length < st.p + 1; omega) hl
  have hst : stands s st.p [40] = true := stands_of_nextC (c := 40) hc (by decide)
  have hf := (syn_fit s n).group { st with p := st.p + 1 } ⟨#[]⟩ (by show st.p + 1 ≤ s.size; omega) (Bd.sign h.d (Nat.le_refl _) hst (by decide)) hl
  unfold openP
  rw [if_neg (fun h2 => by rw [hq] at h2; exact Bool.noConfusion h2.2)]
  cases hx : groupP s n { st with p := st.p + 1 } ⟨#[]⟩ with
  | out => rw [hx] at hf; exact hf.elim
  | wrong x a d =>
    rw [hx] at hG'
    cases hP : onB st.f 32 with
    | false => exact open_plain_wrong b lo s st nv w h hs hc hP x a d hG'
    | true => exact open_perl_wrong b lo s st nv w h hs hc hP (hq _) x a d hG'
  | ok t st1 =>
    rw [hx] at hG'
    cases hP : onB st.f 32 with
    | false => exact open_plain_ok b lo s st nv w h hs hc hP t st1 hG'
    | true => exact open_perl_ok b lo s st nv w h hs hc hP (hq _) t st1 hG'
end Go.Proofs.YtnhnldmldnhaoaaGreatDoor

namespace Go.Proofs.YtnhnldmldnhaoaaGreatDoor
open Go Go.RowKit Go.Proofs Go.Shelf

/-- A list that a call read hands on. -/
theorem lists_on {w W W' : World} {b lo : Nat} {s : ByteArray} {nv : Value} {st : St} {r : PR (List T)} {e : Ending} (hL : Left w W b lo s nv st nv) (h : ListsOut W b lo s nv r e W') : ListsOut w b lo s nv r e W' := by
  cases r with
  | out => exact h
  | wrong x a d => exact ⟨h.1, hL.g.trans h.2 hL.mine⟩
  | ok ts st1 =>
    obtain ⟨v, xs, nv1, rfl, hr, hl⟩ := h
    exact ⟨v, xs, nv1, rfl, ⟨Joins.ownsRow_le hr.1 hL.g.size, hr.2.1.turned (fun _ _ => rfl) (fun k hk => ⟨⟨Nat.le_trans hL.g.size hk.1.1, hk.1.2⟩, hk.2⟩), hr.2.2⟩, hL.trans hl⟩
theorem lists_value {w : World} {b lo : Nat} {s : ByteArray} {nv : Value} {r : PR (List T)} {e : Ending} {w' : World} (h : ListsOut w b lo s nv r e w') : (∃ x a d, r = .wrong x a d ∧ e = synE x a d) ∨ ∃ v, e = .returned v := by
  cases r with
  | out => exact h.elim
  | wrong x a d => exact .inl ⟨x, a, d, rfl, h.1⟩
  | ok ts st1 => obtain ⟨v, xs, nv1, rfl, _⟩ := h; exact .inr ⟨v, rfl⟩
set_option maxRecDepth 100000 in
set_option maxHeartbeats 8000000 in
theorem atoms_open (b lo : Nat) (s : ByteArray) (st : St) (nv : Value) (w : World) (h : SynIn w b lo s st nv) (hc : nextC s st.p = 40) (r : PR (List T))
    (hO : ∀ W, SynIn W b lo s st nv → Calls Tryz.prog 77 #[.pointer (some ⟨b, 0, none⟩)] W (ListsOut W b lo s nv r)) :
    Calls Tryz.prog 62 #[.pointer (some ⟨b, 0, none⟩)] w (ListsOut w b lo s nv r) := by
  have HI := Lib.hid h; have HO := Lib.hid hO
  clear h hO
  go_enter Tryz.func62, Tryz.ntmps62
  go_wp2_with fail
  refine (syn_next b s st.f st.p nv _ HI.out.r HI.out.e.t HI.out.p).mono ?_
  rintro e w1 ⟨rfl, hR, hB⟩
  have L1 := Lib.hid (HI.out.below hB)
  clear hR hB
  rw [hc]
  go_wp2_with fail
  refine (HO.out _ L1.out.i).mono ?_
  intro e w2 h2
  have H2 := Lib.hid (lists_on L1.out h2)
  rcases lists_value h2 with ⟨x, a, d, _, rfl⟩ | ⟨v, rfl⟩
  · clear h2
    exact ⟨rfl, H2.out⟩
  · clear h2
    go_wp2_with fail
    go_ret
    exact H2.out
set_option maxRecDepth 100000 in
set_option maxHeartbeats 8000000 in
theorem atoms_esc (b lo : Nat) (s : ByteArray) (st : St) (nv : Value) (w : World) (h : SynIn w b lo s st nv) (hc : nextC s st.p = 92) (r : PR (List T))
    (hO : ∀ W, SynIn W b lo s st nv → Calls Tryz.prog 78 #[.pointer (some ⟨b, 0, none⟩)] W (ListsOut W b lo s nv r)) :
    Calls Tryz.prog 62 #[.pointer (some ⟨b, 0, none⟩)] w (ListsOut w b lo s nv r) := by
  have HI := Lib.hid h; have HO := Lib.hid hO
  clear h hO
  go_enter Tryz.func62, Tryz.ntmps62
  go_wp2_with fail
  refine (syn_next b s st.f st.p nv _ HI.out.r HI.out.e.t HI.out.p).mono ?_
  rintro e w1 ⟨rfl, hR, hB⟩
  have L1 := Lib.hid (HI.out.below hB)
  clear hR hB
  rw [hc]
  go_wp2_with fail
  refine (HO.out _ L1.out.i).mono ?_
  intro e w2 h2
  have H2 := Lib.hid (lists_on L1.out h2)
  rcases lists_value h2 with ⟨x, a, d, _, rfl⟩ | ⟨v, rfl⟩
  · clear h2
    exact ⟨rfl, H2.out⟩
  · clear h2
    go_wp2_with fail
    go_ret
    exact H2.out
theorem atom_fresh {w W W' : World} {nv : Value} {t : T} {cs : List Value} (h : TreeF W' (fun k => Fresh W W' k) t cs) (hz : w.heap.size ≤ W.heap.size) (hn : ∀ k, nv.ownBlock = some k → k < W.heap.size) : TreeF W' (FreshN w W' nv) t cs :=
  h.turned (fun _ _ => rfl) (fun k hk => ⟨⟨Nat.le_trans hz hk.1, hk.2⟩, fun e => by have := hn k e; have := hk.1; omega⟩)
set_option maxRecDepth 100000 in
set_option maxHeartbeats 8000000 in
theorem atoms_rune (b lo : Nat) (s : ByteArray) (st : St) (nv : Value) (w : World) (h : SynIn w b lo s st nv) (hs : s.size ≤ 100000000) (hlt : st.p < s.size) (n40 : nextC s st.p ≠ 40) (n92 : nextC s st.p ≠ 92) (n91 : nextC s st.p ≠ 91) (n46 : nextC s st.p ≠ 46) (n94 : nextC s st.p ≠ 94) (n36 : nextC s st.p ≠ 36) :
    Calls Tryz.prog 62 #[.pointer (some ⟨b, 0, none⟩)] w (ListsOut w b lo s nv (.ok [atomT st.f (nextC s st.p)] { st with p := nextW s st.p })) := by
  have HI := Lib.hid h
  clear h
  go_enter Tryz.func62, Tryz.ntmps62
  go_wp2_with fail
  refine (syn_next b s st.f st.p nv _ HI.out.r HI.out.e.t HI.out.p).mono ?_
  rintro e w1 ⟨rfl, hR, hB⟩
  have L1 := Lib.hid (HI.out.below hB)
  clear hR hB
  obtain ⟨C, hC⟩ : ∃ C, C = nextC s st.p := ⟨_, rfl⟩
  obtain ⟨Q, hQ⟩ : ∃ Q, Q = nextW s st.p := ⟨_, rfl⟩
  have hsum := Bd.len HI.out.d hlt
  have hqs := nextW_le s st.p (by omega)
  have hqg := nextW_gt s st.p hlt
  have hbd := Bd.next HI.out.d
  rw [← hC, ← hQ] at hsum
  rw [← hQ] at hqs hqg hbd
  rw [← hC] at n40 n92 n91
  rw [← hC]
  have m40 : (C == 40) = false := by simpa using n40
  have m92 : (C == 92) = false := by simpa using n92
  have m91 : (C == 91) = false := by simpa using n91
  have g2 := Blk.cell L1.out.i.r (j := 2) rfl
  have f2 := L1.out.i.r.frozen 2
  have g0 := Blk.cell L1.out.i.r (j := 0) rfl
  have HC := Lib.hid hC; have HQ := Lib.hid hQ; have HBD := Lib.hid hbd
  have hm := HI.out.m
  have HCR := Lib.hid (show 0 ≤ C ∧ C ≤ 1114111 by rw [HC.out]; exact nextC_in' s st.p hlt)
  clear hC hQ n40 n92 n91 hbd
  rw [← HC.out] at n46 n94 n36
  have m46 : (C == 46) = false := by simpa using n46
  have m94 : (C == 94) = false := by simpa using n94
  have m36 : (C == 36) = false := by simpa using n36
  clear n46 n94 n36
  go_wp2_with fail
  go_region_with (go_at_call 81; refine (Tryz.utf8_RuneLen _ _).mono ?_; rintro e w9 ⟨rfl, rfl⟩)
  all_goals
    have hwr : IntKind.i64.wrap ((st.p : Int) + Lib.runeLen C) = (Q : Int) := by rw [hsum, IntKind.wrap_i64]; omega
    have L2 := Lib.hid (show Left w ((w1.setCell ⟨b, 2, none⟩ (.int .i64 (Q : Int))).drew) b lo s nv { st with p := Q } nv from (L1.out.grown (st' := { st with p := Q }) (Blk.set L1.out.i.r 2 _) (grownBy_setCell _ _ _ _) rfl hqs HBD.out (by show st.ns.length ≤ Q; omega)).below (Below.refl _ _).drew)
    go_wp2_with (rw [hwr])
    refine (syn_atom st.f C _ HCR.out.1 HCR.out.2).mono ?_
    rintro e w4 ⟨cs, rfl, hT, hB⟩
    obtain ⟨op, ka, kn, kc, rune, xa, xn, xc, pl, cap, name, mn, mx, lz, rfl⟩ := hT.form
    have L4 := Lib.hid (L2.out.below hB)
    have T4 := Lib.hid (atom_fresh (nv := nv) hT L2.out.g.size (fun k hk => (L2.out.i.o.lt k hk).2))
    clear hT hB
    go_wp2_with fail
    go_ret
    rw [← HC.out, ← HQ.out]
    exact ⟨_, _, nv, rfl, row_single T4.out L4.out.g.size (fun k hk => (L4.out.i.o.lt k hk).2), L4.out.below ((Below.refl _ _).alloc (Nat.le_refl _) _)⟩
theorem dot_any (x : Bool) (w : World) : Calls Tryz.prog 82 #[.bool x] w (SetOf w (fun c => x || decide (c ≠ 10)) 3) := by
  cases x with
  | true =>
    refine (dot_all w).mono ?_
    rintro e w' ⟨v, out, rfl, h1, h2, h3, h4, h5⟩
    exact ⟨v, out, rfl, h1, h2, fun c => by rw [h3]; rfl, by omega, h5⟩
  | false =>
    refine (dot_line w).mono ?_
    rintro e w' ⟨v, out, rfl, h1, h2, h3, h4, h5⟩
    exact ⟨v, out, rfl, h1, h2, fun c => by rw [h3]; rfl, h4, h5⟩
theorem dotL_is (f : Int) : IsSet (dotL f) (fun c => onB f 8 || decide (c ≠ 10)) := by
  unfold dotL
  cases onB f 8 with
  | true =>
    refine ⟨by decide, fun c => ?_⟩
    simp [memR]
  | false =>
    refine ⟨by decide, fun c => ?_⟩
    simp only [memR, Bool.false_eq_true, if_false, List.any_cons, List.any_nil, Bool.or_false, Bool.false_or]
    rw [Bool.eq_iff_iff]
    simp only [Bool.or_eq_true, Bool.and_eq_true, decide_eq_true_eq]
    omega
set_option maxRecDepth 100000 in
set_option maxHeartbeats 8000000 in
theorem atoms_dot (b lo : Nat) (s : ByteArray) (st : St) (nv : Value) (w : World) (h : SynIn w b lo s st nv) (hs : s.size ≤ 100000000) (hlt : st.p < s.size) (hc : nextC s st.p = 46) :
    Calls Tryz.prog 62 #[.pointer (some ⟨b, 0, none⟩)] w (ListsOut w b lo s nv (.ok [setT (dotL st.f)] { st with p := nextW s st.p })) := by
  obtain ⟨V, hV⟩ : ∃ V, V = setT (dotL st.f) := ⟨_, rfl⟩
  rw [← hV]
  have HV := Lib.hid hV
  have HI := Lib.hid h
  clear h hV
  go_enter Tryz.func62, Tryz.ntmps62
  go_wp2_with fail
  refine (syn_next b s st.f st.p nv _ HI.out.r HI.out.e.t HI.out.p).mono ?_
  rintro e w1 ⟨rfl, hR, hB⟩
  have L1 := Lib.hid (HI.out.below hB)
  clear hR hB
  obtain ⟨C, hC⟩ : ∃ C, C = nextC s st.p := ⟨_, rfl⟩
  obtain ⟨Q, hQ⟩ : ∃ Q, Q = nextW s st.p := ⟨_, rfl⟩
  have hsum := Bd.len HI.out.d hlt
  have hqs := nextW_le s st.p (by omega)
  have hqg := nextW_gt s st.p hlt
  have hbd := Bd.next HI.out.d
  rw [← hC, ← hQ] at hsum
  rw [← hQ] at hqs hqg hbd
  rw [← hC] at hc
  rw [← hC]
  have g2 := Blk.cell L1.out.i.r (j := 2) rfl
  have f2 := L1.out.i.r.frozen 2
  have g0 := Blk.cell L1.out.i.r (j := 0) rfl
  have HC := Lib.hid hC; have HQ := Lib.hid hQ; have HBD := Lib.hid hbd
  have hm := HI.out.m
  have HCR := Lib.hid (show 0 ≤ C ∧ C ≤ 1114111 by rw [HC.out]; exact nextC_in' s st.p hlt)
  clear hC hQ hbd
  have m40 : (C == 40) = false := by rw [hc]; rfl
  have m92 : (C == 92) = false := by rw [hc]; rfl
  have m91 : (C == 91) = false := by rw [hc]; rfl
  have m46 : (C == 46) = true := by rw [hc]; rfl
  clear hc
  go_wp2_with fail
  go_region_with (go_at_call 81; refine (Tryz.utf8_RuneLen _ _).mono ?_; rintro e w9 ⟨rfl, rfl⟩)
  all_goals
    have hwr : IntKind.i64.wrap ((st.p : Int) + Lib.runeLen C) = (Q : Int) := by rw [hsum, IntKind.wrap_i64]; omega
    have L2 := Lib.hid (show Left w ((w1.setCell ⟨b, 2, none⟩ (.int .i64 (Q : Int))).drew) b lo s nv { st with p := Q } nv from (L1.out.grown (st' := { st with p := Q }) (Blk.set L1.out.i.r 2 _) (grownBy_setCell _ _ _ _) rfl hqs HBD.out (by show st.ns.length ≤ Q; omega)).below (Below.refl _ _).drew)
    go_wp2_with (rw [hwr])
    refine (syn_on st.f 8 _).mono ?_
    rintro e w4 ⟨rfl, hB⟩
    have L4 := Lib.hid (L2.out.below hB)
    clear hB
    go_wp2_with fail
    refine (dot_any (onB st.f 8) w4).mono ?_
    rintro e w5 ⟨v, out, rfl, hLd, hs1, hs2, hs3, hB⟩
    have hIS : out = dotL st.f := IsSet.unique ⟨hs1, hs2⟩ (dotL_is st.f)
    obtain ⟨ya, yc, rfl, hSF⟩ := laid_setF hLd (by omega)
    have L5 := Lib.hid (L4.out.below hB)
    have SF := Lib.hid hSF; have HIS := Lib.hid hIS
    clear hLd hs1 hs2 hs3 hB hSF hIS
    go_wp2_with fail
    refine (syn_set out ya out.length yc (fun k => Fresh w4 w5 k) w5 SF.out (fun k hk => hk.2)).mono ?_
    rintro e w6 ⟨cs, rfl, hT, hB⟩
    obtain ⟨op, ka, kn, kc, rune, xa, xn, xc, pl, cap, name, mn, mx, lz, rfl⟩ := hT.form
    have L6 := Lib.hid (L5.out.below hB)
    have T6 := Lib.hid (atom_fresh (nv := nv) (show TreeF w6 (fun k => Fresh w4 w6 k) _ _ from hT.turned (fun _ _ => rfl) (fun _ hk => ⟨hk.1, Nat.lt_of_lt_of_le hk.2 hB.size⟩)) L4.out.g.size (fun k hk => (L4.out.i.o.lt k hk).2))
    clear hT hB
    go_wp2_with fail
    go_ret
    rw [← HQ.out, HV.out, ← HIS.out]
    exact ⟨_, _, nv, rfl, row_single T6.out L6.out.g.size (fun k hk => (L6.out.i.o.lt k hk).2), L6.out.below ((Below.refl _ _).alloc (Nat.le_refl _) _)⟩
set_option maxRecDepth 100000 in
set_option maxHeartbeats 8000000 in
theorem atoms_begin (b lo : Nat) (s : ByteArray) (st : St) (nv : Value) (w : World) (h : SynIn w b lo s st nv) (hs : s.size ≤ 100000000) (hlt : st.p < s.size) (hc : nextC s st.p = 94) :
    Calls Tryz.prog 62 #[.pointer (some ⟨b, 0, none⟩)] w (ListsOut w b lo s nv (.ok [leafT 5 0 [] (if onB st.f 4 = true then 4 else 1)] { st with p := nextW s st.p })) := by
  obtain ⟨V, hV⟩ : ∃ V, V = leafT 5 0 [] (if onB st.f 4 = true then 4 else 1) := ⟨_, rfl⟩
  rw [← hV]
  have HV := Lib.hid hV
  have HI := Lib.hid h
  clear h hV
  go_enter Tryz.func62, Tryz.ntmps62
  go_wp2_with fail
  refine (syn_next b s st.f st.p nv _ HI.out.r HI.out.e.t HI.out.p).mono ?_
  rintro e w1 ⟨rfl, hR, hB⟩
  have L1 := Lib.hid (HI.out.below hB)
  clear hR hB
  obtain ⟨C, hC⟩ : ∃ C, C = nextC s st.p := ⟨_, rfl⟩
  obtain ⟨Q, hQ⟩ : ∃ Q, Q = nextW s st.p := ⟨_, rfl⟩
  have hsum := Bd.len HI.out.d hlt
  have hqs := nextW_le s st.p (by omega)
  have hqg := nextW_gt s st.p hlt
  have hbd := Bd.next HI.out.d
  rw [← hC, ← hQ] at hsum
  rw [← hQ] at hqs hqg hbd
  rw [← hC] at hc
  rw [← hC]
  have g2 := Blk.cell L1.out.i.r (j := 2) rfl
  have f2 := L1.out.i.r.frozen 2
  have g0 := Blk.cell L1.out.i.r (j := 0) rfl
  have HC := Lib.hid hC; have HQ := Lib.hid hQ; have HBD := Lib.hid hbd
  have hm := HI.out.m
  have HCR := Lib.hid (show 0 ≤ C ∧ C ≤ 1114111 by rw [HC.out]; exact nextC_in' s st.p hlt)
  clear hC hQ hbd
  have m40 : (C == 40) = false := by rw [hc]; rfl
  have m92 : (C == 92) = false := by rw [hc]; rfl
  have m91 : (C == 91) = false := by rw [hc]; rfl
  have m46 : (C == 46) = false := by rw [hc]; rfl
  have m94 : (C == 94) = true := by rw [hc]; rfl
  clear hc
  go_wp2_with fail
  go_region_with (go_at_call 81; refine (Tryz.utf8_RuneLen _ _).mono ?_; rintro e w9 ⟨rfl, rfl⟩)
  all_goals
    have hwr : IntKind.i64.wrap ((st.p : Int) + Lib.runeLen C) = (Q : Int) := by rw [hsum, IntKind.wrap_i64]; omega
    have L2 := Lib.hid (show Left w ((w1.setCell ⟨b, 2, none⟩ (.int .i64 (Q : Int))).drew) b lo s nv { st with p := Q } nv from (L1.out.grown (st' := { st with p := Q }) (Blk.set L1.out.i.r 2 _) (grownBy_setCell _ _ _ _) rfl hqs HBD.out (by show st.ns.length ≤ Q; omega)).below (Below.refl _ _).drew)
    go_wp2_with (rw [hwr])
    refine (syn_place b s st.f Q nv 4 1 _ L2.out.i.r).mono ?_
    rintro e w4 ⟨v, rfl, hT, hB⟩
    have L4 := Lib.hid (L2.out.below hB)
    have X4 := Lib.hid (lists_on L2.out (ListOut.lists rfl hT (L2.out.i.below hB) rfl (fun k hk => (L2.out.i.o.lt k hk).2)))
    clear hT hB
    go_wp2_with fail
    go_ret
    rw [← HQ.out, HV.out]
    exact X4.out
set_option maxRecDepth 100000 in
set_option maxHeartbeats 8000000 in
theorem atoms_end (b lo : Nat) (s : ByteArray) (st : St) (nv : Value) (w : World) (h : SynIn w b lo s st nv) (hs : s.size ≤ 100000000) (hlt : st.p < s.size) (hc : nextC s st.p = 36) :
    Calls Tryz.prog 62 #[.pointer (some ⟨b, 0, none⟩)] w (ListsOut w b lo s nv (.ok [leafT 5 0 [] (if onB st.f 4 = true then 8 else 2)] { st with p := nextW s st.p })) := by
  obtain ⟨V, hV⟩ : ∃ V, V = leafT 5 0 [] (if onB st.f 4 = true then 8 else 2) := ⟨_, rfl⟩
  rw [← hV]
  have HV := Lib.hid hV
  have HI := Lib.hid h
  clear h hV
  go_enter Tryz.func62, Tryz.ntmps62
  go_wp2_with fail
  refine (syn_next b s st.f st.p nv _ HI.out.r HI.out.e.t HI.out.p).mono ?_
  rintro e w1 ⟨rfl, hR, hB⟩
  have L1 := Lib.hid (HI.out.below hB)
  clear hR hB
  obtain ⟨C, hC⟩ : ∃ C, C = nextC s st.p := ⟨_, rfl⟩
  obtain ⟨Q, hQ⟩ : ∃ Q, Q = nextW s st.p := ⟨_, rfl⟩
  have hsum := Bd.len HI.out.d hlt
  have hqs := nextW_le s st.p (by omega)
  have hqg := nextW_gt s st.p hlt
  have hbd := Bd.next HI.out.d
  rw [← hC, ← hQ] at hsum
  rw [← hQ] at hqs hqg hbd
  rw [← hC] at hc
  rw [← hC]
  have g2 := Blk.cell L1.out.i.r (j := 2) rfl
  have f2 := L1.out.i.r.frozen 2
  have g0 := Blk.cell L1.out.i.r (j := 0) rfl
  have HC := Lib.hid hC; have HQ := Lib.hid hQ; have HBD := Lib.hid hbd
  have hm := HI.out.m
  have HCR := Lib.hid (show 0 ≤ C ∧ C ≤ 1114111 by rw [HC.out]; exact nextC_in' s st.p hlt)
  clear hC hQ hbd
  have m40 : (C == 40) = false := by rw [hc]; rfl
  have m92 : (C == 92) = false := by rw [hc]; rfl
  have m91 : (C == 91) = false := by rw [hc]; rfl
  have m46 : (C == 46) = false := by rw [hc]; rfl
  have m94 : (C == 94) = false := by rw [hc]; rfl
  have m36 : (C == 36) = true := by rw [hc]; rfl
  clear hc
  go_wp2_with fail
  go_region_with (go_at_call 81; refine (Tryz.utf8_RuneLen _ _).mono ?_; rintro e w9 ⟨rfl, rfl⟩)
  all_goals
    have hwr : IntKind.i64.wrap ((st.p : Int) + Lib.runeLen C) = (Q : Int) := by rw [hsum, IntKind.wrap_i64]; omega
    have L2 := Lib.hid (show Left w ((w1.setCell ⟨b, 2, none⟩ (.int .i64 (Q : Int))).drew) b lo s nv { st with p := Q } nv from (L1.out.grown (st' := { st with p := Q }) (Blk.set L1.out.i.r 2 _) (grownBy_setCell _ _ _ _) rfl hqs HBD.out (by show st.ns.length ≤ Q; omega)).below (Below.refl _ _).drew)
    go_wp2_with (rw [hwr])
    refine (syn_place b s st.f Q nv 8 2 _ L2.out.i.r).mono ?_
    rintro e w4 ⟨v, rfl, hT, hB⟩
    have L4 := Lib.hid (L2.out.below hB)
    have X4 := Lib.hid (lists_on L2.out (ListOut.lists rfl hT (L2.out.i.below hB) rfl (fun k hk => (L2.out.i.o.lt k hk).2)))
    clear hT hB
    go_wp2_with fail
    go_ret
    rw [← HQ.out, HV.out]
    exact X4.out
/-- What the reader's escape hands back. -/
def EscC (s : ByteArray) : Prop := ∀ (b lo : Nat) (st : St) (nv : Value) (w : World), SynIn w b lo s st nv → nextC s st.p = 92 → Calls Tryz.prog 78 #[.pointer (some ⟨b, 0, none⟩)] w (ListsOut w b lo s nv (escapeP s st))
/-- What the reader's atoms hand back at a class. -/
def ClsC (s : ByteArray) : Prop := ∀ (b lo : Nat) (st : St) (nv : Value) (w : World), SynIn w b lo s st nv → nextC s st.p = 91 → Calls Tryz.prog 62 #[.pointer (some ⟨b, 0, none⟩)] w (ListsOut w b lo s nv (match clsQ s st.p (onB st.f 32) (if onB st.f 1 then some foldF else none) with
      | .wrong e f t => .wrong e f t
      | .ok g q => .ok [setT (normL g)] { st with p := q }))
/-- What stands next. -/
theorem syn_atoms (s : ByteArray) (n : Nat) (hs : s.size ≤ 100000000) (hO : OpenC s n) (hE : EscC s) (hC : ClsC s) : AtomsC s (n + 1) := by
  intro b lo st nv w h hlt hn
  unfold atomsP
  by_cases c40 : nextC s st.p = 40
  · rw [if_pos c40]
    exact atoms_open b lo s st nv w h c40 _ fun W hW => hO b lo st nv W hW hlt c40 (by omega)
  rw [if_neg c40]
  by_cases c92 : nextC s st.p = 92
  · rw [if_pos c92]
    exact atoms_esc b lo s st nv w h c92 _ fun W hW => hE b lo st nv W hW c92
  rw [if_neg c92]
  by_cases c91 : nextC s st.p = 91
  · rw [if_pos c91]
    exact hC b lo st nv w h c91
  rw [if_neg c91]
  by_cases c46 : nextC s st.p = 46
  · rw [if_pos c46]
    exact atoms_dot b lo s st nv w h hs hlt c46
  rw [if_neg c46]
  by_cases c94 : nextC s st.p = 94
  · rw [if_pos c94]
    exact atoms_begin b lo s st nv w h hs hlt c94
  rw [if_neg c94]
  by_cases c36 : nextC s st.p = 36
  · rw [if_pos c36]
    exact atoms_end b lo s st nv w h hs hlt c36
  rw [if_neg c36]
  exact atoms_rune b lo s st nv w h hs hlt c40 c92 c91 c46 c94 c36
end Go.Proofs.YtnhnldmldnhaoaaGreatDoor
