/- The reader of patterns: all its calls, at any fuel. The reader of patterns: a whole pattern. -/
import Derived.Test.YtnhnldmldnhaoaaGreatDoorDSyParts
import Derived.Test.YtnhnldmldnhaoaaGreatDoorDSyClose
import Derived.Test.YtnhnldmldnhaoaaGreatDoorDSyOpen
namespace Go.Proofs.YtnhnldmldnhaoaaGreatDoor
open Go Go.RowKit Go.Proofs Go.Shelf

/-- The contracts of the reader's calls, together. -/
structure AllC (s : ByteArray) (n : Nat) : Prop where
  parts : PartsC s n
  part : PartC s n
  atoms : AtomsC s n
  op : OpenC s n
  group : GroupC s n
  close : CloseC s n
theorem allC_zero (s : ByteArray) : AllC s 0 :=
  ⟨fun _ _ _ _ _ _ hn => absurd hn (by omega), fun _ _ _ _ _ _ hn => absurd hn (by omega), fun _ _ _ _ _ _ _ hn => absurd hn (by omega), fun _ _ _ _ _ _ _ _ hn => absurd hn (by omega), fun _ _ _ _ _ _ _ _ hn => absurd hn (by omega), fun _ _ _ _ _ _ hn => absurd hn (by omega)⟩
/-- The whole reader: whatever begins with a bracket, a backslash, a class is read as it should be. -/
theorem syn_all (s : ByteArray) (hs : s.size ≤ 100000000) (hE : EscC s) (hC : ClsC s) (hO : ∀ n, GroupC s n → CloseC s n → OpenC s (n + 1)) (n : Nat) : AllC s n := by
  induction n using Nat.strongRecOn with
  | _ n ih =>
    cases n with
    | zero => exact allC_zero s
    | succ n =>
      have h := ih n (Nat.lt_succ_self n)
      exact ⟨syn_parts s n hs fun m hm => (ih m (Nat.lt_succ_of_le hm)).part, syn_part s (n + 1) hs fun m hm => (ih m hm).atoms, syn_atoms s n hs h.op hE hC, hO n h.group h.close, syn_group s n hs h.close, syn_close s n (by omega) h.parts⟩
/-- A text without a backslash, a class, a (?. -/
theorem syn_all_plain (s : ByteArray) (hs : s.size ≤ 100000000) (h1 : ∀ p, nextC s p ≠ 92) (h2 : ∀ p, nextC s p ≠ 91) (h3 : ∀ p, stands s p [40, 63] = false) (n : Nat) : AllC s n :=
  syn_all s hs (fun _ _ st _ _ _ hc => absurd hc (h1 st.p)) (fun _ _ st _ _ _ hc => absurd hc (h2 st.p)) (fun n hG _ => syn_open_plain s n hs hG h3) n
end Go.Proofs.YtnhnldmldnhaoaaGreatDoor

namespace Go.Proofs.YtnhnldmldnhaoaaGreatDoor
open Go Go.RowKit Go.Proofs Go.Shelf

/-- A list that was handed back, as a slice. -/
theorem list_slice {w w' : World} {ts : List T} {v : Value} (h : ListOut w w' ts v) (hN : ts.length ≤ 140737488351232) : ∃ a c, v = .slice a ts.length c ∧ KidsS w' (fun k => Fresh w w' k) ts a ts.length c := by
  obtain ⟨xs, h1, h2⟩ := h
  exact (h2.turned (ok' := fun k => Fresh w w' k) (fun _ _ => rfl) (fun _ hk => hk.1)).slice h1 (fun g hg => h1.lt g hg) hN
set_option maxRecDepth 100000 in
set_option maxHeartbeats 8000000 in
theorem whole_lit (b lo : Nat) (s : ByteArray) (f : Int) (nv : Value) (w : World) (h : SynIn w b lo s ⟨0, f, []⟩ nv) (hs : s.size ≤ 100000000) (hf : onB f 2 = true) :
    Calls Tryz.prog 21 #[.pointer (some ⟨b, 0, none⟩)] w (TreeOut w b lo s nv (.ok (catT (runesT f s)) ⟨0, f, []⟩)) := by
  have hb := h.r.lt
  have hl := h.e.le
  have hne : b ≠ w.heap.size := by omega
  have hne' : w.heap.size ≠ b := by omega
  have hno : nv.ownBlock ≠ some w.heap.size := fun e => by have := (h.o.lt _ e).2; omega
  have hA : Below w.heap.size w (w.alloc (.cells zero10.toArray 29)) := (Below.refl _ w).alloc (Nat.le_refl _) _
  have L0 := Lib.hid (h.below hA)
  have K0 := Lib.hid (Blk.new w zero10 29)
  have g0 := Blk.cell L0.out.i.r (j := 0) rfl
  have HN := Lib.hid hno
  have hlen := runesT_len f s
  clear h hA hno
  go_enter Tryz.func21, Tryz.ntmps21
  go_wp2_with fail
  refine (syn_on f 2 _).mono ?_
  rintro e w1 ⟨rfl, hB⟩
  rw [hf]
  have L1 := Lib.hid ((L0.out.below hB).below (Below.refl _ w1).drew)
  have K1 := Lib.hid ((Blk.below K0.out hB K0.out.lt).drew)
  have D1 := Lib.hid (show (w1.drew).heap.size = w1.heap.size by simp)
  clear hB g0
  have g0 := Blk.cell L1.out.i.r (j := 0) rfl
  have g1 := Blk.cell L1.out.i.r (j := 1) rfl
  simp only [World.cell?_drew] at g0 g1
  obtain ⟨c0, c1, c2, c3, c4, c5, c6, c7, c8, c9, f0, f1, f2, f3, f4, f5, f6, f7, f8, f9⟩ := K1.out.ten
  simp only [World.cell?_drew, World.frozen?_drew] at c0 c1 c2 c3 c4 c5 c6 c7 c8 c9 f0 f1 f2 f3 f4 f5 f6 f7 f8 f9
  go_wp2_with fail
  go_region_held3 (fun w' => w'.cell? ⟨b, 0, none⟩ = some (.int .i64 f) ∧ w'.cell? ⟨b, 1, none⟩ = some (.string s)) (go_keep) (first
    | (go_at_call 34; refine (syn_text f s _ (by omega)).mono ?_; rintro e w4 ⟨v, rfl, hLO, hB⟩; obtain ⟨la, lc, rfl, hK⟩ := list_slice hLO (by omega); have L4 := Lib.hid (L1.out.below hB); have K4 := Lib.hid (Blk.below K1.out hB K1.out.lt); have KK := Lib.hid hK; have q0 := Blk.cell L4.out.i.r (j := 0) rfl; have q1 := Blk.cell L4.out.i.r (j := 1) rfl; clear hB hLO hK)
    | (go_at_call 33; refine (syn_cat _ la _ lc _ _ KK.out (fun k hk => hk.2)).mono ?_; rintro e w5 ⟨cs, rfl, hT, hB⟩; obtain ⟨op, ka, kn, kc, rune, xa, xn, xc, pl, cap, name, mn, mx, lz, rfl⟩ := hT.form; have L5 := Lib.hid (L4.out.below hB); have K5 := Lib.hid (Blk.below K4.out hB K4.out.lt); have TT := Lib.hid hT; have S5 := hB.size; have r0 := Blk.cell L5.out.i.r (j := 0) rfl; have r1 := Blk.cell L5.out.i.r (j := 1) rfl; obtain ⟨e0, e1, e2, e3, e4, e5, e6, e7, e8, e9, h0, h1, h2, h3, h4, h5, h6, h7, h8, h9⟩ := K5.out.ten; clear hB hT))
  go_wp2_with fail
  have hz1 := K1.out.lt
  change bodyPost _ _ _ _ _ (World.set10 w5 w.heap.size (.int .i64 op) (.slice ka kn kc) (.int .i32 rune) (.slice xa xn xc) (.int .i64 pl) (.int .i64 cap) (.string name) (.int .i64 mn) (.int .i64 mx) (.bool lz))
  have O := K5.out.set10 (.int .i64 op) (.slice ka kn kc) (.int .i32 rune) (.slice xa xn xc) (.int .i64 pl) (.int .i64 cap) (.string name) (.int .i64 mn) (.int .i64 mx) (.bool lz)
  obtain ⟨d0, d1, d2, d3, d4, d5, d6, d7, d8, d9, _, _, _, _, _, _, _, _, _, _⟩ := O.ten
  refine ⟨rfl, .agg #[.int .i64 op, .slice ka kn kc, .int .i32 rune, .slice xa xn xc, .int .i64 pl, .int .i64 cap, .string name, .int .i64 mn, .int .i64 mx, .bool lz], ?_, tree_back L5.out hb hl HN.out (TT.out.turned (fun _ _ => rfl) (fun k hk => ⟨by have := hk.1; omega, by have := hk.2; omega, fun e => by have := (L1.out.i.o.lt _ e).2; have := hk.1; omega⟩))⟩
  simp [results, Tryz.results21, go_sem, d0, d1, d2, d3, d4, d5, d6, d7, d8, d9]

set_option maxRecDepth 100000 in
set_option maxHeartbeats 8000000 in
theorem whole_wrong (b lo : Nat) (s : ByteArray) (f : Int) (nv : Value) (w : World) (h : SynIn w b lo s ⟨0, f, []⟩ nv) (hf : onB f 2 = false) (x a d : Int)
    (hP : ∀ W, SynIn W b lo s ⟨0, f, []⟩ nv → Calls Tryz.prog 35 #[.pointer (some ⟨b, 0, none⟩)] W (TreeOut W b lo s nv (.wrong x a d))) :
    Calls Tryz.prog 21 #[.pointer (some ⟨b, 0, none⟩)] w (TreeOut w b lo s nv (.wrong x a d)) := by
  have L0 := Lib.hid (h.below ((Below.refl _ w).alloc (Nat.le_refl _) (.cells zero10.toArray 29)))
  have g0 := Blk.cell L0.out.i.r (j := 0) rfl
  have HP := Lib.hid hP
  clear h hP
  go_enter Tryz.func21, Tryz.ntmps21
  go_wp2_with fail
  refine (syn_on f 2 _).mono ?_
  rintro e w1 ⟨rfl, hB⟩
  rw [hf]
  have L1 := Lib.hid (L0.out.below hB)
  clear hB g0
  go_wp2_with fail
  refine (HP.out _ L1.out.i).mono ?_
  rintro e w2 ⟨rfl, hg⟩
  exact ⟨rfl, rfl, L1.out.g.trans hg L1.out.mine⟩

set_option maxRecDepth 100000 in
set_option maxHeartbeats 8000000 in
theorem whole_ok (b lo : Nat) (s : ByteArray) (f : Int) (st1 : St) (nv : Value) (w : World) (h : SynIn w b lo s ⟨0, f, []⟩ nv) (hf : onB f 2 = false) (t : T)
    (hP : ∀ W, SynIn W b lo s ⟨0, f, []⟩ nv → Calls Tryz.prog 35 #[.pointer (some ⟨b, 0, none⟩)] W (TreeOut W b lo s nv (.ok t st1))) (hst : ¬ st1.p < s.size) :
    Calls Tryz.prog 21 #[.pointer (some ⟨b, 0, none⟩)] w (TreeOut w b lo s nv (.ok t st1)) := by
  have hb := h.r.lt
  have hl := h.e.le
  have hno := fun k hk => (h.o.lt k hk).2
  have hA : Below w.heap.size w (w.alloc (.cells zero10.toArray 29)) := (Below.refl _ w).alloc (Nat.le_refl _) _
  have L0 := Lib.hid (h.below hA)
  have K0 := Lib.hid (Blk.new w zero10 29)
  have g0 := Blk.cell L0.out.i.r (j := 0) rfl
  have HP := Lib.hid hP; have HNO := Lib.hid hno
  clear h hP hA hno
  go_enter Tryz.func21, Tryz.ntmps21
  go_wp2_with fail
  refine (syn_on f 2 _).mono ?_
  rintro e w0 ⟨rfl, hB⟩
  rw [hf]
  have L1 := Lib.hid (L0.out.below hB)
  have K1 := Lib.hid (Blk.below K0.out hB K0.out.lt)
  clear hB g0
  go_wp2_with fail
  refine (HP.out _ L1.out.i).mono ?_
  rintro e w1 ⟨cs, nv1, rfl, hT, hL⟩
  have hz0 := K1.out.lt
  have hne1 : nv1.ownBlock ≠ some w.heap.size := fun e => by
    rcases hL.v _ e with h2 | h2
    · have := HNO.out _ h2; omega
    · omega
  have K2 := Lib.hid (K1.out.grownF hL.g (by rintro (h2 | h2); omega; have := HNO.out _ h2; omega))
  obtain ⟨op, ka, kn, kc, rune, xa, xn, xc, pl, cap, name, mn, mx, lz, rfl⟩ := hT.form
  have L2 := Lib.hid (L1.out.trans hL); have N1 := Lib.hid hne1
  have T2 := Lib.hid (show TreeF w1 (fun k => w.heap.size + 1 ≤ k ∧ k < w1.heap.size ∧ ¬ nv1.ownBlock = some k) t _ from hT.turned (fun _ _ => rfl) (fun k hk => ⟨by have := hk.1.1; omega, hk.1.2, hk.2⟩))
  clear hT hL hne1
  have hA1 : Below w1.heap.size w1 (w1.alloc (.cells #[.int .i64 op, .slice ka kn kc, .int .i32 rune, .slice xa xn xc, .int .i64 pl, .int .i64 cap, .string name, .int .i64 mn, .int .i64 mx, .bool lz] 29)) := (Below.refl _ w1).alloc (Nat.le_refl _) _
  have L3 := Lib.hid (L2.out.below hA1)
  have Q3 := Lib.hid (Blk.new w1 [.int .i64 op, .slice ka kn kc, .int .i32 rune, .slice xa xn xc, .int .i64 pl, .int .i64 cap, .string name, .int .i64 mn, .int .i64 mx, .bool lz] 29)
  have B3 := Lib.hid hA1
  clear hA1
  have ht := syn_tail_nil (s := s) (p := st1.p) (by omega)
  go_wp2_with fail
  refine (syn_rest b s st1.f st1.p nv1 _ L3.out.i.r L3.out.i.p).mono ?_
  rintro e w3 ⟨rfl, hR, hB⟩
  rw [ht]
  have L4 := Lib.hid (L3.out.below hB)
  have Q4 := Lib.hid (Blk.below Q3.out hB Q3.out.lt)
  have B4 := Lib.hid (below_then B3.out hB)
  clear hR hB
  have K4 := Lib.hid (Blk.below K2.out B4.out K2.out.lt)
  obtain ⟨c0, c1, c2, c3, c4, c5, c6, c7, c8, c9, f0, f1, f2, f3, f4, f5, f6, f7, f8, f9⟩ := K4.out.ten
  obtain ⟨e0, e1, e2, e3, e4, e5, e6, e7, e8, e9, _, _, _, _, _, _, _, _, _, _⟩ := Q4.out.ten
  have T4 := Lib.hid (T2.out.turned (ok' := fun k => w.heap.size + 1 ≤ k ∧ k < w3.heap.size ∧ ¬ nv1.ownBlock = some k) (fun k hk => B4.out.block k hk.2.1) (fun k hk => ⟨hk.1, Nat.lt_of_lt_of_le hk.2.1 B4.out.size, hk.2.2⟩))
  go_wp2_with fail
  change bodyPost _ _ _ _ _ (World.set10 w3 w.heap.size (.int .i64 op) (.slice ka kn kc) (.int .i32 rune) (.slice xa xn xc) (.int .i64 pl) (.int .i64 cap) (.string name) (.int .i64 mn) (.int .i64 mx) (.bool lz))
  have O := K4.out.set10 (.int .i64 op) (.slice ka kn kc) (.int .i32 rune) (.slice xa xn xc) (.int .i64 pl) (.int .i64 cap) (.string name) (.int .i64 mn) (.int .i64 mx) (.bool lz)
  obtain ⟨d0, d1, d2, d3, d4, d5, d6, d7, d8, d9, _, _, _, _, _, _, _, _, _, _⟩ := O.ten
  refine ⟨rfl, .agg #[.int .i64 op, .slice ka kn kc, .int .i32 rune, .slice xa xn xc, .int .i64 pl, .int .i64 cap, .string name, .int .i64 mn, .int .i64 mx, .bool lz], ?_, tree_back L4.out hb hl N1.out T4.out⟩
  simp [results, Tryz.results21, go_sem, d0, d1, d2, d3, d4, d5, d6, d7, d8, d9]

set_option maxRecDepth 100000 in
set_option maxHeartbeats 8000000 in
theorem whole_left (b lo : Nat) (s : ByteArray) (f : Int) (st1 : St) (nv : Value) (w : World) (h : SynIn w b lo s ⟨0, f, []⟩ nv) (hf : onB f 2 = false) (t : T)
    (hP : ∀ W, SynIn W b lo s ⟨0, f, []⟩ nv → Calls Tryz.prog 35 #[.pointer (some ⟨b, 0, none⟩)] W (TreeOut W b lo s nv (.ok t st1))) (hst : st1.p < s.size) :
    Calls Tryz.prog 21 #[.pointer (some ⟨b, 0, none⟩)] w (TreeOut w b lo s nv (.wrong 84 0 s.size)) := by
  have L0 := Lib.hid (h.below ((Below.refl _ w).alloc (Nat.le_refl _) (.cells zero10.toArray 29)))
  have g0 := Blk.cell L0.out.i.r (j := 0) rfl
  have HP := Lib.hid hP
  clear h hP
  go_enter Tryz.func21, Tryz.ntmps21
  go_wp2_with fail
  refine (syn_on f 2 _).mono ?_
  rintro e w0 ⟨rfl, hB⟩
  rw [hf]
  have L1 := Lib.hid (L0.out.below hB)
  clear hB g0
  go_wp2_with fail
  refine (HP.out _ L1.out.i).mono ?_
  rintro e w1 ⟨cs, nv1, rfl, hT, hL⟩
  obtain ⟨op, ka, kn, kc, rune, xa, xn, xc, pl, cap, name, mn, mx, lz, rfl⟩ := hT.form
  have L3 := Lib.hid ((L1.out.trans hL).below ((Below.refl _ w1).alloc (Nat.le_refl _) (.cells #[.int .i64 op, .slice ka kn kc, .int .i32 rune, .slice xa xn xc, .int .i64 pl, .int .i64 cap, .string name, .int .i64 mn, .int .i64 mx, .bool lz] 29)))
  clear hT hL
  have ht := syn_tail_some (s := s) (p := st1.p) hst
  go_wp2_with fail
  refine (syn_rest b s st1.f st1.p nv1 _ L3.out.i.r L3.out.i.p).mono ?_
  rintro e w3 ⟨rfl, hR, hB⟩
  have L4 := Lib.hid (L3.out.below hB)
  clear hR hB
  have g1 := Blk.cell L4.out.i.r (j := 1) rfl
  go_wp2_with fail
  refine (syn_stop _ _ _ _).mono ?_
  rintro e w9 ⟨rfl, rfl⟩
  exact ⟨rfl, rfl, L4.out.g⟩

/-- A whole pattern. -/
theorem syn_whole (b lo : Nat) (s : ByteArray) (f : Int) (nv : Value) (w : World) (h : SynIn w b lo s ⟨0, f, []⟩ nv) (hs : s.size ≤ 100000000) (hA : ∀ n, AllC s n) :
    Calls Tryz.prog 21 #[.pointer (some ⟨b, 0, none⟩)] w (TreeOut w b lo s nv (wholeP s f)) := by
  have hq : ∀ W, SynIn W b lo s ⟨0, f, []⟩ nv → Calls Tryz.prog 35 #[.pointer (some ⟨b, 0, none⟩)] W (TreeOut W b lo s nv (partsP s (8 * s.size + 8) ⟨0, f, []⟩)) := fun W hW => (hA _).parts b lo _ nv W hW (by show 8 * (s.size - 0) + 4 ≤ 8 * s.size + 8; omega)
  have hf := (syn_fit s (8 * s.size + 8)).parts ⟨0, f, []⟩ h.p h.d (by show 8 * (s.size - 0) + 4 ≤ 8 * s.size + 8; omega)
  unfold wholeP
  cases hm : onB f 2 with
  | true => exact whole_lit b lo s f nv w h hs hm
  | false =>
    rw [if_neg (by simp)]
    cases hx : partsP s (8 * s.size + 8) ⟨0, f, []⟩ with
    | out => rw [hx] at hf; exact hf.elim
    | wrong x a d => rw [hx] at hq; exact whole_wrong b lo s f nv w h hm x a d hq
    | ok t st1 =>
      rw [hx] at hq
      simp only
      by_cases hst : st1.p < s.size
      · rw [if_pos hst]; exact whole_left b lo s f st1 nv w h hm t hq hst
      · rw [if_neg hst]; exact whole_ok b lo s f st1 nv w h hm t hq hst
end Go.Proofs.YtnhnldmldnhaoaaGreatDoor
