/- The reader of patterns: a repeat's sign, its counts. -/
import Derived.Test.YtnhnldmldnhaoaaGreatDoorDSyTree
import Derived.Test.YtnhnldmldnhaoaaGreatDoorDSynEsc
import Derived.Deep.RegionHeld3
namespace Go.Proofs.YtnhnldmldnhaoaaGreatDoor
open Go Go.RowKit Go.Proofs Go.Shelf

theorem cell_keepU9 {a c : World} {b o : Nat} {v : Value} (hb : Below a.heap.size a c) (hc : a.cell? ⟨b, o, none⟩ = some v) : c.cell? ⟨b, o, none⟩ = some v := cell_lift hb (by
  rcases Nat.lt_or_ge b a.heap.size with h' | h'
  · exact h'
  · simp [World.cell?, Array.getElem?_eq_none h'] at hc) hc
/-- The cells of a repeat, its Kids aside. -/
def repC (op : Int) (ka : Option Addr) (kn kc : Nat) (mn mx : Int) (lz : Bool) : List Value := [.int .i64 op, .slice ka kn kc, .int .i32 0, .slice none 0 0, .int .i64 0, .int .i64 0, .string ⟨#[]⟩, .int .i64 mn, .int .i64 mx, .bool lz]
set_option maxRecDepth 100000 in
set_option maxHeartbeats 2000000 in
theorem syn_sized_ok (b : Nat) (op : Int) (ka : Option Addr) (kn kc : Nat) (mn mx : Int) (lz : Bool) (fr : Int) (w : World) (hb : ¬ badCount op mn mx) :
    Calls Tryz.prog 84 #[.pointer (some ⟨b, 0, none⟩), .agg (repC op ka kn kc mn mx lz).toArray, .int .i64 fr] w fun e w' => e = .returned (.tuple #[]) ∧ Below w.heap.size w w' := by
  unfold repC
  by_cases c1 : op = 10
  case neg =>
    have c1' : (op == 10) = false := by simpa using c1
    clear c1 hb
    go_enter Tryz.func84, Tryz.ntmps84
    go_wp2_with fail
    refine ⟨rfl, .tuple #[], ?_, rfl, (Below.refl _ w).alloc (Nat.le_refl _) _⟩
    simp [results, Tryz.results84]
  case pos =>
    subst c1
    have c2 : ¬ 1000 < max mn mx := fun h => hb ⟨rfl, .inl h⟩
    by_cases c3 : 0 ≤ mx
    · have c4 : ¬ mx < mn := fun h => hb ⟨rfl, .inr ⟨c3, h⟩⟩
      clear hb
      go_enter Tryz.func84, Tryz.ntmps84
      go_wp2_with fail
      refine ⟨rfl, .tuple #[], ?_, rfl, (Below.refl _ w).alloc (Nat.le_refl _) _⟩
      simp [results, Tryz.results84]
    · clear hb
      go_enter Tryz.func84, Tryz.ntmps84
      go_wp2_with fail
      refine ⟨rfl, .tuple #[], ?_, rfl, (Below.refl _ w).alloc (Nat.le_refl _) _⟩
      simp [results, Tryz.results84]
set_option maxRecDepth 100000 in
set_option maxHeartbeats 2000000 in
theorem syn_sized_bad (b : Nat) (s : ByteArray) (f : Int) (p : Nat) (nv : Value) (op : Int) (ka : Option Addr) (kn kc : Nat) (mn mx : Int) (lz : Bool) (fr : Int) (w : World) (h : SyR w b s f p nv) (hb : badCount op mn mx) :
    Calls Tryz.prog 84 #[.pointer (some ⟨b, 0, none⟩), .agg (repC op ka kn kc mn mx lz).toArray, .int .i64 fr] w fun e w' => e = synE 85 fr p ∧ Below w.heap.size w w' := by
  have H := Lib.hid (h.alloc (.cells (repC op ka kn kc mn mx lz).toArray 29))
  clear h
  unfold repC at H ⊢
  obtain ⟨rfl, hb⟩ := hb
  have k2 := Blk.cell H.out (j := 2) rfl
  by_cases c2 : 1000 < max mn mx
  · clear hb
    go_enter Tryz.func84, Tryz.ntmps84
    go_wp2_with fail
    refine (syn_stop _ _ _ _).mono ?_
    rintro e w9 ⟨rfl, rfl⟩
    exact ⟨rfl, rfl, (Below.refl _ w).alloc (Nat.le_refl _) _⟩
  · obtain ⟨c3, c4⟩ := hb.resolve_left c2
    clear hb
    go_enter Tryz.func84, Tryz.ntmps84
    go_wp2_with fail
    refine (syn_stop _ _ _ _).mono ?_
    rintro e w9 ⟨rfl, rfl⟩
    exact ⟨rfl, rfl, (Below.refl _ w).alloc (Nat.le_refl _) _⟩
theorem syn_has_yes (b : Nat) (s : ByteArray) (c : UInt8) (f : Int) (p : Nat) (nv : Value) (w : World) (h : SyR w b s f p nv) (hp : p ≤ s.size) (hs : s.size ≤ 1000000000000000) (hy : stands s p [c] = true) :
    Calls Tryz.prog 48 #[.pointer (some ⟨b, 0, none⟩), .string ⟨#[c]⟩] w fun e w' => e = .returned (.bool true) ∧ SyR w' b s f (p + 1) nv ∧ w.grownBy w' (some b) :=
  (syn_has b s ⟨#[c]⟩ f p nv w h hp hs).mono fun e w' ⟨h1, h2, h3⟩ => by
    have hy' : stands s p (⟨#[c]⟩ : ByteArray).data.toList = true := hy
    rw [hy'] at h1 h2
    exact ⟨h1, h2, h3⟩
theorem syn_has_no (b : Nat) (s : ByteArray) (c : UInt8) (f : Int) (p : Nat) (nv : Value) (w : World) (h : SyR w b s f p nv) (hp : p ≤ s.size) (hs : s.size ≤ 1000000000000000) (hy : stands s p [c] = false) :
    Calls Tryz.prog 48 #[.pointer (some ⟨b, 0, none⟩), .string ⟨#[c]⟩] w fun e w' => e = .returned (.bool false) ∧ SyR w' b s f p nv ∧ w.grownBy w' (some b) :=
  (syn_has b s ⟨#[c]⟩ f p nv w h hp hs).mono fun e w' ⟨h1, h2, h3⟩ => by
    have hy' : stands s p (⟨#[c]⟩ : ByteArray).data.toList = false := hy
    rw [hy'] at h1 h2
    exact ⟨h1, h2, h3⟩
/-- What a sign hands back. -/
def SignOut (w : World) (b : Nat) (s : ByteArray) (f : Int) (nv : Value) (op mn mx : Int) (is : Bool) (q : Nat) (e : Ending) (w' : World) : Prop :=
  e = .returned (.tuple #[.agg (repC op none 0 0 mn mx false).toArray, .bool is]) ∧ SyR w' b s f q nv ∧ w.grownBy w' (some b)
set_option maxRecDepth 100000 in
set_option maxHeartbeats 4000000 in
theorem syn_sign_star (b : Nat) (s : ByteArray) (f : Int) (p : Nat) (nv : Value) (w : World) (h : SyR w b s f p nv) (hp : p ≤ s.size) (hs : s.size ≤ 100000000000000) (hy : stands s p [42] = true) :
    Calls Tryz.prog 61 #[.pointer (some ⟨b, 0, none⟩)] w (SignOut w b s f nv 7 0 0 true (p + 1)) := by
  have hne : b ≠ w.heap.size := by have := h.lt; omega
  have H := Lib.hid (show SyR (w.alloc (.cells zero10.toArray 29)) b s f p nv from Blk.alloc h _)
  have K := Lib.hid (Blk.new w zero10 29)
  have G := Lib.hid (grownBy_alloc w (.cells zero10.toArray 29) (some b))
  clear h
  go_enter Tryz.func61, Tryz.ntmps61
  go_wp2_with fail
  refine (syn_has_yes b s 42 f p nv _ H.out hp (by omega) hy).mono ?_
  rintro e w1 ⟨rfl, hR, hG⟩
  have K1 := Lib.hid (K.out.grown hG (ne_some hne.symm)); have R1 := Lib.hid hR; have G1 := Lib.hid (grownBy_trans G.out hG)
  clear hR hG
  obtain ⟨c0, c1, c2, c3, c4, c5, c6, c7, c8, c9, f0, f1, f2, f3, f4, f5, f6, f7, f8, f9⟩ := K1.out.ten
  go_wp2_with fail
  change bodyPost _ _ _ _ _ (World.set10 w1 w.heap.size (.int .i64 7) (.slice none 0 0) (.int .i32 0) (.slice none 0 0) (.int .i64 0) (.int .i64 0) (.string ⟨#[]⟩) (.int .i64 0) (.int .i64 0) (.bool false))
  have O := K1.out.set10 (.int .i64 7) (.slice none 0 0) (.int .i32 0) (.slice none 0 0) (.int .i64 0) (.int .i64 0) (.string ⟨#[]⟩) (.int .i64 0) (.int .i64 0) (.bool false)
  obtain ⟨d0, d1, d2, d3, d4, d5, d6, d7, d8, d9, _, _, _, _, _, _, _, _, _, _⟩ := O.ten
  refine ⟨rfl, .tuple #[.agg (repC 7 none 0 0 0 0 false).toArray, .bool true], ?_, rfl, Blk.set10_other R1.out hne _ _ _ _ _ _ _ _ _ _, grownBy_new10 G1.out (Nat.le_refl _) _ _ _ _ _ _ _ _ _ _⟩
  simp [results, Tryz.results61, go_sem, repC, d0, d1, d2, d3, d4, d5, d6, d7, d8, d9]
set_option maxRecDepth 100000 in
set_option maxHeartbeats 4000000 in
theorem syn_sign_plus (b : Nat) (s : ByteArray) (f : Int) (p : Nat) (nv : Value) (w : World) (h : SyR w b s f p nv) (hp : p ≤ s.size) (hs : s.size ≤ 100000000000000) (n42 : stands s p [42] = false) (hy : stands s p [43] = true) :
    Calls Tryz.prog 61 #[.pointer (some ⟨b, 0, none⟩)] w (SignOut w b s f nv 8 0 0 true (p + 1)) := by
  have hne : b ≠ w.heap.size := by have := h.lt; omega
  have H := Lib.hid (show SyR (w.alloc (.cells zero10.toArray 29)) b s f p nv from Blk.alloc h _)
  have K := Lib.hid (Blk.new w zero10 29)
  have G := Lib.hid (grownBy_alloc w (.cells zero10.toArray 29) (some b))
  clear h
  go_enter Tryz.func61, Tryz.ntmps61
  go_wp2_with fail
  refine (syn_has_no b s 42 f p nv _ H.out hp (by omega) n42).mono ?_
  rintro e w1 ⟨rfl, hR, hG⟩
  have H := Lib.hid hR; have K := Lib.hid (K.out.grown hG (ne_some hne.symm)); have G := Lib.hid (grownBy_trans G.out hG)
  clear hR hG
  go_wp2_with fail
  refine (syn_has_yes b s 43 f p nv _ H.out hp (by omega) hy).mono ?_
  rintro e w1 ⟨rfl, hR, hG⟩
  have K1 := Lib.hid (K.out.grown hG (ne_some hne.symm)); have R1 := Lib.hid hR; have G1 := Lib.hid (grownBy_trans G.out hG)
  clear hR hG
  obtain ⟨c0, c1, c2, c3, c4, c5, c6, c7, c8, c9, f0, f1, f2, f3, f4, f5, f6, f7, f8, f9⟩ := K1.out.ten
  go_wp2_with fail
  change bodyPost _ _ _ _ _ (World.set10 w1 w.heap.size (.int .i64 8) (.slice none 0 0) (.int .i32 0) (.slice none 0 0) (.int .i64 0) (.int .i64 0) (.string ⟨#[]⟩) (.int .i64 0) (.int .i64 0) (.bool false))
  have O := K1.out.set10 (.int .i64 8) (.slice none 0 0) (.int .i32 0) (.slice none 0 0) (.int .i64 0) (.int .i64 0) (.string ⟨#[]⟩) (.int .i64 0) (.int .i64 0) (.bool false)
  obtain ⟨d0, d1, d2, d3, d4, d5, d6, d7, d8, d9, _, _, _, _, _, _, _, _, _, _⟩ := O.ten
  refine ⟨rfl, .tuple #[.agg (repC 8 none 0 0 0 0 false).toArray, .bool true], ?_, rfl, Blk.set10_other R1.out hne _ _ _ _ _ _ _ _ _ _, grownBy_new10 G1.out (Nat.le_refl _) _ _ _ _ _ _ _ _ _ _⟩
  simp [results, Tryz.results61, go_sem, repC, d0, d1, d2, d3, d4, d5, d6, d7, d8, d9]
set_option maxRecDepth 100000 in
set_option maxHeartbeats 4000000 in
theorem syn_sign_quest (b : Nat) (s : ByteArray) (f : Int) (p : Nat) (nv : Value) (w : World) (h : SyR w b s f p nv) (hp : p ≤ s.size) (hs : s.size ≤ 100000000000000) (n42 : stands s p [42] = false) (n43 : stands s p [43] = false) (hy : stands s p [63] = true) :
    Calls Tryz.prog 61 #[.pointer (some ⟨b, 0, none⟩)] w (SignOut w b s f nv 9 0 0 true (p + 1)) := by
  have hne : b ≠ w.heap.size := by have := h.lt; omega
  have H := Lib.hid (show SyR (w.alloc (.cells zero10.toArray 29)) b s f p nv from Blk.alloc h _)
  have K := Lib.hid (Blk.new w zero10 29)
  have G := Lib.hid (grownBy_alloc w (.cells zero10.toArray 29) (some b))
  clear h
  go_enter Tryz.func61, Tryz.ntmps61
  go_wp2_with fail
  refine (syn_has_no b s 42 f p nv _ H.out hp (by omega) n42).mono ?_
  rintro e w1 ⟨rfl, hR, hG⟩
  have H := Lib.hid hR; have K := Lib.hid (K.out.grown hG (ne_some hne.symm)); have G := Lib.hid (grownBy_trans G.out hG)
  clear hR hG
  go_wp2_with fail
  refine (syn_has_no b s 43 f p nv _ H.out hp (by omega) n43).mono ?_
  rintro e w1 ⟨rfl, hR, hG⟩
  have H := Lib.hid hR; have K := Lib.hid (K.out.grown hG (ne_some hne.symm)); have G := Lib.hid (grownBy_trans G.out hG)
  clear hR hG
  go_wp2_with fail
  refine (syn_has_yes b s 63 f p nv _ H.out hp (by omega) hy).mono ?_
  rintro e w1 ⟨rfl, hR, hG⟩
  have K1 := Lib.hid (K.out.grown hG (ne_some hne.symm)); have R1 := Lib.hid hR; have G1 := Lib.hid (grownBy_trans G.out hG)
  clear hR hG
  obtain ⟨c0, c1, c2, c3, c4, c5, c6, c7, c8, c9, f0, f1, f2, f3, f4, f5, f6, f7, f8, f9⟩ := K1.out.ten
  go_wp2_with fail
  change bodyPost _ _ _ _ _ (World.set10 w1 w.heap.size (.int .i64 9) (.slice none 0 0) (.int .i32 0) (.slice none 0 0) (.int .i64 0) (.int .i64 0) (.string ⟨#[]⟩) (.int .i64 0) (.int .i64 0) (.bool false))
  have O := K1.out.set10 (.int .i64 9) (.slice none 0 0) (.int .i32 0) (.slice none 0 0) (.int .i64 0) (.int .i64 0) (.string ⟨#[]⟩) (.int .i64 0) (.int .i64 0) (.bool false)
  obtain ⟨d0, d1, d2, d3, d4, d5, d6, d7, d8, d9, _, _, _, _, _, _, _, _, _, _⟩ := O.ten
  refine ⟨rfl, .tuple #[.agg (repC 9 none 0 0 0 0 false).toArray, .bool true], ?_, rfl, Blk.set10_other R1.out hne _ _ _ _ _ _ _ _ _ _, grownBy_new10 G1.out (Nat.le_refl _) _ _ _ _ _ _ _ _ _ _⟩
  simp [results, Tryz.results61, go_sem, repC, d0, d1, d2, d3, d4, d5, d6, d7, d8, d9]
set_option maxRecDepth 100000 in
set_option maxHeartbeats 4000000 in
theorem syn_sign_count (b : Nat) (s : ByteArray) (f : Int) (p : Nat) (nv : Value) (w : World) (h : SyR w b s f p nv) (hp : p ≤ s.size) (hs : s.size ≤ 100000000000000) (n42 : stands s p [42] = false) (n43 : stands s p [43] = false) (n63 : stands s p [63] = false) (m n : Int) (q : Nat) (hc : countP s p = some (m, n, q)) :
    Calls Tryz.prog 61 #[.pointer (some ⟨b, 0, none⟩)] w (SignOut w b s f nv 10 m n true q) := by
  have hne : b ≠ w.heap.size := by have := h.lt; omega
  have H := Lib.hid (show SyR (w.alloc (.cells zero10.toArray 29)) b s f p nv from Blk.alloc h _)
  have K := Lib.hid (Blk.new w zero10 29)
  have G := Lib.hid (grownBy_alloc w (.cells zero10.toArray 29) (some b))
  clear h
  have HC := Lib.hid (show ∀ W, Calls Tryz.prog 76 #[.string s, .int .i64 p] W fun e w' => e = .returned (.tuple #[.int .i64 m, .int .i64 n, .int .i64 (q : Int), .bool true]) ∧ Below W.heap.size W w' from fun W => (scan_Count s p W hp (by omega)).mono fun e w' h => by rw [hc] at h; exact h)
  clear hc
  go_enter Tryz.func61, Tryz.ntmps61
  go_wp2_with fail
  refine (syn_has_no b s 42 f p nv _ H.out hp (by omega) n42).mono ?_
  rintro e w1 ⟨rfl, hR, hG⟩
  have H := Lib.hid hR; have K := Lib.hid (K.out.grown hG (ne_some hne.symm)); have G := Lib.hid (grownBy_trans G.out hG)
  clear hR hG
  go_wp2_with fail
  refine (syn_has_no b s 43 f p nv _ H.out hp (by omega) n43).mono ?_
  rintro e w1 ⟨rfl, hR, hG⟩
  have H := Lib.hid hR; have K := Lib.hid (K.out.grown hG (ne_some hne.symm)); have G := Lib.hid (grownBy_trans G.out hG)
  clear hR hG
  go_wp2_with fail
  refine (syn_has_no b s 63 f p nv _ H.out hp (by omega) n63).mono ?_
  rintro e w1 ⟨rfl, hR, hG⟩
  have H := Lib.hid hR; have K := Lib.hid (K.out.grown hG (ne_some hne.symm)); have G := Lib.hid (grownBy_trans G.out hG)
  clear hR hG
  have g1 := Blk.cell H.out (j := 1) rfl
  have g2 := Blk.cell H.out (j := 2) rfl
  go_wp2_with fail
  have hg1 : (w1.drew).cell? ⟨b, 1, none⟩ = some (.string s) := g1
  have hg2 : (w1.drew).cell? ⟨b, 2, none⟩ = some (.int .i64 p) := g2
  go_region_held3 (fun w' => w'.cell? ⟨b, 1, none⟩ = some (.string s) ∧ w'.cell? ⟨b, 2, none⟩ = some (.int .i64 p)) (first | (exact ⟨cell_keepU9 hB (by assumption), cell_keepU9 hB (by assumption)⟩) | go_keep) (first | (go_at_call 76; refine (HC.out _).mono ?_; rintro e w9 ⟨rfl, hB⟩))
  have R9 := Lib.hid (show SyR w9 b s f p nv from Blk.below (show SyR w1.drew b s f p nv from H.out) hB H.out.lt)
  have K9 := Lib.hid (show Blk w9 w.heap.size zero10 29 from Blk.below (show Blk w1.drew w.heap.size zero10 29 from K.out) hB K.out.lt)
  have G9 := Lib.hid (grownBy_trans (grownBy_trans G.out (grownBy_drew _ _)) (grownBy_below hB _))
  clear hB hg1 hg2 g1 g2
  have hne' := hne.symm
  obtain ⟨c0, c1, c2, c3, c4, c5, c6, c7, c8, c9, f0, f1, f2, f3, f4, f5, f6, f7, f8, f9⟩ := K9.out.ten
  have g2 := Blk.cell R9.out (j := 2) rfl
  have k2 := R9.out.frozen 2
  go_wp2_with fail
  change bodyPost _ _ _ _ _ (World.set10 (w9.setCell ⟨b, 2, none⟩ (.int .i64 q)) w.heap.size (.int .i64 10) (.slice none 0 0) (.int .i32 0) (.slice none 0 0) (.int .i64 0) (.int .i64 0) (.string ⟨#[]⟩) (.int .i64 m) (.int .i64 n) (.bool false))
  have O := (K9.out.setCell_other (a := ⟨b, 2, none⟩) hne' (.int .i64 q)).set10 (.int .i64 10) (.slice none 0 0) (.int .i32 0) (.slice none 0 0) (.int .i64 0) (.int .i64 0) (.string ⟨#[]⟩) (.int .i64 m) (.int .i64 n) (.bool false)
  obtain ⟨d0, d1, d2, d3, d4, d5, d6, d7, d8, d9, _, _, _, _, _, _, _, _, _, _⟩ := O.ten
  refine ⟨rfl, .tuple #[.agg (repC 10 none 0 0 m n false).toArray, .bool true], ?_, rfl, Blk.set10_other (Blk.set R9.out 2 _) hne _ _ _ _ _ _ _ _ _ _, grownBy_new10 (grownBy_trans G9.out (grownBy_setCell _ _ _ _)) (Nat.le_refl _) _ _ _ _ _ _ _ _ _ _⟩
  simp [results, Tryz.results61, go_sem, repC, d0, d1, d2, d3, d4, d5, d6, d7, d8, d9]
set_option maxRecDepth 100000 in
set_option maxHeartbeats 4000000 in
theorem syn_sign_none (b : Nat) (s : ByteArray) (f : Int) (p : Nat) (nv : Value) (w : World) (h : SyR w b s f p nv) (hp : p ≤ s.size) (hs : s.size ≤ 100000000000000) (n42 : stands s p [42] = false) (n43 : stands s p [43] = false) (n63 : stands s p [63] = false) (hc : countP s p = none) :
    Calls Tryz.prog 61 #[.pointer (some ⟨b, 0, none⟩)] w (SignOut w b s f nv 10 0 0 false p) := by
  have hne : b ≠ w.heap.size := by have := h.lt; omega
  have H := Lib.hid (show SyR (w.alloc (.cells zero10.toArray 29)) b s f p nv from Blk.alloc h _)
  have K := Lib.hid (Blk.new w zero10 29)
  have G := Lib.hid (grownBy_alloc w (.cells zero10.toArray 29) (some b))
  clear h
  have HC := Lib.hid (show ∀ W, Calls Tryz.prog 76 #[.string s, .int .i64 p] W fun e w' => e = .returned (.tuple #[.int .i64 0, .int .i64 0, .int .i64 0, .bool false]) ∧ Below W.heap.size W w' from fun W => (scan_Count s p W hp (by omega)).mono fun e w' h => by rw [hc] at h; exact h)
  clear hc
  go_enter Tryz.func61, Tryz.ntmps61
  go_wp2_with fail
  refine (syn_has_no b s 42 f p nv _ H.out hp (by omega) n42).mono ?_
  rintro e w1 ⟨rfl, hR, hG⟩
  have H := Lib.hid hR; have K := Lib.hid (K.out.grown hG (ne_some hne.symm)); have G := Lib.hid (grownBy_trans G.out hG)
  clear hR hG
  go_wp2_with fail
  refine (syn_has_no b s 43 f p nv _ H.out hp (by omega) n43).mono ?_
  rintro e w1 ⟨rfl, hR, hG⟩
  have H := Lib.hid hR; have K := Lib.hid (K.out.grown hG (ne_some hne.symm)); have G := Lib.hid (grownBy_trans G.out hG)
  clear hR hG
  go_wp2_with fail
  refine (syn_has_no b s 63 f p nv _ H.out hp (by omega) n63).mono ?_
  rintro e w1 ⟨rfl, hR, hG⟩
  have H := Lib.hid hR; have K := Lib.hid (K.out.grown hG (ne_some hne.symm)); have G := Lib.hid (grownBy_trans G.out hG)
  clear hR hG
  have g1 := Blk.cell H.out (j := 1) rfl
  have g2 := Blk.cell H.out (j := 2) rfl
  go_wp2_with fail
  have hg1 : (w1.drew).cell? ⟨b, 1, none⟩ = some (.string s) := g1
  have hg2 : (w1.drew).cell? ⟨b, 2, none⟩ = some (.int .i64 p) := g2
  go_region_held3 (fun w' => w'.cell? ⟨b, 1, none⟩ = some (.string s) ∧ w'.cell? ⟨b, 2, none⟩ = some (.int .i64 p)) (first | (exact ⟨cell_keepU9 hB (by assumption), cell_keepU9 hB (by assumption)⟩) | go_keep) (first | (go_at_call 76; refine (HC.out _).mono ?_; rintro e w9 ⟨rfl, hB⟩))
  have R9 := Lib.hid (show SyR w9 b s f p nv from Blk.below (show SyR w1.drew b s f p nv from H.out) hB H.out.lt)
  have K9 := Lib.hid (show Blk w9 w.heap.size zero10 29 from Blk.below (show Blk w1.drew w.heap.size zero10 29 from K.out) hB K.out.lt)
  have G9 := Lib.hid (grownBy_trans (grownBy_trans G.out (grownBy_drew _ _)) (grownBy_below hB _))
  clear hB hg1 hg2 g1 g2
  obtain ⟨c0, c1, c2, c3, c4, c5, c6, c7, c8, c9, f0, f1, f2, f3, f4, f5, f6, f7, f8, f9⟩ := K9.out.ten
  go_wp2_with fail
  change bodyPost _ _ _ _ _ (World.set10 w9 w.heap.size (.int .i64 10) (.slice none 0 0) (.int .i32 0) (.slice none 0 0) (.int .i64 0) (.int .i64 0) (.string ⟨#[]⟩) (.int .i64 0) (.int .i64 0) (.bool false))
  have O := K9.out.set10 (.int .i64 10) (.slice none 0 0) (.int .i32 0) (.slice none 0 0) (.int .i64 0) (.int .i64 0) (.string ⟨#[]⟩) (.int .i64 0) (.int .i64 0) (.bool false)
  obtain ⟨d0, d1, d2, d3, d4, d5, d6, d7, d8, d9, _, _, _, _, _, _, _, _, _, _⟩ := O.ten
  refine ⟨rfl, .tuple #[.agg (repC 10 none 0 0 0 0 false).toArray, .bool false], ?_, rfl, Blk.set10_other R9.out hne _ _ _ _ _ _ _ _ _ _, grownBy_new10 G9.out (Nat.le_refl _) _ _ _ _ _ _ _ _ _ _⟩
  simp [results, Tryz.results61, go_sem, repC, d0, d1, d2, d3, d4, d5, d6, d7, d8, d9]
/-- A sign, or none. -/
theorem syn_sign (b : Nat) (s : ByteArray) (f : Int) (p : Nat) (nv : Value) (w : World) (h : SyR w b s f p nv) (hp : p ≤ s.size) (hs : s.size ≤ 100000000000000) :
    Calls Tryz.prog 61 #[.pointer (some ⟨b, 0, none⟩)] w fun e w' =>
      match signP s p with
      | (some (op, mn, mx), q) => SignOut w b s f nv op mn mx true q e w'
      | (none, _) => SignOut w b s f nv 10 0 0 false p e w' := by
  unfold signP
  by_cases c1 : stands s p [42] = true
  · rw [if_pos c1]; exact syn_sign_star b s f p nv w h hp hs c1
  rw [if_neg c1]
  have n1 : stands s p [42] = false := by simpa using c1
  by_cases c2 : stands s p [43] = true
  · rw [if_pos c2]; exact syn_sign_plus b s f p nv w h hp hs n1 c2
  rw [if_neg c2]
  have n2 : stands s p [43] = false := by simpa using c2
  by_cases c3 : stands s p [63] = true
  · rw [if_pos c3]; exact syn_sign_quest b s f p nv w h hp hs n1 n2 c3
  rw [if_neg c3]
  have n3 : stands s p [63] = false := by simpa using c3
  cases hc : countP s p with
  | none => exact syn_sign_none b s f p nv w h hp hs n1 n2 n3 hc
  | some x => obtain ⟨m, n, q⟩ := x; exact syn_sign_count b s f p nv w h hp hs n1 n2 n3 m n q hc
end Go.Proofs.YtnhnldmldnhaoaaGreatDoor
