/- SyntaxDots: a pattern of one sign is the set, the place that the flags say: the law's walk. The library's two tables for UTF-8, off what a row lists. The wrap of a row whose contract wants both what the row lists of the library's tables and the world's shape. -/
import Derived.Test.YtnhnldmldnhaoaaGreatDoorDSyParse
import Derived.Test.YtnhnldmldnhaoaaGreatDoorDRefHas
import Derived.Test.YtnhnldmldnhaoaaGreatDoorDCount
import Derived.Lib.LaidU8
import Derived.KernelRfl
import GoSem.PinnedTables
import Derived.HandedShaped
import Derived.Handed
namespace Go.Proofs.YtnhnldmldnhaoaaGreatDoor
open Go Go.RowKit Go.Proofs Go.Shelf

theorem orb_46 : (orbL 46).length = 1 := by kernel_rfl
theorem orb_94 : (orbL 94).length = 1 := by kernel_rfl
theorem orb_36 : (orbL 36).length = 1 := by kernel_rfl
theorem atomT_one {f c : Int} (h : (orbL c).length = 1) : atomT f c = leafT 3 c [] 0 := by
  unfold atomT
  rw [if_neg (by rw [h]; omega)]
theorem text_46 (f : Int) : runesT f ⟨#[46]⟩ = [leafT 3 46 [] 0] := by rw [show runesT f ⟨#[46]⟩ = [atomT f 46] by kernel_rfl, atomT_one orb_46]
theorem text_94 (f : Int) : runesT f ⟨#[94]⟩ = [leafT 3 94 [] 0] := by rw [show runesT f ⟨#[94]⟩ = [atomT f 94] by kernel_rfl, atomT_one orb_94]
theorem text_36 (f : Int) : runesT f ⟨#[36]⟩ = [leafT 3 36 [] 0] := by rw [show runesT f ⟨#[36]⟩ = [atomT f 36] by kernel_rfl, atomT_one orb_36]
theorem setT_dot (f : Int) : setT (dotL f) = leafT 4 0 (dotL f) 0 := by
  unfold setT dotL
  split <;> rfl
theorem parts_46 (f : Int) : partsP ⟨#[46]⟩ 16 ⟨0, f, []⟩ = .ok (setT (dotL f)) ⟨1, f, []⟩ := by kernel_rfl
theorem parts_94 (f : Int) : partsP ⟨#[94]⟩ 16 ⟨0, f, []⟩ = .ok (leafT 5 0 [] (if onB f 4 = true then 4 else 1)) ⟨1, f, []⟩ := by kernel_rfl
theorem parts_36 (f : Int) : partsP ⟨#[36]⟩ 16 ⟨0, f, []⟩ = .ok (leafT 5 0 [] (if onB f 4 = true then 8 else 2)) ⟨1, f, []⟩ := by kernel_rfl
theorem leaf_weight (op rune : Int) (set : List (Int × Int)) (pl : Int) (h : op = 3 ∨ op = 4 ∨ op = 5) : weight (leafT op rune set pl) = 1 := by
  rcases h with rfl | rfl | rfl <;> (simp only [leafT, weight, weightK]; rfl)
/-- One sign, read. -/
theorem parse_sign (s : ByteArray) (f : Int) (lit t : T) (st : St) (hs : s.size = 1) (hv : Lib.validD s.data.toList = true) (h1 : runesT f s = [lit]) (h2 : partsP s 16 ⟨0, f, []⟩ = .ok t st) (hp : st.p = 1) (d1 : depth lit = 1) (d2 : depth t = 1) (w1 : weight lit = 1) (w2 : weight t = 1) (hf : 0 ≤ f ∧ f ≤ 63) :
    parseP s f = .ok (if onB f 2 = true then lit else t) := by
  unfold parseP
  rw [if_neg (by simp [hf]), if_neg (by omega), if_neg (by simp [hv])]
  unfold wholeP
  rw [hs, h1, h2]
  by_cases c : onB f 2 = true
  · rw [if_pos c, if_pos c]
    simp [catT, d1, w1]
  · rw [if_neg c, if_neg c]
    simp [hp, d2, w2]
theorem parse_46 (f : Int) (hf : 0 ≤ f ∧ f ≤ 63) : parseP ⟨#[46]⟩ f = .ok (if onB f 2 = true then leafT 3 46 [] 0 else leafT 4 0 (dotL f) 0) :=
  parse_sign _ f _ _ _ rfl (by kernel_rfl) (text_46 f) (by rw [parts_46, setT_dot]) rfl (depth_leaf _ _ _ _) (depth_leaf _ _ _ _) (leaf_weight _ _ _ _ (by simp)) (leaf_weight _ _ _ _ (by simp)) hf
theorem parse_94 (f : Int) (hf : 0 ≤ f ∧ f ≤ 63) : parseP ⟨#[94]⟩ f = .ok (if onB f 2 = true then leafT 3 94 [] 0 else leafT 5 0 [] (if onB f 4 = true then 4 else 1)) :=
  parse_sign _ f _ _ _ rfl (by kernel_rfl) (text_94 f) (parts_94 f) rfl (depth_leaf _ _ _ _) (depth_leaf _ _ _ _) (leaf_weight _ _ _ _ (by simp)) (leaf_weight _ _ _ _ (by simp)) hf
theorem parse_36 (f : Int) (hf : 0 ≤ f ∧ f ≤ 63) : parseP ⟨#[36]⟩ f = .ok (if onB f 2 = true then leafT 3 36 [] 0 else leafT 5 0 [] (if onB f 4 = true then 8 else 2)) :=
  parse_sign _ f _ _ _ rfl (by kernel_rfl) (text_36 f) (parts_36 f) rfl (depth_leaf _ _ _ _) (depth_leaf _ _ _ _) (leaf_weight _ _ _ _ (by simp)) (leaf_weight _ _ _ _ (by simp)) hf
theorem parse_flagsP (s : ByteArray) (f : Int) (hf : ¬ (0 ≤ f ∧ f ≤ 63)) : parseP s f = .error (1, 0, s.size) := by unfold parseP; rw [if_pos hf]
/-- What a call of Parse that reads a leaf hands back. -/
def LeafOut (w : World) (op rune : Int) (set : List (Int × Int)) (pl : Int) (e : Ending) (w' : World) : Prop := Below w.heap.size w w' ∧ ∃ (ka : Option Addr) (kc : Nat) (sa : Option Addr) (sc : Nat),
  e = .returned (.tuple #[.agg #[.int .i64 op, .slice ka 0 kc, .int .i32 rune, .slice sa set.length sc, .int .i64 pl, .int .i64 0, .string ⟨#[]⟩, .int .i64 0, .int .i64 0, .bool false], .agg #[.int .i64 0, .int .i64 0, .int .i64 0]]) ∧ RangesV w' w'.heap.size set sa set.length sc
theorem leaf_out {w w' : World} {e : Ending} {op rune : Int} {set : List (Int × Int)} {pl : Int} (h : ParseOut w (.ok (leafT op rune set pl)) e w') : LeafOut w op rune set pl e w' := by
  obtain ⟨hB, cs, rfl, hT⟩ := h
  obtain ⟨ka, kn, kc, sa, sn, sc, rfl, ⟨h0, _, _⟩, hS⟩ := (show TreeF _ _ (.mk op [] rune set pl 0 ⟨#[]⟩ 0 0 false) cs from hT).open
  obtain ⟨h1, h2, h3⟩ := hS
  subst h1
  obtain rfl : kn = 0 := h0
  refine ⟨hB, ka, kc, sa, sc, rfl, rfl, h2, ?_⟩
  rcases h3 with h3 | ⟨b, o, rfl, hk, hr⟩
  · exact .inl h3
  · exact .inr ⟨b, o, rfl, hk.2, hr⟩

/-- What a call of Parse that refuses hands back. -/
def BadOut (w : World) (x a d : Int) (e : Ending) (w' : World) : Prop := Below w.heap.size w w' ∧ e = .returned (.tuple #[.agg zero10.toArray, .agg #[.int .i64 x, .int .i64 a, .int .i64 d]])
theorem bad_out {w w' : World} {e : Ending} {x a d : Int} (h : ParseOut w (.error (x, a, d)) e w') : BadOut w x a d e w' := h
/-- Where a call's tree and error are kept. -/
structure KeptP (W : World) (b : Nat) (cs es : List Value) : Prop where
  t : Blk W b cs 29
  e : Blk W (b + 1) es 32
theorem KeptP.new (w : World) (cs es : List Value) : KeptP ((w.alloc (.cells cs.toArray 29)).alloc (.cells es.toArray 32)) w.heap.size cs es :=
  ⟨(Blk.new w cs 29).alloc _, by have := Blk.new (w.alloc (.cells cs.toArray 29)) es 32; rwa [World.size_alloc] at this⟩
theorem KeptP.below {W W' : World} {b : Nat} {cs es : List Value} (h : KeptP W b cs es) (hB : Below W.heap.size W W') : KeptP W' b cs es := ⟨Blk.below h.t hB h.t.lt, Blk.below h.e hB h.e.lt⟩
theorem below_two (w : World) (o o' : Obj) : Below w.heap.size w ((w.alloc o).alloc o') := ((Below.refl _ w).alloc (Nat.le_refl _) o).alloc (by simp) o'

set_option maxRecDepth 100000 in
set_option maxHeartbeats 8000000 in
theorem dots_bad (f : Int) (w : World) (hT : TabsM w) (hf : ¬ (0 ≤ f ∧ f ≤ 63)) : Calls Tryz.prog 5 #[.int .i64 f] w fun e w' => e = .returned (.bool true) ∧ Below w.heap.size w w' := by
  have HT := Lib.hid hT
  have H1 := Lib.hid (fun s W (hs : s.size = 1) (h : plainB s = true) (hW : TabsM W) => ((parse_plain s f W hW (by omega) (fun _ => h)).mono (R' := BadOut W 1 0 1) fun e w' h => by rw [parse_flagsP _ f hf, hs] at h; exact bad_out h))
  clear hT
  go_enter Tryz.func5, Tryz.ntmps5
  go_wp2_with fail
  refine (head08 w HT.out).mono ?_
  rintro e w1 ⟨rfl, hB⟩
  have B1 := Lib.hid hB; have T1 := Lib.hid (HT.out.below hB)
  clear hB
  go_wp2_with fail
  refine (H1.out ⟨#[46]⟩ _ rfl (by decide) T1.out).mono ?_
  rintro e w2 ⟨hB, rfl⟩
  have B2 := Lib.hid (below_then (below_then B1.out hB) (below_two w2 (.cells zero10.toArray 29) (.cells #[.int .i64 1, .int .i64 0, .int .i64 1] 32)))
  have K2 := Lib.hid (KeptP.new w2 zero10 [.int .i64 1, .int .i64 0, .int .i64 1])
  have T2 := Lib.hid (HT.out.below B2.out)
  clear hB
  go_wp2_with fail
  refine (H1.out ⟨#[94]⟩ _ rfl (by decide) T2.out).mono ?_
  rintro e w3 ⟨hB, rfl⟩
  have B3 := Lib.hid (below_then (below_then B2.out hB) (below_two w3 (.cells zero10.toArray 29) (.cells #[.int .i64 1, .int .i64 0, .int .i64 1] 32)))
  have J3 := Lib.hid ((K2.out.below hB).below (below_two w3 (.cells zero10.toArray 29) (.cells #[.int .i64 1, .int .i64 0, .int .i64 1] 32)))
  have K3 := Lib.hid (KeptP.new w3 zero10 [.int .i64 1, .int .i64 0, .int .i64 1])
  have T3 := Lib.hid (HT.out.below B3.out)
  clear hB
  go_wp2_with fail
  refine (H1.out ⟨#[36]⟩ _ rfl (by decide) T3.out).mono ?_
  rintro e w4 ⟨hB, rfl⟩
  have B4 := below_then (below_then B3.out hB) (below_two w4 (.cells zero10.toArray 29) (.cells #[.int .i64 1, .int .i64 0, .int .i64 1] 32))
  have J4 := ((J3.out.below hB).below (below_two w4 (.cells zero10.toArray 29) (.cells #[.int .i64 1, .int .i64 0, .int .i64 1] 32)))
  have L4 := ((K3.out.below hB).below (below_two w4 (.cells zero10.toArray 29) (.cells #[.int .i64 1, .int .i64 0, .int .i64 1] 32)))
  have K4 := KeptP.new w4 zero10 [.int .i64 1, .int .i64 0, .int .i64 1]
  clear hB
  change Below w.heap.size w ((w4.alloc (.cells zero10.toArray 29)).alloc (.cells #[.int .i64 1, .int .i64 0, .int .i64 1] 32)) at B4
  change KeptP ((w4.alloc (.cells zero10.toArray 29)).alloc (.cells #[.int .i64 1, .int .i64 0, .int .i64 1] 32)) _ _ _ at K4
  generalize hX : (w4.alloc (.cells zero10.toArray 29)).alloc (.cells #[.int .i64 1, .int .i64 0, .int .i64 1] 32) = X at B4 J4 L4 K4
  have c2 := Blk.cell J4.e (j := 0) rfl
  have c3 := Blk.cell L4.e (j := 0) rfl
  have c4 := Blk.cell K4.e (j := 0) rfl
  have BX := Lib.hid B4
  clear J4 L4 K4 B4
  by_cases h0 : f < 0
  · go_wp2_with fail
    go_ret
    exact ⟨rfl, BX.out⟩
  · have h1 : 63 < f := by omega
    go_wp2_with fail
    go_ret
    exact ⟨rfl, BX.out⟩

set_option maxRecDepth 100000 in
set_option maxHeartbeats 8000000 in
theorem dots_lit (f : Int) (w : World) (hT : TabsM w) (hf : 0 ≤ f ∧ f ≤ 63) (hl : onB f 2 = true) : Calls Tryz.prog 5 #[.int .i64 f] w fun e w' => e = .returned (.bool true) ∧ Below w.heap.size w w' := by
  have HT := Lib.hid hT
  have H46 := Lib.hid (fun W (hW : TabsM W) => ((parse_plain ⟨#[46]⟩ f W hW (by decide) (fun _ => by decide)).mono (R' := LeafOut W 3 46 [] 0) fun e w' h => by rw [parse_46 f hf, if_pos hl] at h; exact leaf_out h))
  have H94 := Lib.hid (fun W (hW : TabsM W) => ((parse_plain ⟨#[94]⟩ f W hW (by decide) (fun _ => by decide)).mono (R' := LeafOut W 3 94 [] 0) fun e w' h => by rw [parse_94 f hf, if_pos hl] at h; exact leaf_out h))
  have H36 := Lib.hid (fun W (hW : TabsM W) => ((parse_plain ⟨#[36]⟩ f W hW (by decide) (fun _ => by decide)).mono (R' := LeafOut W 3 36 [] 0) fun e w' h => by rw [parse_36 f hf, if_pos hl] at h; exact leaf_out h))
  have m2 : (bits .and .i64 f 2 != 0) = true := hl
  obtain ⟨f0, f63⟩ := hf
  clear hT hl
  go_enter Tryz.func5, Tryz.ntmps5
  go_wp2_with fail
  refine (head08 w HT.out).mono ?_
  rintro e w1 ⟨rfl, hB⟩
  have B1 := Lib.hid hB; have T1 := Lib.hid (HT.out.below hB)
  clear hB
  go_wp2_with fail
  refine (H46.out _ T1.out).mono ?_
  rintro e w2 ⟨hB, ka2, kc2, sa2, sc2, rfl, hr⟩
  have B2 := Lib.hid (below_then (below_then B1.out hB) (below_two w2 (.cells #[.int .i64 3, .slice ka2 0 kc2, .int .i32 46, .slice sa2 0 sc2, .int .i64 0, .int .i64 0, .string ⟨#[]⟩, .int .i64 0, .int .i64 0, .bool false] 29) (.cells #[.int .i64 0, .int .i64 0, .int .i64 0] 32)))
  have K2 := Lib.hid (KeptP.new w2 [.int .i64 3, .slice ka2 0 kc2, .int .i32 46, .slice sa2 0 sc2, .int .i64 0, .int .i64 0, .string ⟨#[]⟩, .int .i64 0, .int .i64 0, .bool false] [.int .i64 0, .int .i64 0, .int .i64 0])
  have T2 := Lib.hid (HT.out.below B2.out)
  clear hB hr
  go_wp2_with fail
  refine (H94.out _ T2.out).mono ?_
  rintro e w3 ⟨hB, ka3, kc3, sa3, sc3, rfl, hr⟩
  have B3 := Lib.hid (below_then (below_then B2.out hB) (below_two w3 (.cells #[.int .i64 3, .slice ka3 0 kc3, .int .i32 94, .slice sa3 0 sc3, .int .i64 0, .int .i64 0, .string ⟨#[]⟩, .int .i64 0, .int .i64 0, .bool false] 29) (.cells #[.int .i64 0, .int .i64 0, .int .i64 0] 32)))
  have K3 := Lib.hid (KeptP.new w3 [.int .i64 3, .slice ka3 0 kc3, .int .i32 94, .slice sa3 0 sc3, .int .i64 0, .int .i64 0, .string ⟨#[]⟩, .int .i64 0, .int .i64 0, .bool false] [.int .i64 0, .int .i64 0, .int .i64 0])
  have K2_3 := Lib.hid ((K2.out.below hB).below (below_two w3 (.cells #[.int .i64 3, .slice ka3 0 kc3, .int .i32 94, .slice sa3 0 sc3, .int .i64 0, .int .i64 0, .string ⟨#[]⟩, .int .i64 0, .int .i64 0, .bool false] 29) (.cells #[.int .i64 0, .int .i64 0, .int .i64 0] 32)))
  have T3 := Lib.hid (HT.out.below B3.out)
  clear hB hr
  go_wp2_with fail
  refine (H36.out _ T3.out).mono ?_
  rintro e w4 ⟨hB, ka4, kc4, sa4, sc4, rfl, hr⟩
  have B4 := Lib.hid (below_then (below_then B3.out hB) (below_two w4 (.cells #[.int .i64 3, .slice ka4 0 kc4, .int .i32 36, .slice sa4 0 sc4, .int .i64 0, .int .i64 0, .string ⟨#[]⟩, .int .i64 0, .int .i64 0, .bool false] 29) (.cells #[.int .i64 0, .int .i64 0, .int .i64 0] 32)))
  have K4 := Lib.hid (KeptP.new w4 [.int .i64 3, .slice ka4 0 kc4, .int .i32 36, .slice sa4 0 sc4, .int .i64 0, .int .i64 0, .string ⟨#[]⟩, .int .i64 0, .int .i64 0, .bool false] [.int .i64 0, .int .i64 0, .int .i64 0])
  have K2_4 := Lib.hid ((K2_3.out.below hB).below (below_two w4 (.cells #[.int .i64 3, .slice ka4 0 kc4, .int .i32 36, .slice sa4 0 sc4, .int .i64 0, .int .i64 0, .string ⟨#[]⟩, .int .i64 0, .int .i64 0, .bool false] 29) (.cells #[.int .i64 0, .int .i64 0, .int .i64 0] 32)))
  have K3_4 := Lib.hid ((K3.out.below hB).below (below_two w4 (.cells #[.int .i64 3, .slice ka4 0 kc4, .int .i32 36, .slice sa4 0 sc4, .int .i64 0, .int .i64 0, .string ⟨#[]⟩, .int .i64 0, .int .i64 0, .bool false] 29) (.cells #[.int .i64 0, .int .i64 0, .int .i64 0] 32)))
  have T4 := Lib.hid (HT.out.below B4.out)
  clear hB hr
  have J2 := K2_4.out
  have J3 := K3_4.out
  have J4 := K4.out
  have BX := B4.out
  have c2 := Blk.cell J2.e (j := 0) rfl
  have c3 := Blk.cell J3.e (j := 0) rfl
  have c4 := Blk.cell J4.e (j := 0) rfl
  have d20 := Blk.cell J2.t (j := 0) rfl
  have d22 := Blk.cell J2.t (j := 2) rfl
  have d32 := Blk.cell J3.t (j := 2) rfl
  have d42 := Blk.cell J4.t (j := 2) rfl
  have BX := Lib.hid BX
  clear J2 J3 J4 K2_4 K3_4 K4 T4 B4
  go_wp2_with fail
  go_ret
  exact ⟨rfl, BX.out⟩
set_option maxRecDepth 100000 in
set_option maxHeartbeats 8000000 in
theorem dots_plain (f : Int) (w : World) (hT : TabsM w) (f0 : 0 ≤ f) (f63 : f ≤ 63) (L : List (Int × Int)) (p1 p2 : Int) (D M : Bool) (h10 : hasB L 10 = D) (h97 : hasB L 97 = true) (hp : (M = true ∧ p1 = 4 ∧ p2 = 8) ∨ (M = false ∧ p1 = 1 ∧ p2 = 2))
    (h46 : ∀ W, TabsM W → Calls Tryz.prog 10 #[.string ⟨#[46]⟩, .int .i64 f] W (LeafOut W 4 0 L 0))
    (h94 : ∀ W, TabsM W → Calls Tryz.prog 10 #[.string ⟨#[94]⟩, .int .i64 f] W (LeafOut W 5 0 [] p1))
    (h36 : ∀ W, TabsM W → Calls Tryz.prog 10 #[.string ⟨#[36]⟩, .int .i64 f] W (LeafOut W 5 0 [] p2))
    (m2 : (bits .and .i64 f 2 != 0) = false) (m4 : (bits .and .i64 f 4 != 0) = M) (m8 : (bits .and .i64 f 8 != 0) = D) :
    Calls Tryz.prog 5 #[.int .i64 f] w fun e w' => e = .returned (.bool true) ∧ Below w.heap.size w w' := by
  have HT := Lib.hid hT
  have H46 := Lib.hid h46; have H94 := Lib.hid h94; have H36 := Lib.hid h36
  clear hT h46 h94 h36
  go_enter Tryz.func5, Tryz.ntmps5
  go_wp2_with fail
  refine (head08 w HT.out).mono ?_
  rintro e w1 ⟨rfl, hB⟩
  have B1 := Lib.hid hB; have T1 := Lib.hid (HT.out.below hB)
  clear hB
  go_wp2_with fail
  refine (H46.out _ T1.out).mono ?_
  rintro e w2 ⟨hB, ka2, kc2, sa2, sc2, rfl, hr⟩
  have B2 := Lib.hid (below_then (below_then B1.out hB) (below_two w2 (.cells #[.int .i64 4, .slice ka2 0 kc2, .int .i32 0, .slice sa2 L.length sc2, .int .i64 0, .int .i64 0, .string ⟨#[]⟩, .int .i64 0, .int .i64 0, .bool false] 29) (.cells #[.int .i64 0, .int .i64 0, .int .i64 0] 32)))
  have K2 := Lib.hid (KeptP.new w2 [.int .i64 4, .slice ka2 0 kc2, .int .i32 0, .slice sa2 L.length sc2, .int .i64 0, .int .i64 0, .string ⟨#[]⟩, .int .i64 0, .int .i64 0, .bool false] [.int .i64 0, .int .i64 0, .int .i64 0])
  have R2 := Lib.hid (hr.below (below_two w2 (.cells #[.int .i64 4, .slice ka2 0 kc2, .int .i32 0, .slice sa2 L.length sc2, .int .i64 0, .int .i64 0, .string ⟨#[]⟩, .int .i64 0, .int .i64 0, .bool false] 29) (.cells #[.int .i64 0, .int .i64 0, .int .i64 0] 32)))
  have T2 := Lib.hid (HT.out.below B2.out)
  have Z2 := Lib.hid (show w2.heap.size ≤ ((w2.alloc (.cells #[.int .i64 4, .slice ka2 0 kc2, .int .i32 0, .slice sa2 L.length sc2, .int .i64 0, .int .i64 0, .string ⟨#[]⟩, .int .i64 0, .int .i64 0, .bool false] 29)).alloc (.cells #[.int .i64 0, .int .i64 0, .int .i64 0] 32)).heap.size by simp; omega)
  clear hB hr
  go_wp2_with fail
  refine (H94.out _ T2.out).mono ?_
  rintro e w3 ⟨hB, ka3, kc3, sa3, sc3, rfl, hr⟩
  have B3 := Lib.hid (below_then (below_then B2.out hB) (below_two w3 (.cells #[.int .i64 5, .slice ka3 0 kc3, .int .i32 0, .slice sa3 0 sc3, .int .i64 p1, .int .i64 0, .string ⟨#[]⟩, .int .i64 0, .int .i64 0, .bool false] 29) (.cells #[.int .i64 0, .int .i64 0, .int .i64 0] 32)))
  have K3 := Lib.hid (KeptP.new w3 [.int .i64 5, .slice ka3 0 kc3, .int .i32 0, .slice sa3 0 sc3, .int .i64 p1, .int .i64 0, .string ⟨#[]⟩, .int .i64 0, .int .i64 0, .bool false] [.int .i64 0, .int .i64 0, .int .i64 0])
  have K2_3 := Lib.hid ((K2.out.below hB).below (below_two w3 (.cells #[.int .i64 5, .slice ka3 0 kc3, .int .i32 0, .slice sa3 0 sc3, .int .i64 p1, .int .i64 0, .string ⟨#[]⟩, .int .i64 0, .int .i64 0, .bool false] 29) (.cells #[.int .i64 0, .int .i64 0, .int .i64 0] 32)))
  have R3 := Lib.hid ((R2.out.below (hB.mono Z2.out)).below ((below_two w3 (.cells #[.int .i64 5, .slice ka3 0 kc3, .int .i32 0, .slice sa3 0 sc3, .int .i64 p1, .int .i64 0, .string ⟨#[]⟩, .int .i64 0, .int .i64 0, .bool false] 29) (.cells #[.int .i64 0, .int .i64 0, .int .i64 0] 32)).mono (Nat.le_trans Z2.out hB.size)))
  have Z3 := Lib.hid (show w2.heap.size ≤ ((w3.alloc (.cells #[.int .i64 5, .slice ka3 0 kc3, .int .i32 0, .slice sa3 0 sc3, .int .i64 p1, .int .i64 0, .string ⟨#[]⟩, .int .i64 0, .int .i64 0, .bool false] 29)).alloc (.cells #[.int .i64 0, .int .i64 0, .int .i64 0] 32)).heap.size by have := hB.size; have := Z2.out; simp at *; omega)
  have T3 := Lib.hid (HT.out.below B3.out)
  clear hB hr
  go_wp2_with fail
  refine (H36.out _ T3.out).mono ?_
  rintro e w4 ⟨hB, ka4, kc4, sa4, sc4, rfl, hr⟩
  have B4 := Lib.hid (below_then (below_then B3.out hB) (below_two w4 (.cells #[.int .i64 5, .slice ka4 0 kc4, .int .i32 0, .slice sa4 0 sc4, .int .i64 p2, .int .i64 0, .string ⟨#[]⟩, .int .i64 0, .int .i64 0, .bool false] 29) (.cells #[.int .i64 0, .int .i64 0, .int .i64 0] 32)))
  have K4 := Lib.hid (KeptP.new w4 [.int .i64 5, .slice ka4 0 kc4, .int .i32 0, .slice sa4 0 sc4, .int .i64 p2, .int .i64 0, .string ⟨#[]⟩, .int .i64 0, .int .i64 0, .bool false] [.int .i64 0, .int .i64 0, .int .i64 0])
  have K2_4 := Lib.hid ((K2_3.out.below hB).below (below_two w4 (.cells #[.int .i64 5, .slice ka4 0 kc4, .int .i32 0, .slice sa4 0 sc4, .int .i64 p2, .int .i64 0, .string ⟨#[]⟩, .int .i64 0, .int .i64 0, .bool false] 29) (.cells #[.int .i64 0, .int .i64 0, .int .i64 0] 32)))
  have K3_4 := Lib.hid ((K3.out.below hB).below (below_two w4 (.cells #[.int .i64 5, .slice ka4 0 kc4, .int .i32 0, .slice sa4 0 sc4, .int .i64 p2, .int .i64 0, .string ⟨#[]⟩, .int .i64 0, .int .i64 0, .bool false] 29) (.cells #[.int .i64 0, .int .i64 0, .int .i64 0] 32)))
  have R4 := Lib.hid ((R3.out.below (hB.mono Z3.out)).below ((below_two w4 (.cells #[.int .i64 5, .slice ka4 0 kc4, .int .i32 0, .slice sa4 0 sc4, .int .i64 p2, .int .i64 0, .string ⟨#[]⟩, .int .i64 0, .int .i64 0, .bool false] 29) (.cells #[.int .i64 0, .int .i64 0, .int .i64 0] 32)).mono (Nat.le_trans Z3.out hB.size)))
  clear hB hr
  have J2 := K2_4.out
  have J3 := K3_4.out
  have J4 := K4.out
  have c2 := Blk.cell J2.e (j := 0) rfl
  have c3 := Blk.cell J3.e (j := 0) rfl
  have c4 := Blk.cell J4.e (j := 0) rfl
  have d20 := Blk.cell J2.t (j := 0) rfl
  have d23 := Blk.cell J2.t (j := 3) rfl
  have d34 := Blk.cell J3.t (j := 4) rfl
  have d44 := Blk.cell J4.t (j := 4) rfl
  have BX := Lib.hid B4.out
  have HH10 := Lib.hid h10; have HH97 := Lib.hid h97
  clear J2 J3 J4 K2_4 K3_4 K4 B4 h10 h97
  rcases hp with ⟨rfl, rfl, rfl⟩ | ⟨rfl, rfl, rfl⟩ <;> cases D
  all_goals
    go_wp2_with fail
    refine (ref02_Has L sa2 sc2 _ 10 _ R4.out).mono ?_
    rintro e w5 ⟨rfl, rfl⟩
    rw [HH10.out]
    go_wp2_with fail
    refine (ref02_Has L sa2 sc2 _ 97 _ R4.out).mono ?_
    rintro e w6 ⟨rfl, rfl⟩
    rw [HH97.out]
    go_wp2_with fail
    go_ret
    exact ⟨rfl, BX.out⟩
/-- A pattern of one sign, whatever the flags. -/
theorem law_syntaxDots (f : Int) (w : World) (hT : TabsM w) : Calls Tryz.prog 5 #[.int .i64 f] w fun e w' => e = .returned (.bool true) ∧ Below w.heap.size w w' := by
  by_cases hf : 0 ≤ f ∧ f ≤ 63
  · cases hl : onB f 2 with
    | true => exact dots_lit f w hT hf hl
    | false =>
      have H46 := fun W (hW : TabsM W) => ((parse_plain ⟨#[46]⟩ f W hW (by decide) (fun _ => by decide)).mono (R' := LeafOut W 4 0 (dotL f) 0) fun e w' h => by rw [parse_46 f hf, if_neg (by rw [hl]; simp)] at h; exact leaf_out h)
      have H94 := fun W (hW : TabsM W) => ((parse_plain ⟨#[94]⟩ f W hW (by decide) (fun _ => by decide)).mono (R' := LeafOut W 5 0 [] (if onB f 4 = true then 4 else 1)) fun e w' h => by rw [parse_94 f hf, if_neg (by rw [hl]; simp)] at h; exact leaf_out h)
      have H36 := fun W (hW : TabsM W) => ((parse_plain ⟨#[36]⟩ f W hW (by decide) (fun _ => by decide)).mono (R' := LeafOut W 5 0 [] (if onB f 4 = true then 8 else 2)) fun e w' h => by rw [parse_36 f hf, if_neg (by rw [hl]; simp)] at h; exact leaf_out h)
      refine dots_plain f w hT hf.1 hf.2 (dotL f) _ _ (onB f 8) (onB f 4) ?_ ?_ ?_ H46 H94 H36 hl rfl rfl
      · unfold dotL; cases onB f 8 <;> decide
      · unfold dotL; cases onB f 8 <;> decide
      · cases onB f 4 <;> simp
  · exact dots_bad f w hT hf
end Go.Proofs.YtnhnldmldnhaoaaGreatDoor

namespace Go.Proofs.YtnhnldmldnhaoaaGreatDoor
open Go Go.RowKit Go.Proofs

theorem first_pinned : Go.Pinned.utf8First = Lib.firstData := by kernel_rfl

theorem tabs_of_laid {w : World} (h : Lib.VarReads Tryz.prog w "unicode/utf8.first" Go.Pinned.utf8First) (h4 : Lib.VarReads Tryz.prog w "unicode/utf8.acceptRanges" Lib.acceptData) : Tabs w :=
  utf8Tabs_of_reads { Tryz.lays197 with } ⟨by kernel_rfl, by kernel_rfl, by kernel_rfl, by kernel_rfl, by kernel_rfl, by kernel_rfl, by kernel_rfl⟩ (first_pinned ▸ h) h4
end Go.Proofs.YtnhnldmldnhaoaaGreatDoor

namespace Go.Proofs.YtnhnldmldnhaoaaGreatDoor
open Go

theorem returnsInHanded_of_change_and_shaped {H : Type} {enc : TypeId × Value → H} {a : Assume} {C : Checked} {os : Os} {f : FuncId} {fn : Func} {s : ChangeSpec} {conds : List PathCond} {apart fresh handsOn again : Bool} {X : World → Array Value → Prop}
    (hX : ∀ (w w' : World) (args : Array Value), w.heap = w'.heap → X w args → X w' args)
    (own : ownKnob C.prog.godebug = none) (started : os.Started) (noInit : C.prog.inits.idxOf? f = none) (hfn : C.prog.funcs[f]? = some fn)
    (witness : ∃ (w : World) (tape : Tape) (i : Input), w.os = os ∧ (w.forCall tape i).Shaped C.prog ∧ i.vars = [] ∧ Input.okWide C.prog (w.forCall tape i) .any w.heap.size f i ∧
      ((s.pre enc C.prog fn conds apart (w.forCall tape i).memory i.args ∧ X (w.forCall tape i).memory i.args) ∧ sizedMet enc C.prog fn (OpenSpec.ofChange s) apart (w.forCall tape i).memory i.args) ∧ a.holds C.prog (lone (Frame.enter C.prog f i.args .normal) [] (w.forCall tape i)))
    (contract : ∀ (W : World) (base : Nat) (args : Array Value) (ds gs : List (DataW H)) (before : List MemPlace),
      (∀ (j : Nat) t v, fn.params[j]? = some t → args[j]? = some v → Value.okWide C.prog W .any base t v) →
      DataW.Whole enc C.prog fn.params.toList s.vars apart W args.toList ds gs before →
      conds.all (PathCond.test C.prog ⟨fn.params.toList, ds, s.plain.varTypes C.prog, gs⟩) = true →
      (DataW.weightsEach C.prog (fn.params.toList ++ s.plain.varTypes C.prog) (ds ++ gs)).all (· ≤ reachBytes) = true → X W args →
      W.ShapedOpen C.prog →
      Calls C.prog f args W fun e W' => ∃ v, e = .returned v ∧ s.post enc C.prog fn apart fresh handsOn again W args v W') :
    ReturnsInHanded a C os f .any (fun w args => (s.pre enc C.prog fn conds apart w args ∧ X w args) ∧ sizedMet enc C.prog fn (OpenSpec.ofChange s) apart w args) (s.post enc C.prog fn apart fresh handsOn again) := by
  refine returnsInHanded_of_calls own started noInit witness ?_
  intro w tape i _ hsh _ hok hpre hholds
  obtain ⟨_, _, _, fn', hfn', _, _, _, _, hval⟩ := hok
  have e : fn' = fn := Option.some.inj (hfn'.symm.trans hfn)
  subst e
  obtain ⟨⟨⟨ds, gs, before, hw, hc⟩, hx⟩, hz⟩ := hpre
  have hw' := DataW.Whole.of_heap (w' := w.forCall tape i) (by rfl) hw
  refine (contract (w.forCall tape i) w.heap.size i.args ds gs before hval hw' hc (hz.weights hw) (hX _ _ _ (by rfl) hx) hsh).mono fun e W' ⟨v, he, hp⟩ => ?_
  subst he
  exact ChangeSpec.post_blind hp
end Go.Proofs.YtnhnldmldnhaoaaGreatDoor
