/- A tree's parts, in order, and the walk that hands them on. -/
import Derived.Test.YtihbmgpjihgodaaDoorBase
import Derived.Test.YtihbmgpjihgodaaDoorProg
import Derived.RangeFuncNested
import Derived.RangeFuncBound
import Derived.RangeFuncCalls
import Derived.RangeFuncLeaves
import Derived.RangeFuncWrites
import Derived.Shelf.Abstract
import Derived.Shelf.RegionOpen
import Derived.WalkKit
import Derived.OwnWalkIn
import Derived.TacticsInMore
import Derived.LoopNIn
import Derived.LoopIn
import Derived.Lib.Hide
namespace Go.Proofs.YtihbmgpjihgodaaDoor
open Go Go.RowKit Go.Proofs Go.Shelf
attribute [local go_sem] Oper.semAt_some

mutual
/-- All of a tree's parts, in order. -/
def parts : T → List T
  | .mk op kids rune set pl cap name mn mx lz => .mk op kids rune set pl cap name mn mx lz :: partsL kids
def partsL : List T → List T
  | [] => []
  | t :: ts => parts t ++ partsL ts
end
theorem partsL_append (a b : List T) : partsL (a ++ b) = partsL a ++ partsL b := by
  induction a with
  | nil => rfl
  | cons t a ih => simp [partsL, ih]
theorem partsL_take (l : List T) (k : Nat) (h : k < l.length) : partsL (l.take (k + 1)) = partsL (l.take k) ++ parts l[k] := by
  rw [List.take_succ_eq_append_getElem h, partsL_append]; simp [partsL]
theorem partsL_take_prefix (l : List T) (k : Nat) : partsL (l.take k) <+: partsL l := by
  have h := partsL_append (l.take k) (l.drop k)
  rw [List.take_append_drop] at h
  exact ⟨_, h.symm⟩

/-- A part with its cells, as they lay in a world. -/
abbrev Part (w0 : World) (B : Nat) (Pr : T → Prop) := { x : T × List Value // TreeV w0 B x.1 x.2 ∧ Pr x.1 }
theorem mem_partsL {l : List T} {k : Nat} (hk : k < l.length) {p : T} (h : p ∈ parts l[k]) : p ∈ partsL l := by
  have e := partsL_take_prefix l (k + 1)
  rw [partsL_take l k hk] at e
  exact e.subset (List.mem_append.2 (.inr h))
theorem mem_parts_kid {op : Int} {kids : List T} {rune : Int} {set : List (Int × Int)} {pl cap : Int} {name : ByteArray} {mn mx : Int} {lz : Bool} {k : Nat} (hk : k < kids.length) {p : T} (h : p ∈ parts kids[k]) :
    p ∈ parts (.mk op kids rune set pl cap name mn mx lz) := by
  simp only [parts, List.mem_cons]; exact .inr (mem_partsL hk h)
theorem mem_parts_self (t : T) : t ∈ parts t := by cases t; simp [parts]

/-- What a round keeps: what lay below a block; the trees' boxes that lie at or beyond another. -/
def KpT (n₀ L : Nat) (W W' : World) : Prop := Below n₀ W W' ∧ ∀ b, L ≤ b → ∀ (cs : Array Value) (z : Nat × Nat), W.heap[b]? = some (.cells cs 27 z) → W'.heap[b]? = W.heap[b]?
theorem KpT.refl (n₀ L : Nat) (W : World) : KpT n₀ L W W := ⟨Below.refl _ _, fun _ _ _ _ _ => rfl⟩
theorem KpT.trans {n₀ L : Nat} {A B C : World} (h : KpT n₀ L A B) (k : KpT n₀ L B C) : KpT n₀ L A C := by
  refine ⟨h.1.trans k.1, fun b hb cs z ho => ?_⟩
  have h1 := h.2 b hb cs z ho
  exact (k.2 b hb cs z (by rw [h1]; exact ho)).trans h1
theorem KpT.alloc {n₀ L : Nat} {W : World} (h : n₀ ≤ W.heap.size) (o : Obj) : KpT n₀ L W (W.alloc o) :=
  ⟨(Below.refl _ W).alloc h o, fun b _ _ _ ho => Below.heap_alloc W o b (Array.getElem?_eq_some_iff.1 ho).1⟩
theorem KpT.book {n₀ L : Nat} {w : World} (hn : n₀ ≤ w.heap.size) (W : World) (l : Nat) (o o' : Obj) (hl : w.heap.size ≤ l) (h : W.heap[l]? = some o) (hc : o.isCells = false) (hw : o.isWalk = false) : KpT n₀ L W (W.putObj l o') := by
  refine ⟨belowK_b hn W l o o' hl h hc hw, fun b _ cs z hp => ?_⟩
  have hne : b ≠ l := fun e => by rw [e, h] at hp; cases hp; cases hc
  exact (grownBy_putObj' W l o').block b (Array.getElem?_eq_some_iff.1 hp).1 (fun e => hne (Option.some.inj e))
/-- A box of cells at or beyond it. -/
theorem KpT.row {n₀ L : Nat} {W W' : World} (h : KpT n₀ L W W') {b : Nat} (hb : L ≤ b) {cs : Array Value} {z : Nat × Nat} (hc : W.heap[b]? = some (.cells cs 27 z)) : W'.heap[b]? = some (.cells cs 27 z) :=
  (h.2 b hb _ _ hc).trans hc

set_option maxRecDepth 100000 in
set_option maxHeartbeats 2000000 in
theorem each_in (F : Fence) (hd : F.depth = none) (h6 : F.fn 23) (hro : F.round = none) (l n₀ L N B : Nat) (w0 : World) (Pr : T → Prop) (hB0 : B ≤ n₀) (hnL : n₀ ≤ L) (J Jx : List (Part w0 B Pr) → World → Prop)
    (hJa : ∀ s W o, J s W → J s (W.alloc o))
    (hY : ∀ m pre x W, J pre W → pre.length < N → YieldAt F m Tryd.prog l #[.agg x.1.2.toArray] W fun e W' =>
      (e = .returned (.bool true) ∧ J (pre ++ [x]) W' ∧ KpT n₀ L W W') ∨ (e = .returned (.bool false) ∧ Jx (pre ++ [x]) W')) (t : T) :
    ∀ (n : Nat) (cs : List Value) (pre : List (Part w0 B Pr)) (W : World), TreeV w0 B t cs → (∀ p ∈ parts t, Pr p) → Below n₀ w0 W → L ≤ W.heap.size → J pre W → pre.length + (parts t).length ≤ N →
      CallsIn F n Tryd.prog 23 #[.agg cs.toArray, .func (.yield l) #[] #[]] W fun e W' =>
        (e = .returned (.bool true) ∧ (∃ xs : List (Part w0 B Pr), xs.map (·.1.1) = parts t ∧ J (pre ++ xs) W') ∧ KpT n₀ L W W') ∨
        (e = .returned (.bool false) ∧ ∃ q : List (Part w0 B Pr), q.map (·.1.1) <+: parts t ∧ Jx (pre ++ q) W') := by
  induction t using T.ind with
  | h op kids rune set pl cap name mn mx lz ih =>
    intro n cs pre W ht hPr hb hLW hJ hN
    have hdd : ∀ k : Nat, (F.depth.isSome = true → 1 ≤ k) := fun k h => by rw [hd] at h; cases h
    have IH := Lib.hid ih; clear ih
    have HPr := Lib.hid hPr
    have hPs := hPr _ (mem_parts_self _)
    clear hPr
    obtain ⟨x, hx⟩ : ∃ x : Part w0 B Pr, x = ⟨(.mk op kids rune set pl cap name mn mx lz, cs), ht, hPs⟩ := ⟨_, rfl⟩

    obtain ⟨ka, kn, kc, sa, sn, sc, rfl, ⟨rfl, h2, h3⟩, h4⟩ := ht.open
    obtain ⟨W1, hW1⟩ : ∃ W1, W1 = W.alloc (.cells #[.int .i64 op, .slice ka kids.length kc, .int .i32 rune, .slice sa sn sc, .int .i64 pl, .int .i64 cap, .string name, .int .i64 mn, .int .i64 mx, .bool lz] 27) := ⟨_, rfl⟩
    have hbox : W1.heap[W.heap.size]? = some (.cells #[.int .i64 op, .slice ka kids.length kc, .int .i32 rune, .slice sa sn sc, .int .i64 pl, .int .i64 cap, .string name, .int .i64 mn, .int .i64 mx, .bool lz] 27 (0, 0)) := by rw [hW1]; exact World.alloc_heap_new W _
    have hJ1 : J pre W1 := by rw [hW1]; exact hJa _ _ _ hJ
    have hK1 : KpT n₀ L W W1 := by rw [hW1]; exact KpT.alloc (by omega) _
    have hy := YieldAt.mono (R' := fun e W' => (e = .returned (.bool true) ∧ (J (pre ++ [x]) W' ∧ KpT n₀ L W W') ∧ W'.cell? ⟨W.heap.size, 1, none⟩ = some (.slice ka kids.length kc)) ∨ (e = .returned (.bool false) ∧ Jx (pre ++ [x]) W'))
      (hY (n - 1) pre x W1 hJ1 (by simp only [parts, List.length_cons] at hN; omega))
      (fun e W' h => h.imp (fun ⟨a, b, c⟩ => ⟨a, ⟨b, hK1.trans c⟩, by simp [World.cell?, c.row hLW hbox]⟩) id)
    have HX := Lib.hid hx
    have HH3 := Lib.hid h3
    have c0 : W1.cell? ⟨W.heap.size, 0, none⟩ = some (.int .i64 op) := by simp [World.cell?, hbox]
    clear h3 h4 hbox hJ hJ1 hK1
    refine callsIn_of_wp Tryd.func23 rfl h6 ?_ hro
    simp only [Tryd.ntmps23, List.size_toArray, List.length_cons, List.length_nil, Nat.reduceAdd, Nat.reduceSub, Array.replicate_succ, Array.replicate_zero, List.push_toArray, List.append_toArray, List.nil_append, List.cons_append]
    obtain ⟨fn, tmps, assign, body, hy, hR⟩ := hy
    rw [hx, hW1] at hy
    dsimp only at hy
    rw [hW1] at hR
    clear hx c0
    gi_wp2_with ((try refine ⟨hdd _, ?_⟩); refine hR.mono ?_; clear hR; rintro e W2 (⟨rfl, hJK, c2⟩ | ⟨rfl, hx2⟩))
    · have HK := Lib.hid hJK; clear hJK
      clear hy hW1
      gi_loopw [14] (fun i wr => ∃ (k : Nat) (xs : List (Part w0 B Pr)), k ≤ kids.length ∧ i = .int .i64 k ∧ xs.map (·.1.1) = partsL (kids.take k) ∧ J (pre ++ [x] ++ xs) wr ∧ KpT n₀ L W wr) (fun i _ => kids.length - (intOf i).toNat)
      case atStart => exact ⟨0, [], Nat.zero_le _, rfl, rfl, by simpa using HK.out.1, HK.out.2⟩
      case round =>
        obtain ⟨k, xs, hk, rfl, hxs, hJ3, hK3⟩ := hrel
        have hsz := hK3.1.size
        by_cases hlt : k < kids.length
        · rcases HH3.out with h0 | ⟨b, o, rfl, hbB, hKA⟩
          · omega
          obtain ⟨cs, hc, hr⟩ := hKA.get k hlt
          have hr' := hr.below (hb.trans hK3.1) (by omega)
          have hcl := hc.length
          obtain ⟨op1, ka1, kn1, kc1, rune1, sa1, sn1, sc1, pl1, cap1, name1, mn1, mx1, lz1, rfl⟩ := hc.form
          obtain ⟨g0, g1, g2, g3, g4, g5, g6, g7, g8, g9⟩ := hr'.ten
          have hpl : (pre ++ [x] ++ xs).length + (parts kids[k]).length ≤ N := by
            have e1 := congrArg List.length hxs
            have e2 := (partsL_take_prefix kids (k + 1)).length_le
            rw [partsL_take kids k hlt] at e2
            simp only [List.length_map] at e1
            simp only [List.length_append] at e2
            simp only [parts, List.length_cons] at hN
            simp only [List.length_append, List.length_cons, List.length_nil]
            omega
          have hJ4 := hJa _ _ (.cells #[.int .i64 op1, .slice ka1 kn1 kc1, .int .i32 rune1, .slice sa1 sn1 sc1, .int .i64 pl1, .int .i64 cap1, .string name1, .int .i64 mn1, .int .i64 mx1, .bool lz1] 27) hJ3
          have hcall := IH.out _ (List.getElem_mem hlt) (n - 1) _ (pre ++ [x] ++ xs) (wr.alloc (.cells #[.int .i64 op1, .slice ka1 kn1 kc1, .int .i32 rune1, .slice sa1 sn1 sc1, .int .i64 pl1, .int .i64 cap1, .string name1, .int .i64 mn1, .int .i64 mx1, .bool lz1] 27)) hc (fun p hp => HPr.out p (mem_parts_kid hlt hp))
            ((hb.trans hK3.1).trans (KpT.alloc (n₀ := n₀) (L := L) (by omega) _).1) (by simp only [World.size_alloc]; omega) hJ4 hpl
          have HK3 := Lib.hid (hK3.trans (KpT.alloc (n₀ := n₀) (L := L) (W := wr) (by omega) (.cells #[.int .i64 op1, .slice ka1 kn1 kc1, .int .i32 rune1, .slice sa1 sn1 sc1, .int .i64 pl1, .int .i64 cap1, .string name1, .int .i64 mn1, .int .i64 mx1, .bool lz1] 27)))
          have HXS := Lib.hid hxs
          clear hr hr' hc hcl hJ3 hK3 hxs hJ4 hpl
          gi_wp2_with ((try refine ⟨hdd _, ?_⟩); gi_at_call 23; refine hcall.mono ?_; clear hcall; rintro e W3 (⟨rfl, ⟨ys, hys, hJ5⟩, hK5⟩ | ⟨rfl, q, hq, hx5⟩))
          · go_roundw
            case rel =>
              refine ⟨k + 1, xs ++ ys, hlt, by go_num, ?_, by simpa [List.append_assoc] using hJ5, HK3.out.trans hK5⟩
              rw [List.map_append, HXS.out, hys, partsL_take kids k hlt]
            case measure => simp [intOf]; omega
          · go_ret
            refine .inr ⟨rfl, [x] ++ xs ++ q, ?_, by simpa [List.append_assoc] using hx5⟩
            obtain ⟨r, hr⟩ := hq
            have e2 := partsL_take_prefix kids (k + 1)
            rw [partsL_take kids k hlt, ← hr] at e2
            obtain ⟨r2, hr2⟩ := e2
            refine ⟨r ++ r2, ?_⟩
            simp only [parts, List.map_append, List.map_cons, List.map_nil, HXS.out, HX.out]
            rw [← hr2]; simp [List.append_assoc]
        · obtain rfl : k = kids.length := by omega
          gi_wp2
          go_ret
          refine .inl ⟨rfl, ⟨[x] ++ xs, ?_, by simpa [List.append_assoc] using hJ3⟩, hK3⟩
          rw [List.take_length] at hxs
          simp only [parts, List.map_append, List.map_cons, List.map_nil, hxs, HX.out]; rfl
    · gi_wp2
      go_ret
      refine .inr ⟨rfl, [x], ?_, hx2⟩
      refine ⟨partsL kids, ?_⟩
      simp only [parts, List.map_cons, List.map_nil, HX.out]; rfl

theorem YieldAt.anyDepthK {F : Fence} (hd : F.depth = none) {m : Nat} (m' : Nat) {P : Program} {l : Nat} {args : Array Value} {W : World} {R : Ending → World → Prop} (h : YieldAt F m P l args W R) : YieldAt F m' P l args W R := by
  obtain ⟨fn, tmps, assign, body, hy, hR⟩ := h
  exact ⟨fn, tmps, assign, body, hy, ⟨hR.1, fun c cs _ => hR.2 c cs (fun d h => by rw [hd] at h; cases h)⟩⟩

set_option maxHeartbeats 1000000 in
/-- 'all' hands back a function that holds a box of the tree. -/
theorem all_in (F : Fence) (n : Nat) (h4 : F.fn 12) (hro : F.round = none) (t : T) (B : Nat) (w0 : World) (cs : List Value) (ht : TreeV w0 B t cs) (w : World) :
    CallsIn F n Tryd.prog 12 #[.agg cs.toArray] w fun e w' => e = .returned (.func (.func 22) #[] #[.pointer (some ⟨w.heap.size, 0, none⟩)]) ∧ w' = w.alloc (.cells cs.toArray 27) := by
  obtain ⟨op1, ka1, kn1, kc1, rune1, sa1, sn1, sc1, pl1, cap1, name1, mn1, mx1, lz1, rfl⟩ := ht.form
  refine callsIn_of_wp Tryd.func12 rfl h4 ?_ hro
  simp only [Tryd.ntmps12, List.size_toArray, List.length_cons, List.length_nil, Nat.reduceAdd, Nat.reduceSub, Array.replicate_succ, Array.replicate_zero, List.push_toArray, List.append_toArray, List.nil_append, List.cons_append]
  gi_wp2
  go_ret
  exact ⟨rfl, rfl⟩

set_option maxHeartbeats 1000000 in
theorem all1_in (F : Fence) (hd : F.depth = none) (n : Nat) (h5 : F.fn 22) (h6 : F.fn 23) (hro : F.round = none) (l Bt n₀ L B : Nat) (w0 : World) (Pr : T → Prop) (hB0 : B ≤ n₀) (hnL : n₀ ≤ L) (t : T) (cs : List Value) (ht : TreeV w0 B t cs) (hPr : ∀ p ∈ parts t, Pr p) (N : Nat) (hN : (parts t).length ≤ N)
    (J Jx : List (Part w0 B Pr) → World → Prop) (hJa : ∀ s W o, J s W → J s (W.alloc o))
    (hY : ∀ pre x W, J pre W → pre.length < N → YieldAt F (n - 1) Tryd.prog l #[.agg x.1.2.toArray] W fun e W' =>
      (e = .returned (.bool true) ∧ J (pre ++ [x]) W' ∧ KpT n₀ L W W') ∨ (e = .returned (.bool false) ∧ Jx (pre ++ [x]) W'))
    (W : World) (hbox : W.heap[Bt]? = some (.cells cs.toArray 27 (0, 0))) (hb : Below n₀ w0 W) (hL : L ≤ W.heap.size) (h0 : J [] W) :
    CallsIn F n Tryd.prog 22 #[.func (.yield l) #[] #[], .pointer (some ⟨Bt, 0, none⟩)] W fun e W' => (∃ v, e = .returned v) ∧
      ((∃ ys : List (Part w0 B Pr), ys.map (·.1.1) = parts t ∧ J ys W') ∨ (∃ pre : List (Part w0 B Pr), pre.map (·.1.1) <+: parts t ∧ Jx pre W')) := by
  have hdd : ∀ k : Nat, (F.depth.isSome = true → 1 ≤ k) := fun k h => by rw [hd] at h; cases h
  have hp := each_in F hd h6 hro l n₀ L N B w0 Pr hB0 hnL J Jx hJa (fun m pre x W hj hl => YieldAt.anyDepthK hd m (hY pre x W hj hl)) t (n - 1) cs [] W ht hPr hb hL h0 (by simpa using hN)
  obtain ⟨op1, ka1, kn1, kc1, rune1, sa1, sn1, sc1, pl1, cap1, name1, mn1, mx1, lz1, rfl⟩ := ht.form
  have c0 : W.cell? ⟨Bt, 0, none⟩ = some (.int .i64 op1) := by simp [World.cell?, hbox]
  have c1 : W.cell? ⟨Bt, 1, none⟩ = some (.slice ka1 kn1 kc1) := by simp [World.cell?, hbox]
  have c2 : W.cell? ⟨Bt, 2, none⟩ = some (.int .i32 rune1) := by simp [World.cell?, hbox]
  have c3 : W.cell? ⟨Bt, 3, none⟩ = some (.slice sa1 sn1 sc1) := by simp [World.cell?, hbox]
  have c4 : W.cell? ⟨Bt, 4, none⟩ = some (.int .i64 pl1) := by simp [World.cell?, hbox]
  have c5 : W.cell? ⟨Bt, 5, none⟩ = some (.int .i64 cap1) := by simp [World.cell?, hbox]
  have c6 : W.cell? ⟨Bt, 6, none⟩ = some (.string name1) := by simp [World.cell?, hbox]
  have c7 : W.cell? ⟨Bt, 7, none⟩ = some (.int .i64 mn1) := by simp [World.cell?, hbox]
  have c8 : W.cell? ⟨Bt, 8, none⟩ = some (.int .i64 mx1) := by simp [World.cell?, hbox]
  have c9 : W.cell? ⟨Bt, 9, none⟩ = some (.bool lz1) := by simp [World.cell?, hbox]
  clear hbox
  refine callsIn_of_wp Tryd.func22 rfl h5 ?_ hro
  simp only [Tryd.ntmps22, List.size_toArray, List.length_cons, List.length_nil, Nat.reduceAdd, Nat.reduceSub, Array.replicate_succ, Array.replicate_zero, List.push_toArray, List.append_toArray, List.nil_append, List.cons_append]
  gi_wp2_with ((try refine ⟨hdd _, ?_⟩); gi_at_call 23; refine hp.mono ?_; clear hp; rintro e W1 (⟨rfl, ⟨ys, hys, hJ1⟩, _⟩ | ⟨rfl, q, hq, hx⟩))
  · go_end0
    exact ⟨⟨_, rfl⟩, .inl ⟨ys, hys, by simpa using hJ1⟩⟩
  · go_end0
    exact ⟨⟨_, rfl⟩, .inr ⟨q, hq, by simpa using hx⟩⟩

/-- The iterator's contract. -/
theorem all_stops (F : Fence) (hd : F.depth = none) (n : Nat) (h5 : F.fn 22) (h6 : F.fn 23) (hro : F.round = none) (Bt n₀ L B : Nat) (w0 : World) (Pr : T → Prop) (hB0 : B ≤ n₀) (hnL : n₀ ≤ L) (t : T) (cs : List Value) (ht : TreeV w0 B t cs) (hPr : ∀ p ∈ parts t, Pr p) (N : Nat) (hN : (parts t).length ≤ N)
    (w : World) (hBt : w.heap[Bt]? = some (.cells cs.toArray 27 (0, 0))) (hb : Below n₀ w0 w) (hL : L ≤ w.heap.size) :
    SeqStopsK F n Tryd.prog 22 #[.pointer (some ⟨Bt, 0, none⟩)] (fun x : Part w0 B Pr => #[.agg x.1.2.toArray]) (KpT n₀ L) (fun ys => ys.map (·.1.1) = parts t) (fun pre => pre.map (·.1.1) <+: parts t) N w := fun l J Jx W hW hJ _ hY h0 =>
  all1_in F hd n h5 h6 hro l Bt n₀ L B w0 Pr hB0 hnL t cs ht hPr N hN J Jx (fun s A o hs => hJ s A _ none hs (World.grownBy_alloc A o none) (fun r e => by cases e)) hY W
    ((hW.block Bt (Array.getElem?_eq_some_iff.1 hBt).1).trans hBt) (hb.trans (hW.mono (by omega))) (Nat.le_trans hL hW.size) h0
end Go.Proofs.YtihbmgpjihgodaaDoor
