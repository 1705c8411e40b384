/- syntax.Parse$1: the deferred closure, of a frame that returns, and of one that panics; Parse$2: what must be. How deep the trees are that the reader makes. trees.Depth, of deeper trees. -/
import Derived.Test.YtnhnldmldnhaoaaGreatDoorDSyAll
import Derived.Defers
import Derived.Recover
import Derived.Test.YtnhnldmldnhaoaaGreatDoorDRight
import Derived.Test.YtnhnldmldnhaoaaGreatDoorDSynEsc
namespace Go.Proofs.YtnhnldmldnhaoaaGreatDoor
open Go Go.RowKit Go.Proofs Go.Shelf

theorem parse_idle (a b : Value) (w : World) :
    CallsD Tryz.prog 18 #[a, b] .returning w fun e u' w' => e = .returned (.tuple #[]) ∧ u' = .returning ∧ w' = w := by
  have hnn : ∀ w, (binOp .eql 20 .nilIface .nilIface).run Tryz.prog w = .ok (.bool true) w := fun w => by kernel_rfl
  refine callsD_of_wpS Tryz.func18 rfl fun c₀ cs hu => ?_
  apply wpS_seq
  apply wpS_region
  simp [wpOpsS, go_sem, recoverD, hu, Tryz.ntmps18, Exit.thenS]
  refine wpS_of_wp ?_
  go_wp2_with fail
  cases c₀
  simp_all [bodyPostS, results, Tryz.results18]
theorem ten_all {cs : List Value} (h : cs.length = 10) : ∃ c0 c1 c2 c3 c4 c5 c6 c7 c8 c9, cs = [c0, c1, c2, c3, c4, c5, c6, c7, c8, c9] := by
  match cs, h with
  | [c0, c1, c2, c3, c4, c5, c6, c7, c8, c9], _ => exact ⟨c0, c1, c2, c3, c4, c5, c6, c7, c8, c9, rfl⟩
set_option maxRecDepth 100000 in
set_option maxHeartbeats 4000000 in
theorem parse_caught (b4 b5 B : Nat) (cs : List Value) (hcs : cs.length = 10) (v0 v1 v2 : Value) (e f t : Int) (w : World) (h4 : Blk w b4 cs 29) (h5 : Blk w b5 [v0, v1, v2] 32) (h45 : b4 ≠ b5) (hB4 : B ≤ b4) (hB5 : B ≤ b5) (hBw : B ≤ w.heap.size) :
    CallsD Tryz.prog 18 #[.pointer (some ⟨b4, 0, none⟩), .pointer (some ⟨b5, 0, none⟩)] (.panicking [{ v := .iface 32 (synV e f t), recovered := false }]) w fun en u' w' =>
      en = .returned (.tuple #[]) ∧ u' = .panicking [{ v := .iface 32 (synV e f t), recovered := true }] ∧ Blk w' b4 zero10 29 ∧ Blk w' b5 [.int .i64 e, .int .i64 f, .int .i64 t] 32 ∧ Below B w w' := by
  have hta : ∀ (w : World) (x : Value), (Instr.typeAssert (.iface 32 x) 20 32 true).run Tryz.prog w = .ok (.tuple #[x, .bool true]) w := fun w x => by kernel_rfl
  have hnn : ∀ w v, (binOp .eql 20 (.iface 32 v) .nilIface).run Tryz.prog w = .ok (.bool false) w := fun w v => by kernel_rfl
  obtain ⟨w0, w1, w2, w3, w4, w5, w6, w7, w8, w9, rfl⟩ := ten_all hcs
  refine callsD_of_wpS Tryz.func18 rfl fun c₀ cs hu => ?_
  apply wpS_seq
  apply wpS_region
  simp [wpOpsS, go_sem, recoverD, hu, Tryz.ntmps18, Exit.thenS]
  rw [show (#[.pointer (some ⟨b4, 0, none⟩), .pointer (some ⟨b5, 0, none⟩)] ++ ((Array.replicate 11 undef).setIfInBounds 3 (.iface 32 (synV e f t))) : Array Value) = #[.pointer (some ⟨b4, 0, none⟩), .pointer (some ⟨b5, 0, none⟩), undef, undef, undef, .iface 32 (synV e f t), undef, undef, undef, undef, undef, undef, undef] from rfl]
  refine wpS_of_wp ?_
  go_wp2_with fail
  have N := Blk.new w [.int .i64 e, .int .i64 f, .int .i64 t] 32
  have K4 := h4.alloc (.cells #[.int .i64 e, .int .i64 f, .int .i64 t] 32)
  have K5 := h5.alloc (.cells #[.int .i64 e, .int .i64 f, .int .i64 t] 32)
  have KB := (Below.refl B w).alloc hBw (.cells #[.int .i64 e, .int .i64 f, .int .i64 t] 32)
  have x4 : w.heap.size ≠ b4 := by have := h4.lt; omega
  have x5 : w.heap.size ≠ b5 := by have := h5.lt; omega
  have y4 := x4.symm; have y5 := x5.symm; have h54 := h45.symm
  change Blk (w.alloc (.cells #[.int .i64 e, .int .i64 f, .int .i64 t] 32)) _ _ _ at N
  generalize w.alloc (.cells #[.int .i64 e, .int .i64 f, .int .i64 t] 32) = W at N K4 K5 KB ⊢
  generalize w.heap.size = X at N x4 x5 y4 y5 ⊢
  have n0 := Blk.cell N (j := 0) rfl; have n1 := Blk.cell N (j := 1) rfl; have n2 := Blk.cell N (j := 2) rfl
  have f50 := K5.frozen 0; have f51 := K5.frozen 1; have f52 := K5.frozen 2
  have c50 := Blk.cell K5 (j := 0) rfl; have c51 := Blk.cell K5 (j := 1) rfl; have c52 := Blk.cell K5 (j := 2) rfl
  obtain ⟨c40, c41, c42, c43, c44, c45, c46, c47, c48, c49, f40, f41, f42, f43, f44, f45, f46, f47, f48, f49⟩ := K4.ten
  have HKB := Lib.hid KB; have HN := Lib.hid N; have HK4 := Lib.hid K4; have HK5 := Lib.hid K5
  clear N K4 K5 KB h4 h5 hta hnn
  go_region
  all_goals
    have A4 : Blk ((((World.set10 W b4 (.int .i64 0) (.slice none 0 0) (.int .i32 0) (.slice none 0 0) (.int .i64 0) (.int .i64 0) (.string ⟨#[]⟩) (.int .i64 0) (.int .i64 0) (.bool false)).setCell ⟨b5, 0, none⟩ (.int .i64 e)).setCell ⟨b5, 1, none⟩ (.int .i64 f)).setCell ⟨b5, 2, none⟩ (.int .i64 t)).drew b4 zero10 29 := Blk.drew ((((HK4.out.set10 (.int .i64 0) (.slice none 0 0) (.int .i32 0) (.slice none 0 0) (.int .i64 0) (.int .i64 0) (.string ⟨#[]⟩) (.int .i64 0) (.int .i64 0) (.bool false)).setCell_other (a := ⟨b5, 0, none⟩) h45 _).setCell_other (a := ⟨b5, 1, none⟩) h45 _).setCell_other (a := ⟨b5, 2, none⟩) h45 _)
    have A5 : Blk ((((World.set10 W b4 (.int .i64 0) (.slice none 0 0) (.int .i32 0) (.slice none 0 0) (.int .i64 0) (.int .i64 0) (.string ⟨#[]⟩) (.int .i64 0) (.int .i64 0) (.bool false)).setCell ⟨b5, 0, none⟩ (.int .i64 e)).setCell ⟨b5, 1, none⟩ (.int .i64 f)).setCell ⟨b5, 2, none⟩ (.int .i64 t)).drew b5 [.int .i64 e, .int .i64 f, .int .i64 t] 32 := Blk.drew ((((Blk.set10_other HK5.out h54 (.int .i64 0) (.slice none 0 0) (.int .i32 0) (.slice none 0 0) (.int .i64 0) (.int .i64 0) (.string ⟨#[]⟩) (.int .i64 0) (.int .i64 0) (.bool false)).set 0 _).set 1 _).set 2 _)
    have AB : Below B w ((((World.set10 W b4 (.int .i64 0) (.slice none 0 0) (.int .i32 0) (.slice none 0 0) (.int .i64 0) (.int .i64 0) (.string ⟨#[]⟩) (.int .i64 0) (.int .i64 0) (.bool false)).setCell ⟨b5, 0, none⟩ (.int .i64 e)).setCell ⟨b5, 1, none⟩ (.int .i64 f)).setCell ⟨b5, 2, none⟩ (.int .i64 t)).drew := (((((((((((((HKB.out.setCell hB4 _).setCell hB4 _).setCell hB4 _).setCell hB4 _).setCell hB4 _).setCell hB4 _).setCell hB4 _).setCell hB4 _).setCell hB4 _).setCell hB4 _).setCell hB5 _).setCell hB5 _).setCell hB5 _).drew
    refine ⟨rfl, _, rfl, .tuple #[], ?_, rfl, rfl, A4, A5, AB⟩
    simp [results, Tryz.results18]

set_option maxHeartbeats 2000000 in
theorem parse_must_ok (b2 : Nat) (x : Int) (w : World) : Calls Tryz.prog 19 #[.bool true, .int .i64 x, .pointer (some ⟨b2, 0, none⟩)] w fun e w' => e = .returned (.tuple #[]) ∧ w = w' := by
  go_enter Tryz.func19, Tryz.ntmps19
  go_wp2_with fail
  exact ⟨rfl, .tuple #[], by simp [results, Tryz.results19], rfl, rfl⟩
set_option maxHeartbeats 2000000 in
theorem parse_must_no (b2 : Nat) (s : ByteArray) (x : Int) (w : World) (h : Blk w b2 [.string s] 9) : Calls Tryz.prog 19 #[.bool false, .int .i64 x, .pointer (some ⟨b2, 0, none⟩)] w fun e w' => e = synE x 0 s.size ∧ w = w' := by
  have c0 := Blk.cell h (j := 0) rfl
  go_enter Tryz.func19, Tryz.ntmps19
  go_wp2_with fail
  refine (syn_stop _ _ _ _).mono ?_
  rintro e w9 ⟨rfl, rfl⟩
  exact ⟨rfl, rfl, rfl⟩
end Go.Proofs.YtnhnldmldnhaoaaGreatDoor

namespace Go.Proofs.YtnhnldmldnhaoaaGreatDoor
open Go Go.RowKit Go.Proofs Go.Shelf

/-- A bound, by the fuel. -/
def DB (n : Nat) : Nat := (n + 2) * (n + 2)
theorem DB_succ (n : Nat) : DB (n + 1) = DB n + 2 * n + 5 := by
  unfold DB
  rw [show (n + 1 + 2) * (n + 1 + 2) = (n + 2 + 1) * (n + 2 + 1) from rfl, Nat.add_mul, Nat.mul_add, Nat.one_mul, Nat.mul_one]
  omega
theorem DB_pos (n : Nat) : 4 ≤ DB n := by
  induction n with
  | zero => decide
  | succ n ih => rw [DB_succ]; omega
theorem depthL_append (l l' : List T) : depthL (l ++ l') = max (depthL l) (depthL l') := by
  induction l with
  | nil => simp [depthL]
  | cons t l ih => simp only [List.cons_append, depthL, ih]; omega
theorem depth_leaf (op rune : Int) (set : List (Int × Int)) (pl : Int) : depth (leafT op rune set pl) = 1 := by simp [leafT, depth, depthL]
theorem depth_set (l : List (Int × Int)) : depth (setT l) = 1 := by
  unfold setT
  split <;> exact depth_leaf _ _ _ _
theorem depth_atom (f c : Int) : depth (atomT f c) = 1 := by
  unfold atomT
  split
  · exact depth_set _
  · exact depth_leaf _ _ _ _
theorem depth_kids (op : Int) (l : List T) : depth (kidsT op l) = depthL l + 1 := by simp [kidsT, depth]
theorem depth_cat (l : List T) : depth (catT l) ≤ depthL l + 1 := by
  unfold catT
  split
  · simp [depth_leaf]
  · simp [depthL]
  · rw [depth_kids]; exact Nat.le_refl _
theorem depth_rep (op : Int) (k : T) (mn mx : Int) (lz : Bool) : depth (repT op k mn mx lz) = depth k + 1 := by simp [repT, depth, depthL]
theorem depth_cap (k : T) (n : Nat) (nm : ByteArray) : depth (capT k n nm) = depth k + 1 := by simp [capT, depth, depthL]
theorem depth_text (f : Int) (s : ByteArray) : depthL (runesT f s) ≤ 1 := by
  unfold runesT
  generalize runesL s = l
  induction l with
  | nil => simp [depthL]
  | cons c l ih => rw [List.map_cons, depthL, depth_atom]; omega
theorem depthL_one (t : T) : depthL [t] = depth t := by simp [depthL]
/-- A tree's depth, where there is a tree. -/
def DepT (k : Nat) : PR T → Prop
  | .ok t _ => depth t ≤ k
  | _ => True
def DepL (k : Nat) : PR (List T) → Prop
  | .ok l _ => depthL l ≤ k
  | _ => True
theorem escapeP_dep (s : ByteArray) (st : St) : DepL 1 (escapeP s st) := by
  unfold escapeP
  cases escP s st.p (onB st.f 32) with
  | wrong e f t => trivial
  | set g q => show depthL [setT _] ≤ 1; rw [depthL_one, depth_set]; exact Nat.le_refl _
  | lit k r a q =>
    simp only
    split
    · show depthL [atomT _ _] ≤ 1; rw [depthL_one, depth_atom]; exact Nat.le_refl _
    split
    · show depthL [leafT _ _ _ _] ≤ 1; rw [depthL_one, depth_leaf]; exact Nat.le_refl _
    · exact depth_text _ _
structure SynDep (s : ByteArray) (n : Nat) : Prop where
  parts : ∀ st, DepT (DB n) (partsP s n st)
  alt : ∀ st l, DepT (max (depthL l) (DB n + n + 1) + 1) (altP s n st l)
  part : ∀ st l, DepT (max (depthL l) (DB n) + n + 1) (partP s n st l)
  atoms : ∀ st, DepL (DB n) (atomsP s n st)
  op : ∀ st, DepL (DB n) (openP s n st)
  group : ∀ st nm, DepT (DB n) (groupP s n st nm)
  close : ∀ st, DepT (DB n) (closeP s n st)
theorem DepT.mono {k k' : Nat} {r : PR T} (h : DepT k r) (hk : k ≤ k') : DepT k' r := by
  cases r with
  | ok t st => exact Nat.le_trans h hk
  | _ => trivial
theorem DepL.mono {k k' : Nat} {r : PR (List T)} (h : DepL k r) (hk : k ≤ k') : DepL k' r := by
  cases r with
  | ok t st => exact Nat.le_trans h hk
  | _ => trivial
theorem dropLast_dep (l : List T) : depthL l.dropLast ≤ depthL l := by
  rw [List.dropLast_eq_take]
  exact depthL_take_le l _
theorem getLast_dep {l : List T} {k : T} (h : l.getLast? = some k) : depth k ≤ depthL l := by
  obtain ⟨l', rfl⟩ := List.getLast?_eq_some_iff.1 h
  rw [depthL_append, depthL_one]
  omega
theorem syn_dep (s : ByteArray) : ∀ n, SynDep s n
  | 0 => by
    refine ⟨fun _ => ?_, fun _ _ => ?_, fun _ _ => ?_, fun _ => ?_, fun _ => ?_, fun _ _ => ?_, fun _ => ?_⟩
    · unfold partsP; trivial
    · unfold altP; trivial
    · unfold partP; trivial
    · unfold atomsP; trivial
    · unfold openP; trivial
    · unfold groupP; trivial
    · unfold closeP; trivial
  | n + 1 => by
    have ih := syn_dep s n
    have hB := DB_succ n
    have hp := DB_pos n
    refine ⟨?_, ?_, ?_, ?_, ?_, ?_, ?_⟩
    · intro st
      unfold partsP
      have h := ih.part st []
      cases hx : partP s n st [] with
      | out => trivial
      | wrong e f t => trivial
      | ok t st' =>
        rw [hx] at h
        have h1 : depth t ≤ max (depthL []) (DB n) + n + 1 := h
        refine (ih.alt st' [t]).mono ?_
        rw [depthL_one]
        simp only [depthL] at h1
        omega
    · intro st l
      unfold altP
      split
      · have h := ih.part { st with p := st.p + 1 } []
        cases hx : partP s n { st with p := st.p + 1 } [] with
        | out => trivial
        | wrong e f t => trivial
        | ok t st' =>
          rw [hx] at h
          have h1 : depth t ≤ max (depthL []) (DB n) + n + 1 := h
          refine (ih.alt st' (l ++ [t])).mono ?_
          rw [depthL_append, depthL_one]
          simp only [depthL] at h1
          omega
      · split
        · rename_i t
          show depth t ≤ _
          rw [depthL_one]; omega
        · show depth (kidsT 12 _) ≤ _
          rw [depth_kids]; omega
    · intro st l
      unfold partP
      split
      · exact Nat.le_trans (depth_cat l) (by omega)
      · cases hsg : signP s st.p with
        | mk o q =>
          cases o with
          | none =>
            have h := ih.atoms st
            simp only
            cases hx : atomsP s n st with
            | out => trivial
            | wrong e f t => trivial
            | ok us st' =>
              rw [hx] at h
              have h1 : depthL us ≤ DB n := h
              refine (ih.part st' (l ++ us)).mono ?_
              rw [depthL_append]; omega
          | some x =>
            obtain ⟨op, mn, mx⟩ := x
            simp only
            cases hl : l.getLast? with
            | none => trivial
            | some k =>
              have hk := getLast_dep hl
              simp only
              cases hr : repeatP s st.p q st.f op mn mx with
              | error e => trivial
              | ok z =>
                obtain ⟨lz, q'⟩ := z
                simp only
                refine (ih.part _ _).mono ?_
                have := dropLast_dep l
                rw [depthL_append, depthL_one, depth_rep]; omega
    · intro st
      have h1 : DepL (DB (n + 1)) (.ok [setT (dotL st.f)] { st with p := nextW s st.p }) := by show depthL [setT _] ≤ _; rw [depthL_one, depth_set]; omega
      have h2 : ∀ pl : Int, DepL (DB (n + 1)) (.ok [leafT 5 0 [] pl] { st with p := nextW s st.p }) := fun pl => by show depthL [leafT _ _ _ _] ≤ _; rw [depthL_one, depth_leaf]; omega
      have h3 : DepL (DB (n + 1)) (.ok [atomT st.f (nextC s st.p)] { st with p := nextW s st.p }) := by show depthL [atomT _ _] ≤ _; rw [depthL_one, depth_atom]; omega
      unfold atomsP
      split
      · exact (ih.op st).mono (by omega)
      split
      · exact (escapeP_dep s st).mono (by omega)
      split
      · split
        · trivial
        · show depthL [setT _] ≤ _; rw [depthL_one, depth_set]; omega
      split
      · exact h1
      split
      · exact h2 _
      split
      · exact h2 _
      · exact h3
    · intro st
      unfold openP
      split
      · split
        · split
          · trivial
          · split
            · trivial
            · rename_i nm q _ _
              have h := ih.group { st with p := q } nm
              cases hx : groupP s n { st with p := q } nm with
              | out => trivial
              | wrong e f t => trivial
              | ok t st' =>
                rw [hx] at h
                show depthL [t] ≤ _
                rw [depthL_one]
                have h1 : depth t ≤ DB n := h
                omega
        · split
          · trivial
          · rename_i g grp q _
            split
            · have h := ih.close { st with p := q, f := g }
              cases hx : closeP s n { st with p := q, f := g } with
              | out => trivial
              | wrong e f t => trivial
              | ok t st' =>
                rw [hx] at h
                show depthL [t] ≤ _
                rw [depthL_one]
                have h1 : depth t ≤ DB n := h
                omega
            · show depthL [] ≤ _
              simp [depthL]
      · have h := ih.group { st with p := st.p + 1 } ⟨#[]⟩
        cases hx : groupP s n { st with p := st.p + 1 } ⟨#[]⟩ with
        | out => trivial
        | wrong e f t => trivial
        | ok t st' =>
          rw [hx] at h
          show depthL [t] ≤ _
          rw [depthL_one]
          have h1 : depth t ≤ DB n := h
          omega
    · intro st nm
      unfold groupP
      have h := ih.close { st with ns := st.ns ++ [nm] }
      cases hx : closeP s n { st with ns := st.ns ++ [nm] } with
      | out => trivial
      | wrong e f t => trivial
      | ok t st' =>
        rw [hx] at h
        have h1 : depth t ≤ DB n := h
        show depth (capT _ _ _) ≤ _
        rw [depth_cap]; omega
    · intro st
      unfold closeP
      have h := ih.parts st
      cases hx : partsP s n st with
      | out => trivial
      | wrong e f t => trivial
      | ok t st' =>
        rw [hx] at h
        have h1 : depth t ≤ DB n := h
        simp only
        split
        · show depth t ≤ _; omega
        · trivial
/-- A whole pattern's tree. -/
theorem whole_dep (s : ByteArray) (f : Int) (hs : s.size ≤ 1024) : DepT 1000000000 (wholeP s f) := by
  unfold wholeP
  split
  · have := depth_text f s
    exact Nat.le_trans (depth_cat _) (by omega)
  · have h := (syn_dep s (8 * s.size + 8)).parts ⟨0, f, []⟩
    cases hx : partsP s (8 * s.size + 8) ⟨0, f, []⟩ with
    | out => trivial
    | wrong e f t => trivial
    | ok t st =>
      rw [hx] at h
      have h1 : depth t ≤ DB (8 * s.size + 8) := h
      simp only
      split
      · trivial
      · show depth t ≤ _
        refine Nat.le_trans h1 ?_
        unfold DB
        exact Nat.le_trans (Nat.mul_le_mul (show 8 * s.size + 8 + 2 ≤ 8202 by omega) (show 8 * s.size + 8 + 2 ≤ 8202 by omega)) (by decide)
end Go.Proofs.YtnhnldmldnhaoaaGreatDoor

namespace Go.Proofs.YtnhnldmldnhaoaaGreatDoor
open Go Go.RowKit Go.Proofs

set_option maxHeartbeats 400000 in
theorem depth_wide (t : T) : ∀ (cs : List Value) (B : Nat) (w : World), TreeV w B t cs → B ≤ w.heap.size → depth t ≤ 1000000000 →
    Calls Tryz.prog 22 #[.agg cs.toArray] w fun e w' => e = .returned (.int .i64 (depth t)) ∧ Below w.heap.size w w' := by
  induction t using T.ind with
  | h op kids rune set pl cap name mn mx lz ih =>
    intro cs B w h hB hd
    obtain ⟨ka, kn, kc, sa, sn, sc, rfl, ⟨rfl, h2, h3⟩, h4⟩ := h.open
    have IH := Lib.hid ih; clear ih
    have H3 := Lib.hid h3; clear h3
    clear h h4
    have hd0 : depth (.mk op kids rune set pl cap name mn mx lz) = depthL kids + 1 := by simp [depth]
    rw [hd0] at hd ⊢
    clear hd0
    go_enter Tryz.func22, Tryz.ntmps22
    go_wp2_with fail
    go_loopw [3, 9] (fun n i wr => ∃ k : Nat, k ≤ kids.length ∧ i = .int .i64 k ∧ n = .int .i64 (depthL (kids.take k)) ∧ Below w.heap.size w wr) (fun _ i _ => kids.length - (intOf i).toNat)
    case atStart => exact ⟨0, Nat.zero_le _, rfl, by simp [depthL], (Below.refl _ _).alloc (Nat.le_refl _) _⟩
    case round =>
      obtain ⟨k, hk, rfl, rfl, hb⟩ := hrel
      by_cases hlt : k < kids.length
      · rcases H3.out with h0 | ⟨b, o, rfl, hbB, hK⟩
        · omega
        obtain ⟨cs, hc, hr⟩ := (hK.get k hlt)
        have hc' := hc.below (hb.mono hB)
        have hr' := hr.below (hb.mono hB) hbB
        have IHk := Lib.hid (IH.out _ (List.getElem_mem hlt) cs B)
        obtain ⟨op1, ka1, kn1, kc1, rune1, sa1, sn1, sc1, pl1, cap1, name1, mn1, mx1, lz1, rfl⟩ := hc.form
        obtain ⟨g0, g1, g2, g3, g4, g5, g6, g7, g8, g9⟩ := hr'.ten
        have HC := Lib.hid hc'
        have HB := Lib.hid hb
        have HS := Lib.hid hb.size
        clear hr hr' hc hc'
        go_wp2_with fail
        refine (IHk.out _ (HC.out.below ((Below.refl _ _).alloc (Nat.le_trans hB HS.out) _)) (by simp only [World.size_alloc]; have := HS.out; omega) ?hd).mono ?_
        case hd => have := depth_le_depthL hlt; omega
        rintro e w2 ⟨rfl, hb2⟩
        have HB2 := Lib.hid hb2; clear hb2
        have hq := depthL_take_succ kids k hlt
        have HQ := Lib.hid hq; clear hq
        go_wp2_with fail
        go_roundw
        case rel =>
          refine ⟨k + 1, hlt, by go_num, ?_, ?_⟩
          · rw [HQ.out]; go_num
          · exact (HB.out.alloc HS.out _).trans (HB2.out.mono (by simp only [World.size_alloc]; have := HS.out; omega))
        case measure => simp [intOf]; omega
      · have hk' : k = kids.length := by omega
        have ht := depthL_take_le kids k
        have hq : depthL (kids.take k) = depthL kids := by rw [hk', List.take_length]
        have HQ := Lib.hid hq; clear hq
        have HK := Lib.hid hk'; clear hk'
        go_wp2_with fail
        go_ret
        exact ⟨by rw [HQ.out]; go_num, hb⟩
end Go.Proofs.YtnhnldmldnhaoaaGreatDoor
