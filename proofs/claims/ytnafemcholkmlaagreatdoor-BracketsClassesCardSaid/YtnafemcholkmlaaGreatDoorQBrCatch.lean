/- brackets.Class$1: the deferred closure, of a frame that returns, and of one that panics. What a class is, with flags: one answer for both sides. -/
import Derived.Test.YtnafemcholkmlaaGreatDoorQBrText
import Derived.Defers
import Derived.Recover
import Derived.Test.YtnafemcholkmlaaGreatDoorQBrSpec
namespace Go.Proofs.YtnafemcholkmlaaGreatDoor
open Go Go.RowKit Go.Proofs Go.Shelf

theorem class_idle (a b c : Value) (w : World) :
    CallsD Tryz.prog 19 #[a, b, c] .returning w fun e u' w' => e = .returned (.tuple #[]) ∧ u' = .returning ∧ w' = w := by
  have hnn : ∀ w, (binOp .eql 20 .nilIface .nilIface).run Tryz.prog w = .ok (.bool true) w := fun w => by kernel_rfl
  refine callsD_of_wpS Tryz.func19 rfl fun c₀ cs hu => ?_
  apply wpS_seq
  apply wpS_region
  simp [wpOpsS, go_sem, recoverD, hu, Tryz.ntmps19, Exit.thenS]
  refine wpS_of_wp ?_
  go_wp2_with fail
  cases c₀
  simp_all [bodyPostS, results, Tryz.results19]
set_option maxHeartbeats 2000000 in
theorem class_caught (b6 b7 b8 B : Nat) (v6 v7 v0 v1 v2 : Value) (t6 t7 : TypeId) (e f t : Int) (w : World) (h6 : Blk w b6 [v6] t6) (h7 : Blk w b7 [v7] t7) (h8 : Blk w b8 [v0, v1, v2] 27) (h67 : b6 ≠ b7) (h68 : b6 ≠ b8) (h78 : b7 ≠ b8) (hB6 : B ≤ b6) (hB7 : B ≤ b7) (hB8 : B ≤ b8) (hBw : B ≤ w.heap.size) :
    CallsD Tryz.prog 19 #[.pointer (some ⟨b6, 0, none⟩), .pointer (some ⟨b7, 0, none⟩), .pointer (some ⟨b8, 0, none⟩)] (.panicking [{ v := .iface 27 (wrongV e f t), recovered := false }]) w fun en u' w' =>
      en = .returned (.tuple #[]) ∧ u' = .panicking [{ v := .iface 27 (wrongV e f t), recovered := true }] ∧ Blk w' b6 [.slice none 0 0] t6 ∧ Blk w' b7 [.int .i64 0] t7 ∧ Blk w' b8 [.int .i64 e, .int .i64 f, .int .i64 t] 27 ∧ Below B w w' := by
  have hta : ∀ (w : World) (x : Value), (Instr.typeAssert (.iface 27 x) 20 27 true).run Tryz.prog w = .ok (.tuple #[x, .bool true]) w := fun w x => by kernel_rfl
  have hnn : ∀ w v, (binOp .eql 20 (.iface 27 v) .nilIface).run Tryz.prog w = .ok (.bool false) w := fun w v => by kernel_rfl
  refine callsD_of_wpS Tryz.func19 rfl fun c₀ cs hu => ?_
  apply wpS_seq
  apply wpS_region
  simp [wpOpsS, go_sem, recoverD, hu, Tryz.ntmps19, Exit.thenS]
  rw [show (#[.pointer (some ⟨b6, 0, none⟩), .pointer (some ⟨b7, 0, none⟩), .pointer (some ⟨b8, 0, none⟩)] ++ ((Array.replicate 10 undef).setIfInBounds 3 (.iface 27 (wrongV e f t))) : Array Value) = #[.pointer (some ⟨b6, 0, none⟩), .pointer (some ⟨b7, 0, none⟩), .pointer (some ⟨b8, 0, none⟩), undef, undef, undef, .iface 27 (wrongV e f t), undef, undef, undef, undef, undef, undef] from rfl]
  refine wpS_of_wp ?_
  go_wp2_with fail
  have N := Blk.new w [.int .i64 e, .int .i64 f, .int .i64 t] 27
  have K6 := h6.alloc (.cells #[.int .i64 e, .int .i64 f, .int .i64 t] 27)
  have K7 := h7.alloc (.cells #[.int .i64 e, .int .i64 f, .int .i64 t] 27)
  have K8 := h8.alloc (.cells #[.int .i64 e, .int .i64 f, .int .i64 t] 27)
  have KB := (Below.refl B w).alloc hBw (.cells #[.int .i64 e, .int .i64 f, .int .i64 t] 27)
  have x6 : w.heap.size ≠ b6 := by have := h6.lt; omega
  have x7 : w.heap.size ≠ b7 := by have := h7.lt; omega
  have x8 : w.heap.size ≠ b8 := by have := h8.lt; omega
  have y6 := x6.symm; have y7 := x7.symm; have y8 := x8.symm; have h76 := h67.symm; have h86 := h68.symm; have h87 := h78.symm
  change Blk (w.alloc (.cells #[.int .i64 e, .int .i64 f, .int .i64 t] 27)) _ _ _ at N
  generalize w.alloc (.cells #[.int .i64 e, .int .i64 f, .int .i64 t] 27) = W at N K6 K7 K8 KB ⊢
  generalize w.heap.size = X at N x6 x7 x8 y6 y7 y8 ⊢
  have n0 := Blk.cell N (j := 0) rfl; have n1 := Blk.cell N (j := 1) rfl; have n2 := Blk.cell N (j := 2) rfl
  have f6 := K6.frozen 0; have f7 := K7.frozen 0; have f80 := K8.frozen 0; have f81 := K8.frozen 1; have f82 := K8.frozen 2
  have c6 := Blk.cell K6 (j := 0) rfl; have c7 := Blk.cell K7 (j := 0) rfl; have c80 := Blk.cell K8 (j := 0) rfl; have c81 := Blk.cell K8 (j := 1) rfl; have c82 := Blk.cell K8 (j := 2) rfl
  have HKB := Lib.hid KB; have HN := Lib.hid N; have HK6 := Lib.hid K6; have HK7 := Lib.hid K7; have HK8 := Lib.hid K8
  clear N K6 K7 K8 KB h6 h7 h8 hta hnn
  go_region
  all_goals
    have A6 : Blk (((((W.setCell ⟨b6, 0, none⟩ (.slice none 0 0)).setCell ⟨b7, 0, none⟩ (.int .i64 0)).setCell ⟨b8, 0, none⟩ (.int .i64 e)).setCell ⟨b8, 1, none⟩ (.int .i64 f)).setCell ⟨b8, 2, none⟩ (.int .i64 t)).drew b6 [.slice none 0 0] t6 := Blk.drew <| ((((HK6.out.set 0 _).setCell_other (a := ⟨b7, 0, none⟩) h67 _).setCell_other (a := ⟨b8, 0, none⟩) h68 _).setCell_other (a := ⟨b8, 1, none⟩) h68 _).setCell_other (a := ⟨b8, 2, none⟩) h68 _
    have A7 : Blk (((((W.setCell ⟨b6, 0, none⟩ (.slice none 0 0)).setCell ⟨b7, 0, none⟩ (.int .i64 0)).setCell ⟨b8, 0, none⟩ (.int .i64 e)).setCell ⟨b8, 1, none⟩ (.int .i64 f)).setCell ⟨b8, 2, none⟩ (.int .i64 t)).drew b7 [.int .i64 0] t7 := Blk.drew <| (((((HK7.out.setCell_other (a := ⟨b6, 0, none⟩) h76 _).set 0 _)).setCell_other (a := ⟨b8, 0, none⟩) h78 _).setCell_other (a := ⟨b8, 1, none⟩) h78 _).setCell_other (a := ⟨b8, 2, none⟩) h78 _
    have A8 : Blk (((((W.setCell ⟨b6, 0, none⟩ (.slice none 0 0)).setCell ⟨b7, 0, none⟩ (.int .i64 0)).setCell ⟨b8, 0, none⟩ (.int .i64 e)).setCell ⟨b8, 1, none⟩ (.int .i64 f)).setCell ⟨b8, 2, none⟩ (.int .i64 t)).drew b8 [.int .i64 e, .int .i64 f, .int .i64 t] 27 := Blk.drew <| ((((HK8.out.setCell_other (a := ⟨b6, 0, none⟩) h86 _).setCell_other (a := ⟨b7, 0, none⟩) h87 _).set 0 _).set 1 _).set 2 _
    have AB : Below B w (((((W.setCell ⟨b6, 0, none⟩ (.slice none 0 0)).setCell ⟨b7, 0, none⟩ (.int .i64 0)).setCell ⟨b8, 0, none⟩ (.int .i64 e)).setCell ⟨b8, 1, none⟩ (.int .i64 f)).setCell ⟨b8, 2, none⟩ (.int .i64 t)).drew := (((((HKB.out.setCell hB6 _).setCell hB7 _).setCell hB8 _).setCell hB8 _).setCell hB8 _).drew
    refine ⟨rfl, _, rfl, .tuple #[], ?_, rfl, rfl, A6, A7, A8, AB⟩
    simp [results, Tryz.results19]
end Go.Proofs.YtnafemcholkmlaaGreatDoor

namespace Go.Proofs.YtnafemcholkmlaaGreatDoor
open Go Go.RowKit Go.Proofs Go.Shelf

/-- The greatest number of ranges in a set. -/
theorem setFrom_len : ∀ {a : List (Int × Int)} {l0 : Int}, l0 ≤ 1114111 → setFrom l0 a = true → 2 * (a.length : Int) ≤ 1114111 - l0
  | [], l0, h0, h => by simp only [List.length_nil]; omega
  | x :: a, l0, h0, h => by
    unfold setFrom at h
    simp only [Bool.and_eq_true, decide_eq_true_eq] at h
    have := setFrom_len h.1.2 h.2
    rw [List.length_cons]
    omega
theorem IsSet.len {out : List (Int × Int)} {p : Int → Bool} (h : IsSet out p) : out.length ≤ 557058 := by
  have := setFrom_len (by omega) h.1
  omega

/-- What stands at a place as a class, read with flags: the set's members, the place behind. -/
def clsQ (s : ByteArray) (p : Nat) (perl : Bool) (fold : Option ((Int → Bool) → Int → Bool)) : ItemR := match clsP s p perl with
  | .wrong e f t => .wrong e f t
  | .ok g q => .ok (fun c => (match fold with | none => g c | some F => F g c) != stands s (p + 1) [94]) q
/-- What a class hands back. -/
def ClsOut (w : World) (r : ItemR) (e : Ending) (w' : World) : Prop :=
  Below w.heap.size w w' ∧ match r with
  | .wrong x f t => e = .returned (.tuple #[.slice none 0 0, .int .i64 0, .agg #[.int .i64 x, .int .i64 f, .int .i64 t]])
  | .ok g q => ∃ v out, e = .returned (.tuple #[v, .int .i64 q, .agg #[.int .i64 0, .int .i64 0, .int .i64 0]]) ∧ Laid w w' out v ∧ IsSet out g
/-- Where the items behind a place end. -/
theorem restP_q {s : ByteArray} {perl : Bool} {fr : Int} : ∀ {n p : Nat} {g : Int → Bool} {f : Int → Bool} {q : Nat}, p ≤ s.size → restP s perl fr n p g = .ok f q → p < q ∧ q ≤ s.size
  | 0, _, _, _, _, _, h => by cases h
  | n + 1, p, g, f, q, hp, h => by
    unfold restP at h
    by_cases c : stands s p [93] = true
    · rw [if_pos c] at h
      cases h
      have l : p + 1 ≤ s.size := stands_le (p := ⟨#[93]⟩) hp c
      omega
    · rw [if_neg c] at h
      cases hi : itemP s p perl fr with
      | wrong a b c => rw [hi] at h; cases h
      | ok f' q' =>
        rw [hi] at h
        have h1 := itemP_q hp hi
        have h2 := restP_q h1.2 h
        omega
end Go.Proofs.YtnafemcholkmlaaGreatDoor
