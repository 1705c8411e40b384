/- Has a tree just the fields of its Op, and may they be? trees.plain. -/
import Derived.Test.YtihbmgpjihgodaaDoorPlain
import Derived.Test.YtihbmgpjihgodaaDoorAtIn
namespace Go.Proofs.YtihbmgpjihgodaaDoor
open Go Go.RowKit Go.Proofs


set_option maxRecDepth 100000 in
set_option maxHeartbeats 1000000 in
theorem plain_at (ka : Option Addr) (kn kc : Nat) (rune : Int) (sa : Option Addr) (sn sc : Nat) (pl cap : Int) (name : ByteArray) (mn mx : Int) (lz : Bool) (w : World) (so : Bool) (hyes : bareOk 5 rune sn pl cap name mn mx lz = true)
    (hset : (5 : Int) = 4 → kn = 0 → 0 < sn → ∀ W, Below w.heap.size w W → Calls Tryd.prog 25 #[.slice sa sn sc] W fun e W' => e = .returned (.bool so) ∧ Below W.heap.size W W') :
    Calls Tryd.prog 13 #[.agg #[.int .i64 5, .slice ka kn kc, .int .i32 rune, .slice sa sn sc, .int .i64 pl, .int .i64 cap, .string name, .int .i64 mn, .int .i64 mx, .bool lz]] w fun e w' =>
      e = .returned (.bool (kindOk 5 kn rune sn so pl name mn mx)) ∧ Below w.heap.size w w' := by
  have HSET := Lib.hid hset; clear hset
  go_enter Tryd.func13, Tryd.ntmps13
  go_wp2_with fail
  refine (trees_bare 5 ka kn kc rune sa sn sc pl cap name mn mx lz _).mono ?_
  rintro e w1 ⟨rfl, hB⟩
  obtain ⟨sa', sn', sc', hb, hsn⟩ := bareC_form 5 rune sa sn sc pl cap name mn mx lz
  rw [hb]
  have HB := Lib.hid hB; clear hB hb
  unfold bareOk at hyes
  rw [← hsn] at hyes
  have HSN := Lib.hid hsn; clear hsn
  generalize (if (5 : Int) = 3 then rune else 0) = r' at hyes ⊢
  generalize (if (5 : Int) = 5 then pl else 0) = p' at hyes ⊢
  generalize (if (5 : Int) = 6 then cap else 0) = c' at hyes ⊢
  generalize (if (5 : Int) = 6 then name else (⟨#[]⟩ : ByteArray)) = n' at hyes ⊢
  generalize (if (5 : Int) = 10 then mn else 0) = mn' at hyes ⊢
  generalize (if (5 : Int) = 10 then mx else 0) = mx' at hyes ⊢
  generalize (if (5 : Int) = 7 ∨ (5 : Int) = 8 ∨ (5 : Int) = 9 ∨ (5 : Int) = 10 then lz else false) = l' at hyes ⊢
  have hsz : w.heap.size < w1.heap.size := by have := HB.out.size; simp only [World.size_alloc] at this; omega
  have ht := (Blk.below (Blk.new w [.int .i64 5, .slice ka kn kc, .int .i32 rune, .slice sa sn sc, .int .i64 pl, .int .i64 cap, .string name, .int .i64 mn, .int .i64 mx, .bool lz] 27) HB.out (by simp))
  have t0 := Blk.cell ht (j := 0) rfl; have t1 := Blk.cell ht (j := 1) rfl; have t2 := Blk.cell ht (j := 2) rfl; have t3 := Blk.cell ht (j := 3) rfl; have t4 := Blk.cell ht (j := 4) rfl
  have t5 := Blk.cell ht (j := 5) rfl; have t6 := Blk.cell ht (j := 6) rfl; have t7 := Blk.cell ht (j := 7) rfl; have t8 := Blk.cell ht (j := 8) rfl; have t9 := Blk.cell ht (j := 9) rfl
  clear ht
  have B0 := Lib.hid (show Below w.heap.size w w1 from ((Below.refl _ w).alloc (Nat.le_refl _) _).trans (HB.out.mono (by simp)))
  clear HB
  simp only [Bool.and_eq_true, decide_eq_true_eq] at hyes
  obtain ⟨⟨⟨⟨⟨⟨⟨k1, k2⟩, k3⟩, k4⟩, k5⟩, k6⟩, k7⟩, k8⟩ := hyes
  subst k1 k2 k3 k4 k5 k6 k7 k8
  have B1 := Lib.hid (show ∀ o, Below w.heap.size w (w1.alloc o) from fun o => B0.out.alloc (by omega) o)
  by_cases q1 : kn = 0
  · subst q1
    obtain ⟨D, hD⟩ : ∃ D, decide (p' ∈ ([1, 2, 4, 8, 16, 32] : List Int)) = D := ⟨_, rfl⟩
    have HK := Lib.hid (show kindOk 5 0 r' sn' so p' n' mn' mx' = D by rw [← hD]; unfold kindOk; simp)
    have HD := Lib.hid hD; clear hD
    clear HSET
    go_wp2_with fail
    have hn := Blk.new (w1.alloc (.cells #[.int .i64 5, .slice none 0 0, .int .i32 r', .slice sa' sn' sc', .int .i64 p', .int .i64 c', .string n', .int .i64 mn', .int .i64 mx', .bool l'] 27)) [.int .i64 1, .int .i64 2, .int .i64 4, .int .i64 8, .int .i64 16, .int .i64 32] 25
    rw [World.size_alloc] at hn
    refine (contains_six _ p' _ _ hn).mono ?_
    clear hn
    rintro e w2 ⟨rfl, rfl⟩
    rw [HD.out]
    go_wp2_with fail
    go_ret
    exact ⟨by rw [HK.out]; rfl, (B1.out _).alloc (by simp; omega) _⟩
  · have q1' : ((kn : Int) == 0) = false := by simpa using q1
    have HK := Lib.hid (show kindOk 5 kn r' sn' so p' n' mn' mx' = false by unfold kindOk; simp [q1])
    clear HSET
    go_wp2_with fail
    go_ret
    exact ⟨by rw [HK.out]; rfl, B1.out _⟩
end Go.Proofs.YtihbmgpjihgodaaDoor
