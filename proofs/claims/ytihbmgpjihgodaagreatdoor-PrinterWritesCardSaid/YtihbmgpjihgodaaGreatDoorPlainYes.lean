/- Has a tree just the fields of its Op, and may they be? trees.plain. -/
import Derived.Test.YtihbmgpjihgodaaGreatDoorPlain
import Derived.Test.YtihbmgpjihgodaaGreatDoorQAtIn
namespace Go.Proofs.YtihbmgpjihgodaaGreatDoor
open Go Go.RowKit Go.Proofs


set_option maxRecDepth 100000 in
set_option maxHeartbeats 1000000 in
theorem plain_yes (op : Int) (ka : Option Addr) (kn kc : Nat) (rune : Int) (sa : Option Addr) (sn sc : Nat) (pl cap : Int) (name : ByteArray) (mn mx : Int) (lz : Bool) (w : World) (so : Bool) (o5 : ¬ op = 5) (hyes : bareOk op rune sn pl cap name mn mx lz = true)
    (hset : op = 4 → kn = 0 → 0 < sn → ∀ W, Below w.heap.size w W → Calls Tryz.prog 36 #[.slice sa sn sc] W fun e W' => e = .returned (.bool so) ∧ Below W.heap.size W W') :
    Calls Tryz.prog 15 #[.agg #[.int .i64 op, .slice ka kn kc, .int .i32 rune, .slice sa sn sc, .int .i64 pl, .int .i64 cap, .string name, .int .i64 mn, .int .i64 mx, .bool lz]] w fun e w' =>
      e = .returned (.bool (kindOk op kn rune sn so pl name mn mx)) ∧ Below w.heap.size w w' := by
  have HSET := Lib.hid hset; clear hset
  go_enter Tryz.func15, Tryz.ntmps15
  go_wp2_with fail
  refine (trees_bare op ka kn kc rune sa sn sc pl cap name mn mx lz _).mono ?_
  rintro e w1 ⟨rfl, hB⟩
  obtain ⟨sa', sn', sc', hb, hsn⟩ := bareC_form op rune sa sn sc pl cap name mn mx lz
  rw [hb]
  have HB := Lib.hid hB; clear hB hb
  unfold bareOk at hyes
  rw [← hsn] at hyes
  have HSN := Lib.hid hsn; clear hsn
  generalize (if op = 3 then rune else 0) = r' at hyes ⊢
  generalize (if op = 5 then pl else 0) = p' at hyes ⊢
  generalize (if op = 6 then cap else 0) = c' at hyes ⊢
  generalize (if op = 6 then name else (⟨#[]⟩ : ByteArray)) = n' at hyes ⊢
  generalize (if op = 10 then mn else 0) = mn' at hyes ⊢
  generalize (if op = 10 then mx else 0) = mx' at hyes ⊢
  generalize (if op = 7 ∨ op = 8 ∨ op = 9 ∨ op = 10 then lz else false) = l' at hyes ⊢
  have hsz : w.heap.size < w1.heap.size := by have := HB.out.size; simp only [World.size_alloc] at this; omega
  have ht := (Blk.below (Blk.new w [.int .i64 op, .slice ka kn kc, .int .i32 rune, .slice sa sn sc, .int .i64 pl, .int .i64 cap, .string name, .int .i64 mn, .int .i64 mx, .bool lz] 27) HB.out (by simp))
  have t0 := Blk.cell ht (j := 0) rfl; have t1 := Blk.cell ht (j := 1) rfl; have t2 := Blk.cell ht (j := 2) rfl; have t3 := Blk.cell ht (j := 3) rfl; have t4 := Blk.cell ht (j := 4) rfl
  have t5 := Blk.cell ht (j := 5) rfl; have t6 := Blk.cell ht (j := 6) rfl; have t7 := Blk.cell ht (j := 7) rfl; have t8 := Blk.cell ht (j := 8) rfl; have t9 := Blk.cell ht (j := 9) rfl
  clear ht
  have B0 := Lib.hid (show Below w.heap.size w w1 from ((Below.refl _ w).alloc (Nat.le_refl _) _).trans (HB.out.mono (by simp)))
  clear HB
  simp only [Bool.and_eq_true, decide_eq_true_eq] at hyes
  obtain ⟨⟨⟨⟨⟨⟨⟨k1, k2⟩, k3⟩, k4⟩, k5⟩, k6⟩, k7⟩, k8⟩ := hyes
  subst k1 k2 k3 k4 k5 k6 k7 k8
  have B1 := Lib.hid (show ∀ o, Below w.heap.size w (w1.alloc o) from fun o => B0.out.alloc (by omega) o)
  by_cases o1 : op = 1
  · subst o1
    go_wp2_with fail
    all_goals
      go_ret
      refine ⟨congrArg (fun z => Ending.returned (Value.bool z)) (?_ : _ = kindOk _ _ _ _ _ _ _ _ _), B1.out _⟩
      refine Bool.eq_iff_iff.2 ?_
      simp [kindOk]
      try omega
  · by_cases o2 : op = 2
    · subst o2
      go_wp2_with fail
      all_goals
        go_ret
        refine ⟨congrArg (fun z => Ending.returned (Value.bool z)) (?_ : _ = kindOk _ _ _ _ _ _ _ _ _), B1.out _⟩
        refine Bool.eq_iff_iff.2 ?_
        simp [kindOk]
        try omega
    · by_cases o3 : op = 3
      · subst o3
        go_wp2_with fail
        all_goals
          go_ret
          refine ⟨congrArg (fun z => Ending.returned (Value.bool z)) (?_ : _ = kindOk _ _ _ _ _ _ _ _ _), B1.out _⟩
          refine Bool.eq_iff_iff.2 ?_
          simp [kindOk]
          try omega
      · by_cases o7 : op = 7
        · subst o7
          go_wp2_with fail
          all_goals
            go_ret
            refine ⟨congrArg (fun z => Ending.returned (Value.bool z)) (?_ : _ = kindOk _ _ _ _ _ _ _ _ _), B1.out _⟩
            refine Bool.eq_iff_iff.2 ?_
            simp [kindOk]
            try omega
        · by_cases o8 : op = 8
          · subst o8
            go_wp2_with fail
            all_goals
              go_ret
              refine ⟨congrArg (fun z => Ending.returned (Value.bool z)) (?_ : _ = kindOk _ _ _ _ _ _ _ _ _), B1.out _⟩
              refine Bool.eq_iff_iff.2 ?_
              simp [kindOk]
              try omega
          · by_cases o9 : op = 9
            · subst o9
              go_wp2_with fail
              all_goals
                go_ret
                refine ⟨congrArg (fun z => Ending.returned (Value.bool z)) (?_ : _ = kindOk _ _ _ _ _ _ _ _ _), B1.out _⟩
                refine Bool.eq_iff_iff.2 ?_
                simp [kindOk]
                try omega
            · by_cases o10 : op = 10
              · subst o10
                go_wp2_with fail
                all_goals
                  go_ret
                  refine ⟨congrArg (fun z => Ending.returned (Value.bool z)) (?_ : _ = kindOk _ _ _ _ _ _ _ _ _), B1.out _⟩
                  refine Bool.eq_iff_iff.2 ?_
                  simp [kindOk]
                  try omega
              · by_cases o11 : op = 11
                · subst o11
                  go_wp2_with fail
                  all_goals
                    go_ret
                    refine ⟨congrArg (fun z => Ending.returned (Value.bool z)) (?_ : _ = kindOk _ _ _ _ _ _ _ _ _), B1.out _⟩
                    refine Bool.eq_iff_iff.2 ?_
                    simp [kindOk]
                    try omega
                · by_cases o12 : op = 12
                  · subst o12
                    go_wp2_with fail
                    all_goals
                      go_ret
                      refine ⟨congrArg (fun z => Ending.returned (Value.bool z)) (?_ : _ = kindOk _ _ _ _ _ _ _ _ _), B1.out _⟩
                      refine Bool.eq_iff_iff.2 ?_
                      simp [kindOk]
                      try omega
                  · by_cases o4 : op = 4
                    · subst o4
                      by_cases q1 : kn = 0
                      · subst q1
                        by_cases q2 : 0 < sn'
                        · have q2' : (0 : Int) < (sn' : Int) := by omega
                          have HC := Lib.hid (HSET.out rfl rfl q2)
                          have HK := Lib.hid (show kindOk 4 0 r' sn' so p' n' mn' mx' = so by unfold kindOk; simp [q2])
                          clear HSET
                          go_wp2_with fail
                          refine (HC.out _ (B1.out _)).mono ?_
                          rintro e w2 ⟨rfl, hB2⟩
                          have B2 := Lib.hid (below_next (B1.out _) (Nat.le_refl _) (grownBy_below hB2 none) (by simp)); clear hB2
                          go_wp2_with fail
                          go_ret
                          exact ⟨by rw [HK.out]; rfl, B2.out⟩
                        · have q2' : ¬ (0 : Int) < (sn' : Int) := by omega
                          have HK := Lib.hid (show kindOk 4 0 r' sn' so p' n' mn' mx' = false by unfold kindOk; simp [q2])
                          clear HSET
                          go_wp2_with fail
                          go_ret
                          exact ⟨by rw [HK.out]; rfl, B1.out _⟩
                      · have q1' : ((kn : Int) == 0) = false := by simpa using q1
                        have HK := Lib.hid (show kindOk 4 kn r' sn' so p' n' mn' mx' = false by unfold kindOk; simp [q1])
                        clear HSET
                        go_wp2_with fail
                        go_ret
                        exact ⟨by rw [HK.out]; rfl, B1.out _⟩
                    · by_cases o6 : op = 6
                      · subst o6
                        by_cases q1 : kn = 1
                        · subst q1
                          by_cases q2 : n'.size = 0
                          · obtain rfl := size_zero q2
                            have HK := Lib.hid (show kindOk 6 1 r' sn' so p' ⟨#[]⟩ mn' mx' = true from rfl)
                            clear HSET q2
                            go_wp2_with fail
                            go_ret
                            exact ⟨by rw [HK.out]; rfl, B1.out _⟩
                          · have q3 := list_ne q2
                            have HK := Lib.hid (show kindOk 6 1 r' sn' so p' n' mn' mx' = nameB n' by unfold kindOk; simp [q2])
                            clear HSET
                            go_wp2_with fail
                            refine (trees_name n' _).mono ?_
                            rintro e w2 ⟨rfl, hB2⟩
                            have B2 := Lib.hid (below_next (B1.out _) (Nat.le_refl _) (grownBy_below hB2 none) (by simp)); clear hB2
                            go_wp2_with fail
                            go_ret
                            exact ⟨by rw [HK.out]; rfl, B2.out⟩
                        · have q1' : ((kn : Int) == 1) = false := by simp; omega
                          have HK := Lib.hid (show kindOk 6 kn r' sn' so p' n' mn' mx' = false by unfold kindOk; simp [q1])
                          clear HSET
                          go_wp2_with fail
                          go_ret
                          exact ⟨by rw [HK.out]; rfl, B1.out _⟩
                      · have e1 : (op == 1) = false := by simpa using o1
                        have e2 : (op == 2) = false := by simpa using o2
                        have e3 : (op == 3) = false := by simpa using o3
                        have e7 : (op == 7) = false := by simpa using o7
                        have e8 : (op == 8) = false := by simpa using o8
                        have e9 : (op == 9) = false := by simpa using o9
                        have e10 : (op == 10) = false := by simpa using o10
                        have e11 : (op == 11) = false := by simpa using o11
                        have e12 : (op == 12) = false := by simpa using o12
                        have e4 : (op == 4) = false := by simpa using o4
                        have e5 : (op == 5) = false := by simpa using o5
                        have e6 : (op == 6) = false := by simpa using o6
                        have hk : kindOk op kn r' sn' so p' n' mn' mx' = false := by unfold kindOk; simp [o1, o2, o3, o4, o5, o6, o7, o8, o9, o10, o11, o12]
                        have HK := Lib.hid hk
                        clear o1 o2 o3 o4 o5 o6 o7 o8 o9 o10 o11 o12 hk
                        go_wp2_with fail
                        go_ret
                        exact ⟨by rw [HK.out]; rfl, B1.out _⟩
end Go.Proofs.YtihbmgpjihgodaaGreatDoor
