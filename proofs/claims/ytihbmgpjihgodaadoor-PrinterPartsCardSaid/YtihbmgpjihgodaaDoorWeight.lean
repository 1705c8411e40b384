/- How great a program may be that does a tree: trees.Weight. -/
import Derived.Test.YtihbmgpjihgodaaDoorBase
import Derived.Test.YtihbmgpjihgodaaDoorBlk
import Derived.Test.YtihbmgpjihgodaaDoorProg
import Derived.WalkKit
import Derived.Lib.Hide
import Derived.WalkSpells
import Derived.WalkLawsBesides
namespace Go.Proofs.YtihbmgpjihgodaaDoor
open Go Go.RowKit Go.Proofs

/-- What a tree's Op adds to its kids' weights. -/
def weightK (op n : Int) (kn : Nat) (mn mx : Int) : Int :=
  min (if op = 6 then n + 2 else if op = 12 then n + min (kn : Int) 4001 else if op = 10 then n * min (max (max mn mx) 1) 4001 + min (max (max mn mx) 1) 4001 + 1
    else if op = 7 ∨ op = 8 ∨ op = 9 ∨ op = 11 then n + 1 else 1) 4001
mutual
def weight : T → Int
  | .mk op kids _ _ _ _ _ mn mx _ => weightK op (weightF 0 kids) kids.length mn mx
def weightF (n : Int) : List T → Int
  | [] => n
  | t :: ts => weightF (min (n + weight t) 4001) ts
end
theorem weightF_snoc (n : Int) (l : List T) (t : T) : weightF n (l ++ [t]) = min (weightF n l + weight t) 4001 := by
  induction l generalizing n with
  | nil => simp [weightF]
  | cons a l ih => simp [weightF, ih]
theorem weightF_take (l : List T) (k : Nat) (h : k < l.length) : weightF 0 (l.take (k + 1)) = min (weightF 0 (l.take k) + weight l[k]) 4001 := by
  rw [List.take_succ_eq_append_getElem h, weightF_snoc]
theorem weightK_le (op n : Int) (kn : Nat) (mn mx : Int) (h : 0 ≤ n) : 0 ≤ weightK op n kn mn mx ∧ weightK op n kn mn mx ≤ 4001 := by
  have hk : 0 ≤ n * min (max (max mn mx) 1) 4001 := Int.mul_nonneg h (by omega)
  unfold weightK
  generalize n * min (max (max mn mx) 1) 4001 = q at *
  constructor
  · repeat' split
    all_goals omega
  · omega
theorem weight_le (t : T) : 0 ≤ weight t ∧ weight t ≤ 4001 := by
  induction t using T.ind with
  | h op kids rune set pl cap name mn mx lz ih =>
    have hf : ∀ (l : List T) (n : Int), (∀ k ∈ l, 0 ≤ weight k ∧ weight k ≤ 4001) → 0 ≤ n → 0 ≤ weightF n l := by
      intro l
      induction l with
      | nil => intro n _ h; simpa [weightF] using h
      | cons a l ihl => intro n hl h; simp only [weightF]; exact ihl _ (fun k hk => hl k (List.mem_cons_of_mem _ hk)) (by have := (hl a (List.mem_cons_self ..)).1; omega)
    simp only [weight]
    exact weightK_le _ _ _ _ _ (hf kids 0 ih (Int.le_refl _))
theorem weightF_le (l : List T) : 0 ≤ weightF 0 l ∧ weightF 0 l ≤ 4001 := by
  have : ∀ (l : List T) (n : Int), 0 ≤ n → n ≤ 4001 → 0 ≤ weightF n l ∧ weightF n l ≤ 4001 := by
    intro l
    induction l with
    | nil => intro n h k; simpa [weightF] using ⟨h, k⟩
    | cons a l ih => intro n h k; simp only [weightF]; have := weight_le a; exact ih _ (by omega) (by omega)
  exact this l 0 (Int.le_refl _) (by omega)

set_option maxHeartbeats 1000000 in
theorem weight_any (t : T) : ∀ (cs : List Value) (B : Nat) (w : World), TreeV w B t cs → B ≤ w.heap.size →
    Calls Tryd.prog 11 #[.agg cs.toArray] w fun e w' => e = .returned (.int .i64 (weight t)) ∧ Below w.heap.size w w' := by
  induction t using T.ind with
  | h op kids rune set pl cap name mn mx lz ih =>
    intro cs B w h hB
    obtain ⟨ka, kn, kc, sa, sn, sc, rfl, ⟨rfl, h2, h3⟩, h4⟩ := h.open
    have IH := Lib.hid ih; clear ih
    have H3 := Lib.hid h3; clear h3
    clear h h4
    have HW := Lib.hid (show weight (.mk op kids rune set pl cap name mn mx lz) = weightK op (weightF 0 kids) kids.length mn mx by simp [weight])
    go_enter Tryd.func11, Tryd.ntmps11
    go_wp2_with fail
    go_loopw [3, 10] (fun n i wr => ∃ k : Nat, k ≤ kids.length ∧ i = .int .i64 k ∧ n = .int .i64 (weightF 0 (kids.take k)) ∧ Below w.heap.size w wr ∧
      Blk wr w.heap.size [.int .i64 op, .slice ka kids.length kc, .int .i32 rune, .slice sa sn sc, .int .i64 pl, .int .i64 cap, .string name, .int .i64 mn, .int .i64 mx, .bool lz] 27) (fun _ i _ => kids.length - (intOf i).toNat)
    case atStart => exact ⟨0, Nat.zero_le _, rfl, by simp [weightF], (Below.refl _ _).alloc (Nat.le_refl _) _, Blk.new w [.int .i64 op, .slice ka kids.length kc, .int .i32 rune, .slice sa sn sc, .int .i64 pl, .int .i64 cap, .string name, .int .i64 mn, .int .i64 mx, .bool lz] 27⟩
    case round =>
      obtain ⟨k, hk, rfl, rfl, hb, hbox⟩ := hrel
      have HBox := Lib.hid hbox
      by_cases hlt : k < kids.length
      · rcases H3.out with h0 | ⟨b, o, rfl, hbB, hK⟩
        · omega
        obtain ⟨cs, hc, hr⟩ := (hK.get k hlt)
        have hc' := hc.below (hb.mono hB)
        have hr' := hr.below (hb.mono hB) hbB
        have IHk := Lib.hid (IH.out _ (List.getElem_mem hlt) cs B)
        obtain ⟨op1, ka1, kn1, kc1, rune1, sa1, sn1, sc1, pl1, cap1, name1, mn1, mx1, lz1, rfl⟩ := hc.form
        obtain ⟨g0, g1, g2, g3, g4, g5, g6, g7, g8, g9⟩ := hr'.ten
        have HC := Lib.hid hc'
        have HB := Lib.hid hb
        have HS := Lib.hid hb.size
        have hn := weightF_le (kids.take k)
        have hq := weightF_take kids k hlt
        have hw := weight_le kids[k]
        have HQ := Lib.hid hq; clear hq
        clear hr hr' hc hc' hbox
        obtain ⟨hn1, hn2⟩ := hn
        obtain ⟨hw1, hw2⟩ := hw
        obtain ⟨N, hN⟩ : ∃ N, N = weightF 0 (kids.take k) := ⟨_, rfl⟩
        rw [← hN] at hn1 hn2 ⊢
        have HN := Lib.hid hN; clear hN
        go_wp2_with fail
        refine (IHk.out _ (HC.out.below ((Below.refl _ _).alloc (Nat.le_trans hB HS.out) _)) (by simp only [World.size_alloc]; have := HS.out; omega)).mono ?_
        rintro e w2 ⟨rfl, hb2⟩
        have HB2 := Lib.hid hb2; clear hb2
        obtain ⟨V, hV⟩ : ∃ V, V = weight kids[k] := ⟨_, rfl⟩
        rw [← hV] at hw1 hw2 ⊢
        have HV := Lib.hid hV; clear hV
        go_wp2_with fail
        go_roundw
        case rel =>
          refine ⟨k + 1, hlt, by go_num, ?_, ?_, ?_⟩
          · rw [HQ.out, ← HN.out, ← HV.out]
            exact congrArg (Value.int .i64) (by split <;> omega)
          · exact (HB.out.alloc HS.out _).trans (HB2.out.mono (by simp only [World.size_alloc]; have := HS.out; omega))
          · exact (HBox.out.alloc _).below HB2.out (by simp only [World.size_alloc]; have := HBox.out.lt; omega)
        case measure => simp [intOf]; omega
      · have hk' : k = kids.length := by omega
        have hq : weightF 0 (kids.take k) = weightF 0 kids := by rw [hk', List.take_length]
        rw [hq]
        have hn := weightF_le kids
        obtain ⟨hn1, hn2⟩ := hn
        obtain ⟨N, hN⟩ : ∃ N, N = weightF 0 kids := ⟨_, rfl⟩
        rw [← hN] at hn1 hn2 ⊢
        have HN := Lib.hid hN; clear hN hq
        have HW2 := Lib.hid (show weight (.mk op kids rune set pl cap name mn mx lz) = weightK op N kids.length mn mx by rw [HW.out, HN.out])
        clear hk'
        have t0 := Blk.cell hbox (j := 0) rfl; have t1 := Blk.cell hbox (j := 1) rfl; have t7 := Blk.cell hbox (j := 7) rfl; have t8 := Blk.cell hbox (j := 8) rfl
        have HB := Lib.hid hb
        clear hbox hb
        by_cases o6 : op = 6
        · subst o6
          go_wp2_with fail
          all_goals
            go_ret
            refine ⟨?_, HB.out⟩
            rw [HW2.out]
            refine congrArg (fun z => Ending.returned (Value.int .i64 z)) (?_ : _ = weightK _ _ _ _ _)
            simp [weightK]
            try omega
        · by_cases o12 : op = 12
          · subst o12
            go_wp2_with fail
            all_goals
              go_ret
              refine ⟨?_, HB.out⟩
              rw [HW2.out]
              refine congrArg (fun z => Ending.returned (Value.int .i64 z)) (?_ : _ = weightK _ _ _ _ _)
              simp [weightK]
              try omega
          · by_cases o10 : op = 10
            · subst o10
              obtain ⟨K, hK⟩ : ∃ K, (if (4001 : Int) < (if (if mn < mx then mx else mn) < 1 then 1 else if mn < mx then mx else mn) then 4001 else (if (if mn < mx then mx else mn) < 1 then 1 else if mn < mx then mx else mn)) = K := ⟨_, rfl⟩
              have hKK : K = min (max (max mn mx) 1) 4001 := by rw [← hK]; repeat' split <;> omega
              have hK1 : 1 ≤ K ∧ K ≤ 4001 := by omega
              obtain ⟨P, hP⟩ : ∃ P, N * K = P := ⟨_, rfl⟩
              have hP1 : 0 ≤ P := by rw [← hP]; exact Int.mul_nonneg hn1 (by omega)
              have hP2 : P ≤ 16008001 := by
                rw [← hP]
                have := Int.mul_le_mul hn2 hK1.2 (by omega) (by omega)
                omega
              obtain ⟨hKa, hKb⟩ := hK1
              have HP := Lib.hid (show weightK 10 N kids.length mn mx = min (P + K + 1) 4001 by unfold weightK; rw [if_neg (by decide), if_neg (by decide), if_pos rfl, ← hKK, hP])
              clear hKK
              go_wp2_with fail
              all_goals
                go_ret
                refine ⟨?_, HB.out⟩
                rw [HW2.out, HP.out]
                refine congrArg (fun z => Ending.returned (Value.int .i64 z)) (?_ : _ = min (P + K + 1) 4001)
                omega
            · by_cases o7 : op = 7
              · subst o7
                go_wp2_with fail
                all_goals
                  go_ret
                  refine ⟨?_, HB.out⟩
                  rw [HW2.out]
                  refine congrArg (fun z => Ending.returned (Value.int .i64 z)) (?_ : _ = weightK _ _ _ _ _)
                  simp [weightK]
                  try omega
              · by_cases o8 : op = 8
                · subst o8
                  go_wp2_with fail
                  all_goals
                    go_ret
                    refine ⟨?_, HB.out⟩
                    rw [HW2.out]
                    refine congrArg (fun z => Ending.returned (Value.int .i64 z)) (?_ : _ = weightK _ _ _ _ _)
                    simp [weightK]
                    try omega
                · by_cases o9 : op = 9
                  · subst o9
                    go_wp2_with fail
                    all_goals
                      go_ret
                      refine ⟨?_, HB.out⟩
                      rw [HW2.out]
                      refine congrArg (fun z => Ending.returned (Value.int .i64 z)) (?_ : _ = weightK _ _ _ _ _)
                      simp [weightK]
                      try omega
                  · by_cases o11 : op = 11
                    · subst o11
                      go_wp2_with fail
                      all_goals
                        go_ret
                        refine ⟨?_, HB.out⟩
                        rw [HW2.out]
                        refine congrArg (fun z => Ending.returned (Value.int .i64 z)) (?_ : _ = weightK _ _ _ _ _)
                        simp [weightK]
                        try omega
                    · have e6 : (op == 6) = false := by simpa using o6
                      have e12 : (op == 12) = false := by simpa using o12
                      have e10 : (op == 10) = false := by simpa using o10
                      have e7 : (op == 7) = false := by simpa using o7
                      have e8 : (op == 8) = false := by simpa using o8
                      have e9 : (op == 9) = false := by simpa using o9
                      have e11 : (op == 11) = false := by simpa using o11
                      have HK := Lib.hid (show weightK op N kids.length mn mx = 1 by unfold weightK; simp [o6, o12, o10, o7, o8, o9, o11]; rfl)
                      clear o6 o12 o10 o7 o8 o9 o11
                      go_wp2_with fail
                      go_ret
                      exact ⟨by rw [HW2.out, HK.out]; rfl, HB.out⟩
end Go.Proofs.YtihbmgpjihgodaaDoor
