/- ScanCodes: a rune's number behind a backslash and x, with noughts ahead, whatever stands behind, is read as it; a sign behind a backslash is itself: the parts. -/
import Derived.Test.YtjmgboegipeijaaGreatDoorEscS
import Derived.Test.YtjmgboegipeijaaGreatDoorFlags
import Derived.Deep.RegionWith
import Derived.LoopTactic
import Derived.Below
import Derived.IntWalk
namespace Go.Proofs.YtjmgboegipeijaaGreatDoor
open Go Go.RowKit Go.Proofs

def hexC (d : Nat) : UInt8 := [48, 49, 50, 51, 52, 53, 54, 55, 56, 57, 97, 98, 99, 100, 101, 102].getD d 0
/-- A number's digits. -/
def hexD (n : Nat) : List UInt8 := if n < 16 then [hexC n] else hexD (n / 16) ++ [hexC (n % 16)]
termination_by n
decreasing_by omega

theorem hexC_digit : ∀ d : Fin 16, (if (hexC d.val).toNat > 57 then ((hexC d.val).toNat : Int) - 87 else ((hexC d.val).toNat : Int) - 48) = (d.val : Int) := by decide
theorem hexC_in : ∀ d : Fin 16, hexs.contains (hexC d.val) = true ∧ Lib.lowerB (hexC d.val) = hexC d.val := by decide
theorem hexD_small {n : Nat} (h : n < 16) : hexD n = [hexC n] := by rw [hexD, if_pos h]
theorem hexD_big {n : Nat} (h : ¬ n < 16) : hexD n = hexD (n / 16) ++ [hexC (n % 16)] := by rw [hexD, if_neg h]
theorem hexD_in (n : Nat) : ∀ c ∈ hexD n, hexs.contains c = true ∧ Lib.lowerB c = c := by
  induction n using Nat.strongRecOn with
  | _ n ih =>
    intro c hc
    by_cases h : n < 16
    · rw [hexD_small h] at hc
      rw [List.mem_singleton.1 hc]; exact hexC_in ⟨n, h⟩
    · rw [hexD_big h] at hc
      rcases List.mem_append.1 hc with hc | hc
      · exact ih (n / 16) (by omega) c hc
      · rw [List.mem_singleton.1 hc]; exact hexC_in ⟨n % 16, by omega⟩
theorem hexD_len (n : Nat) (k : Nat) (hn : n < 16 ^ (k + 1)) : (hexD n).length ≤ k + 1 := by
  induction k generalizing n with
  | zero => rw [hexD_small (by simpa using hn)]; simp
  | succ k ih =>
    by_cases h : n < 16
    · rw [hexD_small h]; simp
    · rw [hexD_big h]
      have := ih (n / 16) (by rw [Nat.pow_succ] at hn; omega)
      simp only [List.length_append, List.length_cons, List.length_nil]; omega
theorem hexD_ne (n : Nat) : hexD n ≠ [] := by
  by_cases h : n < 16
  · rw [hexD_small h]; simp
  · rw [hexD_big h]; simp
theorem numP_noughts (k : Nat) : numP 16 1114111 0 (List.replicate k 48) = 0 := by
  induction k with
  | zero => rfl
  | succ k ih => rw [List.replicate_succ']; rw [numP_snoc, ih]; decide
theorem numP_hexD (k n : Nat) (hn : n ≤ 1114111) : numP 16 1114111 0 (List.replicate k 48 ++ hexD n) = n := by
  induction n using Nat.strongRecOn with
  | _ n ih =>
    by_cases h : n < 16
    · have := hexC_digit ⟨n, h⟩
      rw [hexD_small h, numP_snoc, numP_noughts, this]; simp only; omega
    · have := hexC_digit ⟨n % 16, by omega⟩
      rw [hexD_big h, ← List.append_assoc, numP_snoc, ih (n / 16) (by omega) (by omega), this]; simp only; omega
theorem toLower_same {l : List UInt8} (h : ∀ c ∈ l, Lib.lowerB c = c) : Lib.toLowerA l = l := by
  unfold Lib.toLowerA
  induction l with
  | nil => rfl
  | cons a l ih => rw [List.map_cons, h a (List.mem_cons_self ..), ih fun c hc => h c (List.mem_cons_of_mem _ hc)]
theorem hexN_hexD (k n : Nat) (hn : n ≤ 1114111) : hexN (List.replicate k 48 ++ hexD n) = n := by
  unfold hexN
  rw [toLower_same, numP_hexD k n hn]
  intro c hc
  rcases List.mem_append.1 hc with hc | hc
  · rw [List.eq_of_mem_replicate hc]; decide
  · exact (hexD_in n c hc).2

/-- The text of a rune's number. -/
def codeText (k n : Nat) : List UInt8 := [92, 120, 123] ++ List.replicate k 48 ++ hexD n ++ [125]

theorem takeWhile_all {α : Type} (f : α → Bool) (l m : List α) (c : α) (h : ∀ x ∈ l, f x = true) (hc : f c = false) : (l ++ c :: m).takeWhile f = l := by
  induction l with
  | nil => simp [hc]
  | cons a l ih => simp only [List.cons_append, List.takeWhile_cons, h a (List.mem_cons_self ..), if_true]; rw [ih fun x hx => h x (List.mem_cons_of_mem _ hx)]

theorem stands_of_drop {s : ByteArray} {p : Nat} {l rest : List UInt8} (h : s.data.toList.drop p = l ++ rest) : stands s p l = true := by
  unfold stands Lib.hasPrefix
  rw [h]; simp
theorem code_read (s : ByteArray) (k n : Nat) (rest : List UInt8) (hn : n ≤ 1114111) (h : s.data.toList = codeText k n ++ rest) :
    stands s 0 [92] = true ∧ s.data.toList[0 + 1]? = some 120 ∧ stands s (0 + 2) [123] = true ∧ bracedN s (0 + 2) = ((n : Int), true, (codeText k n).length) := by
  have d2 : s.data.toList.drop 2 = 123 :: ((List.replicate k 48 ++ hexD n) ++ 125 :: rest) := by rw [h]; simp [codeText]
  have d3 : s.data.toList.drop (2 + 1) = (List.replicate k 48 ++ hexD n) ++ 125 :: rest := by rw [← List.drop_drop, d2]; rfl
  have hrun : runP s (2 + 1) hexs = List.replicate k 48 ++ hexD n := by
    unfold runP
    rw [d3]
    refine takeWhile_all _ _ _ _ (fun c hc => ?_) (by decide)
    rcases List.mem_append.1 hc with hc | hc
    · rw [List.eq_of_mem_replicate hc]; decide
    · exact (hexD_in n c hc).1
  refine ⟨by unfold stands; rw [h]; simp [codeText, Lib.hasPrefix], by rw [h]; simp [codeText], by unfold stands; rw [show 0 + 2 = 2 from rfl, d2]; simp [Lib.hasPrefix], ?_⟩
  unfold bracedN
  have hst : stands s (2 + 1 + (List.replicate k 48 ++ hexD n).length) [125] = true := by
    refine stands_of_drop (rest := rest) ?_
    rw [← List.drop_drop, d3, List.drop_left]; rfl
  have hne : (List.replicate k 48 ++ hexD n).isEmpty = false := by
    have := hexD_ne n
    cases h : hexD n <;> simp_all
  rw [show 0 + 2 = 2 from rfl, hrun, hst, hne, hexN_hexD k n hn]
  simp only [Bool.not_false, Bool.and_self, Bool.true_and, if_true]
  refine Prod.ext rfl (Prod.ext (by simp; omega) ?_)
  simp [codeText]; omega

theorem ba_eq {a b : ByteArray} (h : a.data.toList = b.data.toList) : a = b := by
  cases a; cases b; simp only [ByteArray.mk.injEq]; exact Array.toList_inj.1 h
theorem hexC_cut : ∀ d : Fin 16, (⟨#[48, 49, 50, 51, 52, 53, 54, 55, 56, 57, 97, 98, 99, 100, 101, 102]⟩ : ByteArray).extract d.val (d.val + 1) = ⟨#[hexC d.val]⟩ := by decide

set_option maxRecDepth 100000 in
set_option maxHeartbeats 400000 in
theorem law06_hex : ∀ (c : Nat) (w : World), c ≤ 1114111 → Calls Tryz.prog 16 #[.int .i32 c] w fun e w' => e = .returned (.string ⟨(hexD c).toArray⟩) ∧ Below w.heap.size w w' := by
  intro c
  induction c using Nat.strongRecOn with
  | _ c ih =>
    intro w hc
    by_cases h : c < 16
    · have hh := hexD_small h
      go_enter Tryz.func16, Tryz.ntmps16
      go_wp2_with fail
      go_ret
      refine ⟨?_, Below.refl _ w⟩
      rw [hh, ← hexC_cut ⟨c, h⟩]; rfl
    · have hh := hexD_big h
      have HI := Lib.hid ih; clear ih
      have HQ := Lib.hid (show IntKind.i32.wrap ((c : Int) / 16) = ((c / 16 : Nat) : Int) by rw [IntWalk.i32_in _ (by omega)]; rfl)
      have HQ2 := Lib.hid (show (c : Int) / 16 = ((c / 16 : Nat) : Int) from rfl)
      have hl : (⟨(hexD (c / 16)).toArray⟩ : ByteArray).size ≤ 5 := by
        have := hexD_len (c / 16) 4 (by omega)
        show (hexD (c / 16)).toArray.size ≤ 5
        simpa using this
      obtain ⟨m, hm⟩ : ∃ m, m = c % 16 := ⟨_, rfl⟩
      have hr : ((c : Int)).tmod 16 = (m : Int) := by rw [hm]; rfl
      have hm1 : m < 16 := by omega
      have hm2 : (m : Int) < 16 := by omega
      have hm3 : IntKind.i32.wrap ((m : Int) + 1) = (m : Int) + 1 := IntWalk.i32_in _ (by omega)
      have hm4 : (m : Int) + 1 ≤ 16 := by omega
      have hm5 : (0 : Int) ≤ (m : Int) := by omega
      rw [← hm] at hh
      have HM := Lib.hid hm; clear hm
      obtain ⟨T, hT⟩ : ∃ T, T = (⟨(hexD (c / 16)).toArray⟩ : ByteArray) := ⟨_, rfl⟩
      rw [← hT] at hl
      have HT := Lib.hid hT; clear hT
      go_enter Tryz.func16, Tryz.ntmps16
      go_wp2_with fail
      go_region_with (go_at_call 16; (first | rw [HQ.out] | rw [HQ2.out]); refine (HI.out (c / 16) (by omega) _ (by omega)).mono ?_; rintro e w9 ⟨rfl, hB⟩; rw [← HT.out])
      all_goals
        go_wp2_with fail
        go_ret
        refine ⟨congrArg (fun z => Ending.returned (Value.string z)) (?_ : T ++ _ = _), (below_drewN (Below.refl _ w) 1).trans hB⟩
        rw [hh, hexC_cut ⟨m, hm1⟩, HT.out]
        exact ba_eq (by simp)

def signB (c : Int) : Bool := (33 ≤ c ∧ c ≤ 47) ∨ (58 ≤ c ∧ c ≤ 64) ∨ (91 ≤ c ∧ c ≤ 96) ∨ (123 ≤ c ∧ c ≤ 126)
theorem ref06_Sign (c : Int) (w : World) : Calls Tryz.prog 17 #[.int .i32 c] w fun e w' => e = .returned (.bool (signB c)) ∧ w' = w := by
  go_enter Tryz.func17, Tryz.ntmps17
  go_wp2_with fail
  all_goals
    go_ret
    refine ⟨congrArg (fun z => Ending.returned (Value.bool z)) (?_ : _ = signB c), rfl⟩
    first
      | (refine Bool.eq_iff_iff.2 ?_
         simp only [signB, decide_eq_true_eq, Bool.or_eq_true, reduceCtorEq, true_iff, false_iff]
         omega)
      | (refine Bool.eq_iff_iff.2 ?_
         simp only [signB, decide_eq_true_eq, Bool.or_eq_true, reduceCtorEq]
         omega)

end Go.Proofs.YtjmgboegipeijaaGreatDoor
