/- A group's name: trees.name. -/
import Derived.Test.YtihbmgpjihgodaaGreatDoorQBlk
import Derived.Test.YtihbmgpjihgodaaGreatDoorProg
import Derived.WalkKit
import Derived.Lib.Hide
import Derived.WalkSpells
import Derived.WalkLawsBesides
import Derived.LoopTactic
namespace Go.Proofs.YtihbmgpjihgodaaGreatDoor
open Go Go.RowKit Go.Proofs

/-- A byte of a word. -/
def wordB (c : UInt8) : Bool := (decide (97 ≤ c.toNat) && decide (c.toNat ≤ 122)) || (decide (65 ≤ c.toNat) && decide (c.toNat ≤ 90)) || (decide (48 ≤ c.toNat) && decide (c.toNat ≤ 57)) || decide (c.toNat = 95)
def digB (c : UInt8) : Bool := decide (48 ≤ c.toNat) && decide (c.toNat ≤ 57)
/-- A name. -/
def nameB (s : ByteArray) : Bool := decide (0 < s.size) && decide (s.size ≤ 32) && !digB (s.data.toList.getD 0 0) && s.data.toList.all wordB

theorem size_zero {s : ByteArray} (h : s.size = 0) : s = ⟨#[]⟩ := by
  have e : s.data.toList = [] := List.eq_nil_of_length_eq_zero (by simpa using h)
  cases s with | mk d => rw [ByteArray.mk.injEq]; exact Array.toList_inj.1 e
theorem list_ne {s : ByteArray} (h : ¬ s.size = 0) : s.toList.isEmpty = false := by
  rw [ByteArray.toList_eq]
  have : s.data.toList.length ≠ 0 := by simpa using h
  cases hl : s.data.toList with
  | nil => rw [hl] at this; exact absurd rfl this
  | cons => rfl
theorem all_take_no {l : List UInt8} {f : UInt8 → Bool} {k : Nat} (hk : k < l.length) (h : f l[k] = false) : l.all f = false := by
  rw [List.all_eq_false]; exact ⟨l[k], List.getElem_mem hk, by simp [h]⟩

set_option maxRecDepth 100000 in
set_option maxHeartbeats 1000000 in
theorem trees_name_loop (s : ByteArray) (L : List UInt8) (hL : s.data.toList = L) (c : UInt8) (hp : 0 < s.size) (hz : s.size ≤ 32) (hc : s[0]'hp = c) (hd : ¬ (48 ≤ c.toNat ∧ c.toNat ≤ 57)) (w : World) :
    Calls Tryz.prog 38 #[.string s] w fun e w' => e = .returned (.bool (L.all wordB)) ∧ Below w.heap.size w w' := by
  have hl0 := list_ne (s := s) (by omega)
  have h32' : ¬ (32 : Int) < (s.size : Int) := by omega
  obtain ⟨cap, w2, hrun, hcell, hbl2, hs2⟩ := conv_bytes (P := Tryz.prog) w 9 56 5 s Tryz.underlying9 Tryz.underlying56 Tryz.underlying5
  rw [hL] at hcell
  have HCell := Lib.hid hcell; clear hcell
  have HB2 := Lib.hid hbl2; clear hbl2
  have HS2 := Lib.hid hs2; clear hs2
  have hlen : L.length = s.size := by rw [← hL]; simp
  clear hL
  have HLn := Lib.hid hlen; clear hlen
  by_cases hd1 : c.toNat < 48
  · clear hd
    go_enter Tryz.func38, Tryz.ntmps38
    go_wp2_with fail
    clear hrun
    go_loop [25] (fun i => ∃ k : Nat, k ≤ L.length ∧ i = .int .i64 k ∧ (L.take k).all wordB = true) (fun i => L.length - (intOf i).toNat)
    case atStart => exact ⟨0, Nat.zero_le _, rfl, rfl⟩
    case round =>
      obtain ⟨k, hk, rfl, hall⟩ := hrel
      have hkz : k ≤ s.size := by rw [← HLn.out]; exact hk
      have HA := Lib.hid hall; clear hall hk
      by_cases hlt : k < s.size
      · have hlt2 : k < L.length := by rw [HLn.out]; exact hlt
        obtain ⟨x, hx⟩ : ∃ x, x = L[k] := ⟨_, rfl⟩
        have hcell : w2.cell? ⟨w.heap.size, k, none⟩ = some (.int .u8 x.toNat) := by
          have h := HCell.out k hlt
          rw [List.getD_eq_getElem?_getD, List.getElem?_eq_getElem hlt2] at h
          rw [hx]; exact h
        have hnext : wordB x = true → (L.take (k + 1)).all wordB = true := fun h => by
          rw [List.take_succ_eq_append_getElem hlt2, List.all_append, HA.out, ← hx]; simp [h]
        have hstop : wordB x = false → L.all wordB = false := fun h => all_take_no hlt2 (by rw [← hx]; exact h)
        have HN := Lib.hid hnext; have HS := Lib.hid hstop; have HL2 := Lib.hid hlt2
        clear hnext hstop hx hlt2
        by_cases ha : 97 ≤ x.toNat ∧ x.toNat ≤ 122
        · have hw : wordB x = true := by unfold wordB; simp [ha.1, ha.2]
          have HW := Lib.hid hw; clear hw
          obtain ⟨ha1, ha2⟩ := ha
          go_wp2_with fail
          go_round
          case rel => exact ⟨k + 1, HL2.out, by go_num, HN.out HW.out⟩
          case measure => have := HL2.out; simp [intOf]; omega
        · by_cases hb : 65 ≤ x.toNat ∧ x.toNat ≤ 90
          · have hw : wordB x = true := by unfold wordB; simp [hb.1, hb.2]
            have HW := Lib.hid hw; clear hw
            obtain ⟨hb1, hb2⟩ := hb
            have ha1 : ¬ 97 ≤ x.toNat := by omega
            clear ha
            go_wp2_with fail
            go_round
            case rel => exact ⟨k + 1, HL2.out, by go_num, HN.out HW.out⟩
            case measure => have := HL2.out; simp [intOf]; omega
          · by_cases hg : 48 ≤ x.toNat ∧ x.toNat ≤ 57
            · have hw : wordB x = true := by unfold wordB; simp [hg.1, hg.2]
              have HW := Lib.hid hw; clear hw
              obtain ⟨hg1, hg2⟩ := hg
              have ha1 : ¬ 97 ≤ x.toNat := by omega
              have hb1 : ¬ 65 ≤ x.toNat := by omega
              clear ha hb
              go_wp2_with fail
              go_round
              case rel => exact ⟨k + 1, HL2.out, by go_num, HN.out HW.out⟩
              case measure => have := HL2.out; simp [intOf]; omega
            · by_cases hu : x.toNat = 95
              · have hw : wordB x = true := by unfold wordB; simp [hu]
                have HW := Lib.hid hw; clear hw
                clear ha hb hg
                go_wp2_with fail
                go_round
                case rel => exact ⟨k + 1, HL2.out, by go_num, HN.out HW.out⟩
                case measure => have := HL2.out; simp [intOf]; omega
              · have hw : wordB x = false := by unfold wordB; simp only [Bool.or_eq_false_iff, Bool.and_eq_false_iff, decide_eq_false_iff_not]; omega
                have HW := Lib.hid (HS.out hw); clear hw
                have fa : (if (97 : Int) ≤ (x.toNat : Int) then decide ((x.toNat : Int) ≤ 122) else false) = false := by split <;> simp <;> omega
                by_cases q1 : 97 ≤ x.toNat
                · have q2 : ¬ x.toNat ≤ 122 := by omega
                  have q3 : 65 ≤ x.toNat := by omega
                  have q4 : ¬ x.toNat ≤ 90 := by omega
                  have q5 : 48 ≤ x.toNat := by omega
                  have q6 : ¬ x.toNat ≤ 57 := by omega
                  clear ha hb hg fa
                  go_wp2_with fail
                  go_ret
                  exact ⟨by rw [HW.out]; rfl, HB2.out⟩
                · by_cases q3 : 65 ≤ x.toNat
                  · have q4 : ¬ x.toNat ≤ 90 := by omega
                    have q5 : 48 ≤ x.toNat := by omega
                    have q6 : ¬ x.toNat ≤ 57 := by omega
                    clear ha hb hg fa
                    go_wp2_with fail
                    go_ret
                    exact ⟨by rw [HW.out]; rfl, HB2.out⟩
                  · by_cases q5 : 48 ≤ x.toNat
                    · have q6 : ¬ x.toNat ≤ 57 := by omega
                      clear ha hb hg fa
                      go_wp2_with fail
                      go_ret
                      exact ⟨by rw [HW.out]; rfl, HB2.out⟩
                    · clear ha hb hg fa
                      go_wp2_with fail
                      go_ret
                      exact ⟨by rw [HW.out]; rfl, HB2.out⟩
      · have hke : k = L.length := by rw [HLn.out]; omega
        have HQ := Lib.hid (show L.all wordB = true by have := HA.out; rwa [hke, List.take_length] at this)
        clear hke
        go_wp2_with fail
        go_ret
        exact ⟨by rw [HQ.out]; rfl, HB2.out⟩
  · have hd2 : 57 < c.toNat := by omega
    clear hd
    go_enter Tryz.func38, Tryz.ntmps38
    go_wp2_with fail
    clear hrun
    go_loop [25] (fun i => ∃ k : Nat, k ≤ L.length ∧ i = .int .i64 k ∧ (L.take k).all wordB = true) (fun i => L.length - (intOf i).toNat)
    case atStart => exact ⟨0, Nat.zero_le _, rfl, rfl⟩
    case round =>
      obtain ⟨k, hk, rfl, hall⟩ := hrel
      have hkz : k ≤ s.size := by rw [← HLn.out]; exact hk
      have HA := Lib.hid hall; clear hall hk
      by_cases hlt : k < s.size
      · have hlt2 : k < L.length := by rw [HLn.out]; exact hlt
        obtain ⟨x, hx⟩ : ∃ x, x = L[k] := ⟨_, rfl⟩
        have hcell : w2.cell? ⟨w.heap.size, k, none⟩ = some (.int .u8 x.toNat) := by
          have h := HCell.out k hlt
          rw [List.getD_eq_getElem?_getD, List.getElem?_eq_getElem hlt2] at h
          rw [hx]; exact h
        have hnext : wordB x = true → (L.take (k + 1)).all wordB = true := fun h => by
          rw [List.take_succ_eq_append_getElem hlt2, List.all_append, HA.out, ← hx]; simp [h]
        have hstop : wordB x = false → L.all wordB = false := fun h => all_take_no hlt2 (by rw [← hx]; exact h)
        have HN := Lib.hid hnext; have HS := Lib.hid hstop; have HL2 := Lib.hid hlt2
        clear hnext hstop hx hlt2
        by_cases ha : 97 ≤ x.toNat ∧ x.toNat ≤ 122
        · have hw : wordB x = true := by unfold wordB; simp [ha.1, ha.2]
          have HW := Lib.hid hw; clear hw
          obtain ⟨ha1, ha2⟩ := ha
          go_wp2_with fail
          go_round
          case rel => exact ⟨k + 1, HL2.out, by go_num, HN.out HW.out⟩
          case measure => have := HL2.out; simp [intOf]; omega
        · by_cases hb : 65 ≤ x.toNat ∧ x.toNat ≤ 90
          · have hw : wordB x = true := by unfold wordB; simp [hb.1, hb.2]
            have HW := Lib.hid hw; clear hw
            obtain ⟨hb1, hb2⟩ := hb
            have ha1 : ¬ 97 ≤ x.toNat := by omega
            clear ha
            go_wp2_with fail
            go_round
            case rel => exact ⟨k + 1, HL2.out, by go_num, HN.out HW.out⟩
            case measure => have := HL2.out; simp [intOf]; omega
          · by_cases hg : 48 ≤ x.toNat ∧ x.toNat ≤ 57
            · have hw : wordB x = true := by unfold wordB; simp [hg.1, hg.2]
              have HW := Lib.hid hw; clear hw
              obtain ⟨hg1, hg2⟩ := hg
              have ha1 : ¬ 97 ≤ x.toNat := by omega
              have hb1 : ¬ 65 ≤ x.toNat := by omega
              clear ha hb
              go_wp2_with fail
              go_round
              case rel => exact ⟨k + 1, HL2.out, by go_num, HN.out HW.out⟩
              case measure => have := HL2.out; simp [intOf]; omega
            · by_cases hu : x.toNat = 95
              · have hw : wordB x = true := by unfold wordB; simp [hu]
                have HW := Lib.hid hw; clear hw
                clear ha hb hg
                go_wp2_with fail
                go_round
                case rel => exact ⟨k + 1, HL2.out, by go_num, HN.out HW.out⟩
                case measure => have := HL2.out; simp [intOf]; omega
              · have hw : wordB x = false := by unfold wordB; simp only [Bool.or_eq_false_iff, Bool.and_eq_false_iff, decide_eq_false_iff_not]; omega
                have HW := Lib.hid (HS.out hw); clear hw
                have fa : (if (97 : Int) ≤ (x.toNat : Int) then decide ((x.toNat : Int) ≤ 122) else false) = false := by split <;> simp <;> omega
                by_cases q1 : 97 ≤ x.toNat
                · have q2 : ¬ x.toNat ≤ 122 := by omega
                  have q3 : 65 ≤ x.toNat := by omega
                  have q4 : ¬ x.toNat ≤ 90 := by omega
                  have q5 : 48 ≤ x.toNat := by omega
                  have q6 : ¬ x.toNat ≤ 57 := by omega
                  clear ha hb hg fa
                  go_wp2_with fail
                  go_ret
                  exact ⟨by rw [HW.out]; rfl, HB2.out⟩
                · by_cases q3 : 65 ≤ x.toNat
                  · have q4 : ¬ x.toNat ≤ 90 := by omega
                    have q5 : 48 ≤ x.toNat := by omega
                    have q6 : ¬ x.toNat ≤ 57 := by omega
                    clear ha hb hg fa
                    go_wp2_with fail
                    go_ret
                    exact ⟨by rw [HW.out]; rfl, HB2.out⟩
                  · by_cases q5 : 48 ≤ x.toNat
                    · have q6 : ¬ x.toNat ≤ 57 := by omega
                      clear ha hb hg fa
                      go_wp2_with fail
                      go_ret
                      exact ⟨by rw [HW.out]; rfl, HB2.out⟩
                    · clear ha hb hg fa
                      go_wp2_with fail
                      go_ret
                      exact ⟨by rw [HW.out]; rfl, HB2.out⟩
      · have hke : k = L.length := by rw [HLn.out]; omega
        have HQ := Lib.hid (show L.all wordB = true by have := HA.out; rwa [hke, List.take_length] at this)
        clear hke
        go_wp2_with fail
        go_ret
        exact ⟨by rw [HQ.out]; rfl, HB2.out⟩

set_option maxRecDepth 100000 in
set_option maxHeartbeats 1000000 in
theorem trees_name (s : ByteArray) (w : World) : Calls Tryz.prog 38 #[.string s] w fun e w' => e = .returned (.bool (nameB s)) ∧ Below w.heap.size w w' := by
  by_cases h0 : s.size = 0
  · obtain rfl := size_zero h0
    clear h0
    go_enter Tryz.func38, Tryz.ntmps38
    go_wp2_with fail
    go_ret
    exact ⟨rfl, Below.refl _ w⟩
  · have hl0 := list_ne h0
    by_cases h32 : 32 < s.size
    · have hF : nameB s = false := by unfold nameB; rw [decide_eq_false (show ¬ s.size ≤ 32 by omega)]; simp
      rw [hF]
      have h32' : (32 : Int) < (s.size : Int) := by omega
      go_enter Tryz.func38, Tryz.ntmps38
      go_wp2_with fail
      go_ret
      exact ⟨rfl, Below.refl _ w⟩
    · have hp : 0 < s.size := by omega
      have h32' : ¬ (32 : Int) < (s.size : Int) := by omega
      obtain ⟨c, hc⟩ : ∃ c, s[0]'hp = c := ⟨_, rfl⟩
      have hcd : s.data.toList.getD 0 0 = c := by rw [← hc, List.getD_eq_getElem?_getD, List.getElem?_eq_getElem (by simpa using hp)]; rfl
      have HC := Lib.hid hcd; clear hcd
      by_cases hd : 48 ≤ c.toNat ∧ c.toNat ≤ 57
      · have hF : nameB s = false := by unfold nameB; rw [HC.out]; unfold digB; simp [hd]
        rw [hF]
        obtain ⟨hd1, hd2⟩ := hd
        go_enter Tryz.func38, Tryz.ntmps38
        go_wp2_with fail
        go_ret
        exact ⟨rfl, Below.refl _ w⟩
      · have hF : nameB s = s.data.toList.all wordB := by
          unfold nameB; rw [HC.out]
          have : digB c = false := by unfold digB; simp; omega
          rw [this, decide_eq_true hp, decide_eq_true (show s.size ≤ 32 by omega)]; simp
        rw [hF]
        exact trees_name_loop s _ rfl c hp (by omega) hc hd w
end Go.Proofs.YtihbmgpjihgodaaGreatDoor
