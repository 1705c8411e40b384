/- The document's name behind a backslash and p: martelloref06.property. -/
import Derived.Test.YtjmgboegipeijaaGreatDoorRefNum2
import Derived.Test.YtjmgboegipeijaaGreatDoorNext
import Derived.Test.YtjmgboegipeijaaGreatDoorEscNm
namespace Go.Proofs.YtjmgboegipeijaaGreatDoor
open Go Go.RowKit Go.Proofs

theorem pidx_at {l : List UInt8} {c : UInt8} {p k : Nat} (hpk : p ≤ k) (hn : ∀ j, p ≤ j → j < k → l[j]? ≠ some c) (hk : l[k]? = some c) : Lib.indexByte (l.drop p) c = ((k - p : Nat) : Int) := by
  have hge := Lib.indexByte_ge (l.drop p) c
  by_cases h : Lib.indexByte (l.drop p) c = -1
  · exact absurd (by rw [List.getElem?_drop, show p + (k - p) = k by omega]; exact hk) (Lib.indexByte_none h (k - p))
  · obtain ⟨o, ho⟩ : ∃ o : Nat, Lib.indexByte (l.drop p) c = o := ⟨(Lib.indexByte (l.drop p) c).toNat, by omega⟩
    obtain ⟨h1, h2⟩ := Lib.indexByte_some ho
    rw [List.getElem?_drop] at h1
    have a1 : k ≤ p + o := Nat.le_of_not_lt fun hlt => hn (p + o) (by omega) hlt h1
    have a2 : p + o ≤ k := Nat.le_of_not_lt fun hlt => h2 (k - p) (by omega) (by rw [List.getElem?_drop, show p + (k - p) = k by omega]; exact hk)
    rw [ho]; omega
theorem pidx_no {l : List UInt8} {c : UInt8} {p : Nat} (hn : ∀ j, p ≤ j → j < l.length → l[j]? ≠ some c) : Lib.indexByte (l.drop p) c = -1 := by
  have hge := Lib.indexByte_ge (l.drop p) c
  by_cases h : Lib.indexByte (l.drop p) c = -1
  · exact h
  · obtain ⟨o, ho⟩ : ∃ o : Nat, Lib.indexByte (l.drop p) c = o := ⟨(Lib.indexByte (l.drop p) c).toNat, by omega⟩
    obtain ⟨h1, _⟩ := Lib.indexByte_some ho
    rw [List.getElem?_drop] at h1
    exact absurd h1 (hn (p + o) (by omega) (by have := (List.getElem?_eq_some_iff.1 h1).1; omega))

/-- The name behind a backslash and p, and the place behind it; or none. -/
def propP (s : ByteArray) (q : Nat) : Option (ByteArray × Nat) :=
  if stands s q [123] = true then
    (if 0 ≤ Lib.indexByte (s.data.toList.drop (q + 1)) 125 then some (s.extract (q + 1) (q + 1 + (Lib.indexByte (s.data.toList.drop (q + 1)) 125).toNat), q + 1 + (Lib.indexByte (s.data.toList.drop (q + 1)) 125).toNat + 1) else none)
  else if q < s.size then some (s.extract q (nextW s q), nextW s q) else none
def propV : Option (ByteArray × Nat) → Value
  | some (n, q) => .tuple #[.string n, .int .i64 q, .bool true]
  | none => .tuple #[.string ⟨#[]⟩, .int .i64 0, .bool false]

theorem propP_at (s : ByteArray) (p k : Nat) (h1 : stands s p [123] = true) (hpk : p + 1 ≤ k) (hn : ∀ j, p + 1 ≤ j → j < k → s.data.toList[j]? ≠ some 125) (hk : s.data.toList[k]? = some 125) : propP s p = some (s.extract (p + 1) k, k + 1) := by
  unfold propP
  rw [if_pos h1, pidx_at hpk hn hk, if_pos (by omega), show p + 1 + ((k - (p + 1) : Nat) : Int).toNat = k by omega]
theorem propP_no (s : ByteArray) (p : Nat) (h1 : stands s p [123] = true) (hn : ∀ j, p + 1 ≤ j → j < s.size → s.data.toList[j]? ≠ some 125) : propP s p = none := by
  unfold propP
  rw [if_pos h1, pidx_no (fun j h h' => hn j h (by simpa using h')), if_neg (by omega)]

set_option maxHeartbeats 4000000 in
theorem ref06_property (s : ByteArray) (p : Nat) (w : World) (hT : Tabs w) (hp : p ≤ s.size) (hs : s.size ≤ 140737488355328) :
    Calls Tryz.prog 34 #[.string s, .int .i64 p] w fun e w' => e = .returned (propV (propP s p)) ∧ Below w.heap.size w w' := by
  by_cases h0 : p < s.size
  · have h0' : (p : Int) < (s.size : Int) := by omega
    have hd0 : decide (s.size ≤ p) = false := by simp; omega
    have hd1 : decide ((s.size : Int) ≤ (p : Int)) = false := by simp; omega
    by_cases hc : s[p].toNat = 123
    · have hcb : ((s[p].toNat : Int) != 123) = false := by rw [hc]; rfl
      have HST := Lib.hid (show stands s p [123] = true from (stands_one s p 123).2 ⟨h0, UInt8.toNat_inj.1 hc⟩)
      clear hc
      go_enter Tryz.func34, Tryz.ntmps34
      go_wp2_with fail
      go_loopw [9] (fun iv wr => ∃ i : Nat, p + 1 ≤ i ∧ i ≤ s.size ∧ iv = .int .i64 i ∧ (∀ j, p + 1 ≤ j → j < i → s.data.toList[j]? ≠ some 125) ∧ wr = w) (fun iv _ => s.size - (intOf iv).toNat)
      case atStart => exact ⟨p + 1, Nat.le_refl _, by omega, by go_num, fun j a b => by omega, rfl⟩
      case round =>
        obtain ⟨i, hi0, hi1, rfl, hn, rfl⟩ := hrel
        have HN := Lib.hid hn; clear hn
        by_cases hlt : i < s.size
        · have hlt' : (i : Int) < (s.size : Int) := by omega
          have hg := getElem_toList s i hlt
          by_cases hx : s[i].toNat = 125
          · have HF := Lib.hid (propP_at s p i HST.out hi0 HN.out (by rw [hg]; exact congrArg some (UInt8.toNat_inj.1 hx)))
            have hxb : ((s[i].toNat : Int) == 125) = true := by rw [hx]; rfl
            have hle1 : (p : Int) + 1 ≤ (i : Int) := by omega
            clear hx hg
            go_wp2_with fail
            go_ret3
            exact ⟨by rw [HF.out]; simp [propV], Below.refl _ _⟩
          · have hxb : ((s[i].toNat : Int) == 125) = false := by simp; omega
            have HNW := Lib.hid (show ∀ j, p + 1 ≤ j → j < i + 1 → s.data.toList[j]? ≠ some 125 from fun j a b => by
              rcases Nat.lt_or_ge j i with h | h
              · exact HN.out j a h
              · obtain rfl : j = i := by omega
                rw [hg]
                intro e
                exact hx (by rw [Option.some.inj e]; rfl))
            clear hx hg
            go_wp2_with fail
            go_roundw
            case rel => exact ⟨i + 1, by omega, by omega, by go_num, HNW.out, trivial⟩
            case measure => simp [intOf]; omega
        · obtain rfl : i = s.size := by omega
          have HF := Lib.hid (propP_no s p HST.out HN.out)
          go_wp2_with fail
          go_ret3
          exact ⟨by rw [HF.out]; rfl, Below.refl _ _⟩
    · have hcb : ((s[p].toNat : Int) != 123) = true := by simp; omega
      have HF := Lib.hid (show propP s p = some (s.extract p (nextW s p), nextW s p) by
        unfold propP
        rw [if_neg (fun h => hc (by obtain ⟨_, h2⟩ := (stands_one s p 123).1 h; rw [h2]; rfl)), if_pos h0])
      clear hc
      have HT := Lib.hid hT; clear hT
      have HNW := Lib.hid (show nextW s p = p + (Lib.decodeGo (tail s p)).2 by unfold nextW; rw [if_pos h0, decodeGo_tail s p h0])
      have hle := Lib.decodeGo_le_size (tail s p)
      rw [tail_size] at hle
      go_enter Tryz.func34, Tryz.ntmps34
      go_wp2_with fail
      refine (Tryz.utf8_DecodeRuneInString (tail s p) _ HT.out).mono ?_
      rintro e w1 ⟨rfl, hB1⟩
      have HB := Lib.hid hB1; clear hB1
      rw [HNW.out] at HF
      generalize Lib.decodeGo (tail s p) = D at hle HF ⊢
      obtain ⟨d1, d2⟩ := D
      simp only at hle HF
      clear HNW
      have hle2 : (p : Int) + (d2 : Int) ≤ (s.size : Int) := by omega
      have hle3 : (p : Int) ≤ (p : Int) + (d2 : Int) := by omega
      go_wp2_with fail
      go_ret3
      exact ⟨by rw [HF.out]; simp [propV], HB.out⟩
  · have HF := Lib.hid (show propP s p = none by unfold propP; rw [if_neg (stands_one_no s p 123 (by omega)), if_neg h0])
    have h0' : (s.size : Int) ≤ (p : Int) := by omega
    go_enter Tryz.func34, Tryz.ntmps34
    go_wp2_with fail
    go_ret3
    exact ⟨by rw [HF.out]; rfl, Below.refl _ _⟩
end Go.Proofs.YtjmgboegipeijaaGreatDoor
