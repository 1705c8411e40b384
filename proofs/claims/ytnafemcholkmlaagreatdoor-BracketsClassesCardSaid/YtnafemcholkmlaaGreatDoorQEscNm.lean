/- The name behind a backslash and p: scan.esc.name. The document's name behind a backslash and p: martelloref06.property. -/
import Derived.Test.YtnafemcholkmlaaGreatDoorQEscTwo
import Derived.BigQuiet
import Derived.Deep.QuietTactic
import Derived.Test.YtnafemcholkmlaaGreatDoorQRefNum2
import Derived.Test.YtnafemcholkmlaaGreatDoorQNext
namespace Go.Proofs.YtnafemcholkmlaaGreatDoor
open Go Go.RowKit Go.Proofs

set_option maxHeartbeats 1000000 in
theorem esc_name_yes (b : Nat) (s : ByteArray) (p k : Nat) (rest : List Value) (t : TypeId) (w : World) (h : Rd w b s p rest t) (hp : p ≤ s.size) (hs : s.size ≤ 140737488355328) (c1 : stands s p [123] = true) (hk : Lib.indexByte (s.data.toList.drop (p + 1)) 125 = k) :
    Calls Tryz.prog 79 #[.pointer (some ⟨b, 0, none⟩)] w fun e w' => e = .returned (.tuple #[.string (s.extract (p + 1) (p + 1 + k)), .bool true]) ∧ Rd w' b s (p + 1 + k + 1) rest t ∧ w.grownBy w' (some b) := by
  have hs' : s.size ≤ 1000000000000000 := by omega
  have HR := Lib.hid h; clear h
  have l1 := Lib.hid (stands_le (p := ⟨#[123]⟩) hp c1)
  go_enter Tryz.func79, Tryz.ntmps79
  go_wp2_with fail
  refine (scan_has_yes _ s ⟨#[123]⟩ p _ _ _ HR.out hp hs' c1).mono ?_
  rintro e w1 ⟨rfl, hR, hG⟩
  have R1 := Lib.hid hR; have G1 := Lib.hid hG; clear hR hG
  go_wp2_with fail
  refine (scan_until_yes _ s 125 (p + 1) k _ _ _ R1.out l1.out hs' conv125 hk).mono ?_
  rintro e w2 ⟨rfl, hR, hG⟩
  have R2 := Lib.hid hR; have G2 := Lib.hid (grownBy_trans G1.out hG); clear hR hG
  go_wp2_with fail
  go_ret2
  exact ⟨rfl, R2.out, G2.out⟩

set_option maxHeartbeats 1000000 in
theorem esc_name_no (b : Nat) (s : ByteArray) (p : Nat) (rest : List Value) (t : TypeId) (w : World) (h : Rd w b s p rest t) (hp : p ≤ s.size) (hs : s.size ≤ 140737488355328) (c1 : stands s p [123] = true) (hk : Lib.indexByte (s.data.toList.drop (p + 1)) 125 = -1) :
    Calls Tryz.prog 79 #[.pointer (some ⟨b, 0, none⟩)] w fun e w' => e = .returned (.tuple #[.string (tail s (p + 1)), .bool false]) ∧ Rd w' b s (p + 1) rest t ∧ w.grownBy w' (some b) := by
  have hs' : s.size ≤ 1000000000000000 := by omega
  have HR := Lib.hid h; clear h
  have l1 := Lib.hid (stands_le (p := ⟨#[123]⟩) hp c1)
  go_enter Tryz.func79, Tryz.ntmps79
  go_wp2_with fail
  refine (scan_has_yes _ s ⟨#[123]⟩ p _ _ _ HR.out hp hs' c1).mono ?_
  rintro e w1 ⟨rfl, hR, hG⟩
  have R1 := Lib.hid hR; have G1 := Lib.hid hG; clear hR hG
  go_wp2_with fail
  refine (scan_until_no _ s 125 (p + 1) _ _ _ R1.out l1.out conv125 hk).mono ?_
  rintro e w2 ⟨rfl, hR, hG⟩
  have R2 := Lib.hid hR; have G2 := Lib.hid (grownBy_trans G1.out hG); clear hR hG
  go_wp2_with fail
  go_ret2
  exact ⟨rfl, R2.out, G2.out⟩

set_option maxHeartbeats 1000000 in
theorem esc_name_rune (b : Nat) (s : ByteArray) (p : Nat) (rest : List Value) (t : TypeId) (w : World) (h : Rd w b s p rest t) (hT : Tabs w) (hb : 1 ≠ b ∧ 2 ≠ b) (hp : p ≤ s.size) (hs : s.size ≤ 140737488355328) (c1 : stands s p [123] = false) :
    Calls Tryz.prog 79 #[.pointer (some ⟨b, 0, none⟩)] w fun e w' => e = .returned (.tuple #[.string (s.extract p (nextW s p)), .bool (decide (0 ≤ nextC s p))]) ∧ Rd w' b s (nextW s p) rest t ∧ w.grownBy w' (some b) := by
  have hs' : s.size ≤ 1000000000000000 := by omega
  have HR := Lib.hid h; clear h
  have HT := Lib.hid hT; clear hT
  have HW := Lib.hid (nextW_le s p hp)
  have HPW := Lib.hid (show p ≤ nextW s p by unfold nextW; split <;> omega)
  obtain ⟨q, hq⟩ : ∃ q, nextW s p = q := ⟨_, rfl⟩
  obtain ⟨c, hc⟩ : ∃ c, nextC s p = c := ⟨_, rfl⟩
  have HN := Lib.hid (show ∀ W, Rd W b s p rest t → Tabs W → Calls Tryz.prog 76 #[.pointer (some ⟨b, 0, none⟩)] W fun e w' => e = .returned (.int .i32 c) ∧ Rd w' b s q rest t ∧ W.grownBy w' (some b) from fun W hW hT => by rw [← hq, ← hc]; exact scan_next b s p rest t W hW hT hp hs')
  rw [hq] at HW HPW ⊢
  rw [hc]
  clear hq hc
  go_enter Tryz.func79, Tryz.ntmps79
  go_wp2_with fail
  refine (scan_has_no _ s ⟨#[123]⟩ p _ _ _ HR.out hp c1).mono ?_
  rintro e w1 ⟨rfl, hR, hG⟩
  have g1 := hR.c1
  have R1 := Lib.hid hR; have G1 := Lib.hid hG; clear hR hG
  go_wp2_with fail
  refine (HN.out w1 R1.out (HT.out.grown G1.out hb.1 hb.2)).mono ?_
  rintro e w2 ⟨rfl, hR, hG⟩
  clear g1
  have g0 := hR.c0; have g1 := hR.c1
  have R2 := Lib.hid hR; have G2 := Lib.hid (grownBy_trans G1.out hG); clear hR hG
  have hq1 : (p : Int) ≤ (q : Int) := by have := HPW.out; omega
  have hq2 : (q : Int) ≤ (s.size : Int) := by have := HW.out; omega
  go_wp2_with fail
  go_quiet (fail)
  go_wp2_with fail
  go_ret2
  exact ⟨by simp, Blk.drewN R2.out nq, grownBy_trans G2.out (grownBy_below (below_drewN (Below.refl _ _) nq) _)⟩
end Go.Proofs.YtnafemcholkmlaaGreatDoor

namespace Go.Proofs.YtnafemcholkmlaaGreatDoor
open Go Go.RowKit Go.Proofs

theorem pidx_at {l : List UInt8} {c : UInt8} {p k : Nat} (hpk : p ≤ k) (hn : ∀ j, p ≤ j → j < k → l[j]? ≠ some c) (hk : l[k]? = some c) : Lib.indexByte (l.drop p) c = ((k - p : Nat) : Int) := by
  have hge := Lib.indexByte_ge (l.drop p) c
  by_cases h : Lib.indexByte (l.drop p) c = -1
  · exact absurd (by rw [List.getElem?_drop, show p + (k - p) = k by omega]; exact hk) (Lib.indexByte_none h (k - p))
  · obtain ⟨o, ho⟩ : ∃ o : Nat, Lib.indexByte (l.drop p) c = o := ⟨(Lib.indexByte (l.drop p) c).toNat, by omega⟩
    obtain ⟨h1, h2⟩ := Lib.indexByte_some ho
    rw [List.getElem?_drop] at h1
    have a1 : k ≤ p + o := Nat.le_of_not_lt fun hlt => hn (p + o) (by omega) hlt h1
    have a2 : p + o ≤ k := Nat.le_of_not_lt fun hlt => h2 (k - p) (by omega) (by rw [List.getElem?_drop, show p + (k - p) = k by omega]; exact hk)
    rw [ho]; omega
theorem pidx_no {l : List UInt8} {c : UInt8} {p : Nat} (hn : ∀ j, p ≤ j → j < l.length → l[j]? ≠ some c) : Lib.indexByte (l.drop p) c = -1 := by
  have hge := Lib.indexByte_ge (l.drop p) c
  by_cases h : Lib.indexByte (l.drop p) c = -1
  · exact h
  · obtain ⟨o, ho⟩ : ∃ o : Nat, Lib.indexByte (l.drop p) c = o := ⟨(Lib.indexByte (l.drop p) c).toNat, by omega⟩
    obtain ⟨h1, _⟩ := Lib.indexByte_some ho
    rw [List.getElem?_drop] at h1
    exact absurd h1 (hn (p + o) (by omega) (by have := (List.getElem?_eq_some_iff.1 h1).1; omega))

/-- The name behind a backslash and p, and the place behind it; or none. -/
def propP (s : ByteArray) (q : Nat) : Option (ByteArray × Nat) :=
  if stands s q [123] = true then
    (if 0 ≤ Lib.indexByte (s.data.toList.drop (q + 1)) 125 then some (s.extract (q + 1) (q + 1 + (Lib.indexByte (s.data.toList.drop (q + 1)) 125).toNat), q + 1 + (Lib.indexByte (s.data.toList.drop (q + 1)) 125).toNat + 1) else none)
  else if q < s.size then some (s.extract q (nextW s q), nextW s q) else none
def propV : Option (ByteArray × Nat) → Value
  | some (n, q) => .tuple #[.string n, .int .i64 q, .bool true]
  | none => .tuple #[.string ⟨#[]⟩, .int .i64 0, .bool false]

theorem propP_at (s : ByteArray) (p k : Nat) (h1 : stands s p [123] = true) (hpk : p + 1 ≤ k) (hn : ∀ j, p + 1 ≤ j → j < k → s.data.toList[j]? ≠ some 125) (hk : s.data.toList[k]? = some 125) : propP s p = some (s.extract (p + 1) k, k + 1) := by
  unfold propP
  rw [if_pos h1, pidx_at hpk hn hk, if_pos (by omega), show p + 1 + ((k - (p + 1) : Nat) : Int).toNat = k by omega]
theorem propP_no (s : ByteArray) (p : Nat) (h1 : stands s p [123] = true) (hn : ∀ j, p + 1 ≤ j → j < s.size → s.data.toList[j]? ≠ some 125) : propP s p = none := by
  unfold propP
  rw [if_pos h1, pidx_no (fun j h h' => hn j h (by simpa using h')), if_neg (by omega)]

set_option maxHeartbeats 4000000 in
theorem ref06_property (s : ByteArray) (p : Nat) (w : World) (hT : Tabs w) (hp : p ≤ s.size) (hs : s.size ≤ 140737488355328) :
    Calls Tryz.prog 95 #[.string s, .int .i64 p] w fun e w' => e = .returned (propV (propP s p)) ∧ Below w.heap.size w w' := by
  by_cases h0 : p < s.size
  · have h0' : (p : Int) < (s.size : Int) := by omega
    have hd0 : decide (s.size ≤ p) = false := by simp; omega
    have hd1 : decide ((s.size : Int) ≤ (p : Int)) = false := by simp; omega
    by_cases hc : s[p].toNat = 123
    · have hcb : ((s[p].toNat : Int) != 123) = false := by rw [hc]; rfl
      have HST := Lib.hid (show stands s p [123] = true from (stands_one s p 123).2 ⟨h0, UInt8.toNat_inj.1 hc⟩)
      clear hc
      go_enter Tryz.func95, Tryz.ntmps95
      go_wp2_with fail
      go_loopw [9] (fun iv wr => ∃ i : Nat, p + 1 ≤ i ∧ i ≤ s.size ∧ iv = .int .i64 i ∧ (∀ j, p + 1 ≤ j → j < i → s.data.toList[j]? ≠ some 125) ∧ wr = w) (fun iv _ => s.size - (intOf iv).toNat)
      case atStart => exact ⟨p + 1, Nat.le_refl _, by omega, by go_num, fun j a b => by omega, rfl⟩
      case round =>
        obtain ⟨i, hi0, hi1, rfl, hn, rfl⟩ := hrel
        have HN := Lib.hid hn; clear hn
        by_cases hlt : i < s.size
        · have hlt' : (i : Int) < (s.size : Int) := by omega
          have hg := getElem_toList s i hlt
          by_cases hx : s[i].toNat = 125
          · have HF := Lib.hid (propP_at s p i HST.out hi0 HN.out (by rw [hg]; exact congrArg some (UInt8.toNat_inj.1 hx)))
            have hxb : ((s[i].toNat : Int) == 125) = true := by rw [hx]; rfl
            have hle1 : (p : Int) + 1 ≤ (i : Int) := by omega
            clear hx hg
            go_wp2_with fail
            go_ret3
            exact ⟨by rw [HF.out]; simp [propV], Below.refl _ _⟩
          · have hxb : ((s[i].toNat : Int) == 125) = false := by simp; omega
            have HNW := Lib.hid (show ∀ j, p + 1 ≤ j → j < i + 1 → s.data.toList[j]? ≠ some 125 from fun j a b => by
              rcases Nat.lt_or_ge j i with h | h
              · exact HN.out j a h
              · obtain rfl : j = i := by omega
                rw [hg]
                intro e
                exact hx (by rw [Option.some.inj e]; rfl))
            clear hx hg
            go_wp2_with fail
            go_roundw
            case rel => exact ⟨i + 1, by omega, by omega, by go_num, HNW.out, trivial⟩
            case measure => simp [intOf]; omega
        · obtain rfl : i = s.size := by omega
          have HF := Lib.hid (propP_no s p HST.out HN.out)
          go_wp2_with fail
          go_ret3
          exact ⟨by rw [HF.out]; rfl, Below.refl _ _⟩
    · have hcb : ((s[p].toNat : Int) != 123) = true := by simp; omega
      have HF := Lib.hid (show propP s p = some (s.extract p (nextW s p), nextW s p) by
        unfold propP
        rw [if_neg (fun h => hc (by obtain ⟨_, h2⟩ := (stands_one s p 123).1 h; rw [h2]; rfl)), if_pos h0])
      clear hc
      have HT := Lib.hid hT; clear hT
      have HNW := Lib.hid (show nextW s p = p + (Lib.decodeGo (tail s p)).2 by unfold nextW; rw [if_pos h0, decodeGo_tail s p h0])
      have hle := Lib.decodeGo_le_size (tail s p)
      rw [tail_size] at hle
      go_enter Tryz.func95, Tryz.ntmps95
      go_wp2_with fail
      refine (Tryz.utf8_DecodeRuneInString (tail s p) _ HT.out).mono ?_
      rintro e w1 ⟨rfl, hB1⟩
      have HB := Lib.hid hB1; clear hB1
      rw [HNW.out] at HF
      generalize Lib.decodeGo (tail s p) = D at hle HF ⊢
      obtain ⟨d1, d2⟩ := D
      simp only at hle HF
      clear HNW
      have hle2 : (p : Int) + (d2 : Int) ≤ (s.size : Int) := by omega
      have hle3 : (p : Int) ≤ (p : Int) + (d2 : Int) := by omega
      go_wp2_with fail
      go_ret3
      exact ⟨by rw [HF.out]; simp [propV], HB.out⟩
  · have HF := Lib.hid (show propP s p = none by unfold propP; rw [if_neg (stands_one_no s p 123 (by omega)), if_neg h0])
    have h0' : (s.size : Int) ≤ (p : Int) := by omega
    go_enter Tryz.func95, Tryz.ntmps95
    go_wp2_with fail
    go_ret3
    exact ⟨by rw [HF.out]; rfl, Below.refl _ _⟩
end Go.Proofs.YtnafemcholkmlaaGreatDoor
