/- brackets.Class, without FlagFold: its contract; the law's head. The document's Has: is a rune in one of a list's ranges? A rune that was encoded is decoded again. -/
import Derived.Test.YtnafemcholkmlaaGreatDoorQBrCls2
import Derived.Test.YtnafemcholkmlaaGreatDoorQSetsOps
import Derived.LoopTactic
import Derived.Test.YtnafemcholkmlaaGreatDoorQNext
import Derived.Lib.MapLaws
namespace Go.Proofs.YtnafemcholkmlaaGreatDoor
open Go Go.RowKit Go.Proofs Go.Shelf

theorem brackets_plain (s : ByteArray) (p : Nat) (f : Int) (w : World) (hp : p ≤ s.size) (hs : s.size ≤ 100000000) (hT : Tabs w) (perl : Bool) (hP : (bits BinOp.and IntKind.i64 f 32 != 0) = perl) (hf : (bits BinOp.and IntKind.i64 f 1 != 0) = false) :
    Calls Tryz.prog 8 #[.string s, .int .i64 p, .int .i64 f] w (ClsOut w (clsQ s p perl none)) := by
  by_cases hn : stands s p [91] = true
  · cases hi : itemP s (clsAt s p) perl p with
    | wrong x a b =>
      have e : clsQ s p perl none = .wrong x a b := by unfold clsQ clsP; rw [hn, hi]; rfl
      rw [e]
      exact cls_first s p f w hp hs hT perl hP hn x a b hi
    | ok f0 q0 => exact cls_items s p f w hp hs hT perl hP hf hn f0 q0 hi
  · have e : clsQ s p perl none = .wrong 1 p p := by unfold clsQ clsP; rw [if_pos hn]
    rw [e]
    exact cls_closed s p f w hp perl hP (Bool.eq_false_iff.2 hn)

theorem cls_told {s : ByteArray} {p : Nat} {perl : Bool} {g : Int → Bool} {q : Nat} {w w' : World} {e : Ending} (l : List (Int × Int)) (hl : setRight l = true) (hq : clsQ s p perl none = .ok g q) (hg : ∀ c, g c = memR l c) (hn : l.length ≤ 1000) (h : ClsOut w (clsQ s p perl none) e w') :
    ∃ sa sc, e = .returned (.tuple #[.slice sa l.length sc, .int .i64 q, .agg #[.int .i64 0, .int .i64 0, .int .i64 0]]) ∧ RangesV w' w'.heap.size l sa l.length sc ∧ Below w.heap.size w w' := by
  obtain ⟨hB, h⟩ := h
  rw [hq] at h
  obtain ⟨v, out, rfl, hL, hI⟩ := h
  have e : out = l := hI.unique ((IsSet.of_right hl).congr fun c _ _ => (hg c).symm)
  subst e
  obtain ⟨sa, sc, rfl, hr, _⟩ := hL.ranges (by omega)
  exact ⟨sa, sc, rfl, hr, hB⟩
theorem cls_refused {s : ByteArray} {p : Nat} {perl : Bool} {x a b : Int} {w w' : World} {e : Ending} (hq : clsQ s p perl none = .wrong x a b) (h : ClsOut w (clsQ s p perl none) e w') :
    e = .returned (.tuple #[.slice none 0 0, .int .i64 0, .agg #[.int .i64 x, .int .i64 a, .int .i64 b]]) ∧ Below w.heap.size w w' := by
  obtain ⟨hB, h⟩ := h
  rw [hq] at h
  exact ⟨h, hB⟩
/-- The two questions of the law's head. -/
theorem head07_one (w : World) (hT : Tabs w) : Calls Tryz.prog 8 #[.string ⟨#[91, 97, 45, 99, 120, 93]⟩, .int .i64 0, .int .i64 0] w fun e w' => ∃ sa sc, e = .returned (.tuple #[.slice sa 2 sc, .int .i64 6, .agg #[.int .i64 0, .int .i64 0, .int .i64 0]]) ∧ RangesV w' w'.heap.size [(97, 99), (120, 120)] sa 2 sc ∧ Below w.heap.size w w' := by
  refine (brackets_plain ⟨#[91, 97, 45, 99, 120, 93]⟩ 0 0 w (by decide) (by decide) hT false (by kernel_rfl) (by kernel_rfl)).mono ?_
  intro e w' h
  exact cls_told [(97, 99), (120, 120)] (by decide) (show clsQ ⟨#[91, 97, 45, 99, 120, 93]⟩ 0 false none = .ok (fun c => ((decide ((97 : Int) ≤ c) && decide (c ≤ 99)) || (decide ((120 : Int) ≤ c) && decide (c ≤ 120))) != false) 6 by kernel_rfl) (fun c => by simp [memR]) (by decide) h
theorem head07_two (w : World) (hT : Tabs w) : Calls Tryz.prog 8 #[.string ⟨#[91, 97]⟩, .int .i64 0, .int .i64 0] w fun e w' => e = .returned (.tuple #[.slice none 0 0, .int .i64 0, .agg #[.int .i64 71, .int .i64 0, .int .i64 2]]) ∧ Below w.heap.size w w' := by
  refine (brackets_plain ⟨#[91, 97]⟩ 0 0 w (by decide) (by decide) hT false (by kernel_rfl) (by kernel_rfl)).mono ?_
  intro e w' h
  exact cls_refused (show clsQ ⟨#[91, 97]⟩ 0 false none = .wrong 71 0 2 by kernel_rfl) h

/-- What head07_one hands back. -/
def Head07 (w : World) (e : Ending) (w' : World) : Prop := ∃ sa sc, e = .returned (.tuple #[.slice sa 2 sc, .int .i64 6, .agg #[.int .i64 0, .int .i64 0, .int .i64 0]]) ∧ RangesV w' w'.heap.size [(97, 99), (120, 120)] sa 2 sc ∧ Below w.heap.size w w'
set_option maxHeartbeats 1000000 in
theorem head07 (w : World) (hT : Tabs w) : Calls Tryz.prog 7 #[] w fun e w' => e = .returned (.bool true) ∧ Below w.heap.size w w' := by
  have HT := Lib.hid hT; clear hT
  go_enter Tryz.func7, Tryz.ntmps7
  go_wp2_with fail
  refine (head07_one w HT.out).mono ?_
  rintro e w1 ⟨sa, sc, rfl, hr, hB⟩
  have hr2 := hr.2.2
  obtain ⟨b, o, rfl, hb, hat⟩ := hr2.resolve_left (by simp)
  have hc := hr.2.1.1
  have T1 := Lib.hid ((HT.out.below hB).alloc (.cells #[.int .i64 0, .int .i64 0, .int .i64 0] 27))
  have K1 := Lib.hid (Blk.new w1 [.int .i64 0, .int .i64 0, .int .i64 0] 27)
  have B1 := Lib.hid (hB.alloc hB.size (.cells #[.int .i64 0, .int .i64 0, .int .i64 0] 27))
  have A1 := Lib.hid (hat.below ((Below.refl _ w1).alloc (Nat.le_refl _) (.cells #[.int .i64 0, .int .i64 0, .int .i64 0] 27)) hb)
  have HB := Lib.hid hb; clear hr hr2 hat hB hb
  go_wp2_with fail
  refine (head07_two _ T1.out).mono ?_
  rintro e w2 ⟨rfl, hB⟩
  have K2 := Blk.below K1.out hB K1.out.lt
  have A2 := A1.out.below hB (by have := HB.out; simp; omega)
  have B2 := Lib.hid (B1.out.trans (hB.mono B1.out.size))
  have c0 := Blk.cell (K2.alloc (.cells #[.int .i64 71, .int .i64 0, .int .i64 2] 27)) (j := 0) rfl
  have A3 := A2.below ((Below.refl _ w2).alloc (Nat.le_refl _) (.cells #[.int .i64 71, .int .i64 0, .int .i64 2] 27)) (by have := HB.out; have := hB.size; simp at this; omega)
  have c1 := A3.2.1
  have d0 := Blk.cell (Blk.new w2 [.int .i64 71, .int .i64 0, .int .i64 2] 27) (j := 0) rfl
  clear K2 A2 A3 hB
  go_wp2_with fail
  go_ret
  exact ⟨rfl, B2.out.alloc B2.out.size _⟩
end Go.Proofs.YtnafemcholkmlaaGreatDoor

namespace Go.Proofs.YtnafemcholkmlaaGreatDoor
open Go Go.RowKit Go.Proofs

theorem memR_take (rs : List (Int × Int)) (c : Int) (k : Nat) (h : k < rs.length) : memR (rs.take (k + 1)) c = (memR (rs.take k) c || (decide (rs[k].1 ≤ c) && decide (c ≤ rs[k].2))) := by
  rw [List.take_succ_eq_append_getElem h, memR_append, memR_one]
theorem memR_at {rs : List (Int × Int)} {c : Int} {k : Nat} (h : k < rs.length) (h1 : rs[k].1 ≤ c) (h2 : c ≤ rs[k].2) : memR rs c = true := by
  unfold memR
  rw [List.any_eq_true]
  exact ⟨rs[k], List.getElem_mem h, by simp [h1, h2]⟩
/-- Is a rune in a set? -/
def hasB (rs : List (Int × Int)) (c : Int) : Bool := decide (0 ≤ c) && decide (c ≤ 1114111) && memR rs c
set_option maxHeartbeats 1000000 in
theorem ref02_Has (rs : List (Int × Int)) (sa : Option Addr) (sc B : Nat) (c : Int) (w : World) (h : RangesV w B rs sa rs.length sc) :
    Calls Tryz.prog 13 #[.slice sa rs.length sc, .int .i32 c] w fun e w' => e = .returned (.bool (hasB rs c)) ∧ w' = w := by
  obtain ⟨_, ⟨hc, hn⟩, hr⟩ := h
  by_cases hz : rs.length = 0 ∨ c < 0 ∨ 1114111 < c
  · have hb : hasB rs c = false := by
      unfold hasB
      rcases hz with hz | hz | hz
      · rw [List.eq_nil_of_length_eq_zero hz]; simp [memR]
      · rw [decide_eq_false (by omega : ¬ 0 ≤ c)]; rfl
      · rw [decide_eq_false (by omega : ¬ c ≤ 1114111)]; simp
    rw [hb]
    have HR := Lib.hid hr; clear hr hb
    go_enter Tryz.func13, Tryz.ntmps13
    go_wp2_with fail
    go_loop [5] (fun i => i = .int .i64 0) (fun _ => 0)
    case atStart => rfl
    case round =>
      subst hrel
      by_cases h0 : rs.length = 0
      · have hd : ¬ 0 < rs.length := by omega
        go_wp2_with fail
        go_ret
        exact ⟨rfl, rfl⟩
      · have hd : 0 < rs.length := by omega
        by_cases h1 : c < 0
        · have h2 : ¬ 0 ≤ c := by omega
          go_wp2_with fail
          go_ret
          exact ⟨rfl, rfl⟩
        · have h2 : 0 ≤ c := by omega
          have h3 : ¬ c ≤ 1114111 := by omega
          go_wp2_with fail
          go_ret
          exact ⟨rfl, rfl⟩
  · obtain ⟨b, o, rfl, hb, hat⟩ := hr.resolve_left (by omega)
    have h0 : 0 ≤ c := by omega
    have h1 : c ≤ 1114111 := by omega
    have hB : hasB rs c = memR rs c := by unfold hasB; rw [decide_eq_true h0, decide_eq_true h1]; rfl
    have HB := Lib.hid hB; have HA := Lib.hid hat; clear hB hat hz hr
    go_enter Tryz.func13, Tryz.ntmps13
    go_wp2_with fail
    go_loop [5] (fun i => ∃ k : Nat, k ≤ rs.length ∧ i = .int .i64 k ∧ memR (rs.take k) c = false) (fun i => rs.length - (intOf i).toNat)
    case atStart => exact ⟨0, Nat.zero_le _, rfl, rfl⟩
    case round =>
      obtain ⟨k, hk, rfl, hm⟩ := hrel
      have HM := Lib.hid hm; clear hm
      by_cases hlt : k < rs.length
      · obtain ⟨g1, g2⟩ := HA.out.get k hlt
        obtain ⟨l, hl⟩ : ∃ l, rs[k].1 = l := ⟨_, rfl⟩
        obtain ⟨u, hu⟩ : ∃ u, rs[k].2 = u := ⟨_, rfl⟩
        rw [hl] at g1; rw [hu] at g2
        have HL := Lib.hid hl; have HU := Lib.hid hu; clear hl hu
        by_cases i1 : l ≤ c
        · by_cases i2 : c ≤ u
          · go_wp2_with fail
            go_ret
            exact ⟨by rw [HB.out, memR_at hlt (by rw [HL.out]; exact i1) (by rw [HU.out]; exact i2)]; rfl, rfl⟩
          · go_wp2_with fail
            go_round
            case rel => exact ⟨k + 1, hlt, by go_num, by rw [memR_take rs c k hlt, HM.out, HL.out, HU.out, decide_eq_false i2]; simp⟩
            case measure => simp [intOf]; omega
        · go_wp2_with fail
          go_round
          case rel => exact ⟨k + 1, hlt, by go_num, by rw [memR_take rs c k hlt, HM.out, HL.out, HU.out, decide_eq_false i1]; simp⟩
          case measure => simp [intOf]; omega
      · obtain rfl : k = rs.length := by omega
        rw [List.take_length] at HM
        go_wp2_with fail
        go_ret
        exact ⟨by rw [HB.out, HM.out]; rfl, rfl⟩
end Go.Proofs.YtnafemcholkmlaaGreatDoor

namespace Go.Proofs.YtnafemcholkmlaaGreatDoor
open Go Go.RowKit Go.Proofs

theorem get_at (s : ByteArray) (i : Nat) (x : UInt8) (h : s.data.toList[i]? = some x) : s.get! i = x := by
  rw [Array.getElem?_toList] at h
  show s.data[i]! = x
  rw [getElem!_def, h]
theorem stands_at {s : ByteArray} {p : Nat} {x : List UInt8} (h : stands s p x = true) (k : Nat) (v : UInt8) (hk : x[k]? = some v) : s.data.toList[p + k]? = some v := by
  unfold stands Lib.hasPrefix at h
  obtain ⟨t, ht⟩ := List.isPrefixOf_iff_prefix.1 h
  have := congrArg (fun l => l[k]?) ht
  simp only [List.getElem?_drop] at this
  rw [← this, List.getElem?_append_left (List.getElem?_eq_some_iff.1 hk).1, hk]
set_option maxRecDepth 100000 in
theorem decode_enc (s : ByteArray) (p r : Nat) (hv : Utf8.valid (r : Int) = true) (h : stands s p (Utf8.encode (r : Int)).data.toList = true) (hp : p + (Utf8.encode (r : Int)).size ≤ s.size) :
    Utf8.decode s p = (r, (Utf8.encode (r : Int)).size) := by
  have hv' : r < 55296 ∨ (57344 ≤ r ∧ r ≤ 1114111) := by
    unfold Utf8.valid at hv
    simp only [Bool.or_eq_true, Bool.and_eq_true, decide_eq_true_eq] at hv
    omega
  unfold Utf8.encode at h hp ⊢
  simp only [hv, if_true, Int.toNat_natCast] at h hp ⊢
  rw [Lib.decode_at]
  by_cases h1 : r < 128
  · simp only [h1, if_true] at h hp ⊢
    have e0 := get_at s p _ (stands_at h 0 _ rfl)
    rw [e0]
    unfold Lib.decodeN
    simp only [UInt8.toNat_ofNat']
    rw [if_pos (by omega)]
    exact Prod.ext (by show r % 2 ^ 8 = r; omega) rfl
  · simp only [h1, if_false] at h hp ⊢
    by_cases h2 : r < 2048
    · simp only [h2, if_true] at h hp ⊢
      have e0 := get_at s p _ (stands_at h 0 _ rfl)
      have e1 := get_at s (p + 1) _ (stands_at h 1 _ rfl)
      have hsz : p + 2 ≤ s.size := hp
      rw [e0, e1]
      unfold Lib.decodeN
      simp only [UInt8.toNat_ofNat']
      have a0 : (0xC0 + r / 64) % 2 ^ 8 = 192 + r / 64 := by omega
      have a1 : (0x80 + r % 64) % 2 ^ 8 = 128 + r % 64 := by omega
      rw [a0, a1]
      repeat' split
      all_goals first
        | (exact Prod.ext (by show _ = r; omega) rfl)
        | (exfalso; omega)
    · simp only [h2, if_false] at h hp ⊢
      by_cases h3 : r < 65536
      · simp only [h3, if_true] at h hp ⊢
        have e0 := get_at s p _ (stands_at h 0 _ rfl)
        have e1 := get_at s (p + 1) _ (stands_at h 1 _ rfl)
        have e2 := get_at s (p + 2) _ (stands_at h 2 _ rfl)
        have hsz : p + 3 ≤ s.size := hp
        rw [e0, e1, e2]
        unfold Lib.decodeN
        simp only [UInt8.toNat_ofNat']
        have a0 : (0xE0 + r / 4096) % 2 ^ 8 = 224 + r / 4096 := by omega
        have a1 : (0x80 + r / 64 % 64) % 2 ^ 8 = 128 + r / 64 % 64 := by omega
        have a2 : (0x80 + r % 64) % 2 ^ 8 = 128 + r % 64 := by omega
        rw [a0, a1, a2]
        repeat' split
        all_goals first
          | (exact Prod.ext (by show _ = r; omega) rfl)
          | (exfalso; omega)
      · simp only [h3, if_false] at h hp ⊢
        have e0 := get_at s p _ (stands_at h 0 _ rfl)
        have e1 := get_at s (p + 1) _ (stands_at h 1 _ rfl)
        have e2 := get_at s (p + 2) _ (stands_at h 2 _ rfl)
        have e3 := get_at s (p + 3) _ (stands_at h 3 _ rfl)
        have hsz : p + 4 ≤ s.size := hp
        rw [e0, e1, e2, e3]
        unfold Lib.decodeN
        simp only [UInt8.toNat_ofNat']
        have a0 : (0xF0 + r / 262144) % 2 ^ 8 = 240 + r / 262144 := by omega
        have a1 : (0x80 + r / 4096 % 64) % 2 ^ 8 = 128 + r / 4096 % 64 := by omega
        have a2 : (0x80 + r / 64 % 64) % 2 ^ 8 = 128 + r / 64 % 64 := by omega
        have a3 : (0x80 + r % 64) % 2 ^ 8 = 128 + r % 64 := by omega
        rw [a0, a1, a2, a3]
        repeat' split
        all_goals first
          | (exact Prod.ext (by show _ = r; omega) rfl)
          | (exfalso; omega)
theorem nextC_enc (s : ByteArray) (p r : Nat) (hv : Utf8.valid (r : Int) = true) (h : stands s p (Utf8.encode (r : Int)).data.toList = true) (hp : p + (Utf8.encode (r : Int)).size ≤ s.size) :
    nextC s p = r ∧ nextW s p = p + (Utf8.encode (r : Int)).size := by
  have h0 : 0 < (Utf8.encode (r : Int)).size := by
    unfold Utf8.encode
    dsimp only
    repeat' split
    all_goals (show 0 < Array.size _; simp)
  unfold nextC nextW
  rw [if_pos (by omega), if_pos (by omega), decode_enc s p r hv h hp]
  generalize (Utf8.encode (r : Int)).size = z
  exact ⟨rfl, rfl⟩
end Go.Proofs.YtnafemcholkmlaaGreatDoor
