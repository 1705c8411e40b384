/- The small readers of layer 6: what is left, what is next. The small readers of layer 6, on: runs of bytes of a kind; numbers. The small readers of layer 6, on: numbers. The document's small readers: digits. -/
import Derived.Test.YtnhnldmldnhaoaaGreatDoorDBase
import Derived.Test.YtnhnldmldnhaoaaGreatDoorShelf
import Derived.WalkKit
import Derived.Lib.Hide
import Derived.WalkSpells
import Derived.WalkLawsBesides
import Derived.Deep.QuietTactic
import Derived.BigQuiet
import Derived.Shelf.Strings.SlTrimAscii
namespace Go.Proofs.YtnhnldmldnhaoaaGreatDoor
open Go Go.RowKit Go.Proofs

/-- A reader: its text, its place, whatever lies behind them in its block. -/
def Rd (w : World) (b : Nat) (s : ByteArray) (p : Nat) (rest : List Value) (t : TypeId) : Prop := Blk w b (.string s :: .int .i64 (p : Int) :: rest) t

theorem Rd.c0 {w : World} {b : Nat} {s : ByteArray} {p : Nat} {rest : List Value} {t : TypeId} (h : Rd w b s p rest t) : w.cell? ⟨b, 0, none⟩ = some (.string s) := Blk.cell h rfl
theorem Rd.c1 {w : World} {b : Nat} {s : ByteArray} {p : Nat} {rest : List Value} {t : TypeId} (h : Rd w b s p rest t) : w.cell? ⟨b, 1, none⟩ = some (.int .i64 p) := Blk.cell h rfl
theorem Rd.f1 {w : World} {b : Nat} {s : ByteArray} {p : Nat} {rest : List Value} {t : TypeId} (h : Rd w b s p rest t) : w.frozen? ⟨b, 1, none⟩ = false := Blk.frozen h 1
theorem Rd.move {w : World} {b : Nat} {s : ByteArray} {p : Nat} {rest : List Value} {t : TypeId} (h : Rd w b s p rest t) (q : Nat) : Rd (w.setCell ⟨b, 1, none⟩ (.int .i64 (q : Int))) b s q rest t := Blk.set h 1 _
theorem Rd.lt {w : World} {b : Nat} {s : ByteArray} {p : Nat} {rest : List Value} {t : TypeId} (h : Rd w b s p rest t) : b < w.heap.size := Blk.lt h
theorem Rd.below {B : Nat} {w w' : World} {b : Nat} {s : ByteArray} {p : Nat} {rest : List Value} {t : TypeId} (h : Rd w b s p rest t) (hb : Below B w w') (hlt : b < B) : Rd w' b s p rest t := Blk.below h hb hlt

/-- What is left of a text from a place on. -/
def tail (s : ByteArray) (p : Nat) : ByteArray := s.extract p s.size
theorem tail_toList (s : ByteArray) (p : Nat) : (tail s p).data.toList = s.data.toList.drop p := by
  unfold tail
  rw [Lib.extract_data, List.take_of_length_le (by simp)]
theorem tail_size (s : ByteArray) (p : Nat) : (tail s p).size = s.size - p := by
  unfold tail; simp

set_option maxHeartbeats 400000 in
theorem scan_rest_q (b : Nat) (s : ByteArray) (p : Nat) (rest : List Value) (t : TypeId) (w : World) (h : Rd w b s p rest t) (hp : p ≤ s.size) :
    Calls Tryz.prog 124 #[.pointer (some ⟨b, 0, none⟩)] w fun e w' => e = .returned (.string (tail s p)) ∧ ∃ n, w' = w.drewN n := by
  have h0 := h.c0
  have h1 := h.c1
  clear h
  have hq : (p : Int) ≤ (s.size : Int) := by omega
  go_enter Tryz.func124, Tryz.ntmps124
  go_wp2_with fail
  go_quiet (fail)
  go_wp2_with fail
  go_ret
  exact ⟨rfl, _, rfl⟩

theorem scan_rest (b : Nat) (s : ByteArray) (p : Nat) (rest : List Value) (t : TypeId) (w : World) (h : Rd w b s p rest t) (hp : p ≤ s.size) :
    Calls Tryz.prog 124 #[.pointer (some ⟨b, 0, none⟩)] w fun e w' => e = .returned (.string (tail s p)) ∧ Rd w' b s p rest t ∧ Below w.heap.size w w' :=
  (scan_rest_q b s p rest t w h hp).mono fun _ _ ⟨he, n, hw⟩ => ⟨he, by rw [hw]; exact Blk.drewN h n, by rw [hw]; exact below_drewN (Below.refl _ _) n⟩

theorem hasPrefix_le {l p : List UInt8} (h : Lib.hasPrefix l p = true) : p.length ≤ l.length := by
  unfold Lib.hasPrefix at h
  exact (List.isPrefixOf_iff_prefix.1 h).length_le

/-- Does a text stand at a place? -/
def stands (s : ByteArray) (i : Nat) (p : List UInt8) : Bool := Lib.hasPrefix (s.data.toList.drop i) p
theorem stands_le {s : ByteArray} {i : Nat} {p : ByteArray} (hi : i ≤ s.size) (h : stands s i p.data.toList = true) : i + p.size ≤ s.size := by
  have := hasPrefix_le h
  have e1 : s.data.toList.length = s.size := by simp
  have e2 : p.data.toList.length = p.size := by simp
  rw [List.length_drop, e1, e2] at this
  omega

set_option maxHeartbeats 400000 in
theorem scan_has_yes (b : Nat) (s p : ByteArray) (i : Nat) (rest : List Value) (t : TypeId) (w : World) (h : Rd w b s i rest t) (hi : i ≤ s.size) (hs : s.size ≤ 1000000000000000)
    (hy : stands s i p.data.toList = true) :
    Calls Tryz.prog 95 #[.pointer (some ⟨b, 0, none⟩), .string p] w fun e w' => e = .returned (.bool true) ∧ Rd w' b s (i + p.size) rest t ∧ w.grownBy w' (some b) := by
  have hp := stands_le hi hy
  have HY := Lib.hid hy; clear hy
  have HR := Lib.hid h; clear h
  go_enter Tryz.func95, Tryz.ntmps95
  go_wp2_with fail
  refine (scan_rest b s i rest t _ HR.out hi).mono ?_
  rintro e w1 ⟨rfl, hR, hB⟩
  have HR1 := Lib.hid hR; clear hR
  have HB := Lib.hid hB; clear hB
  go_wp2_with fail
  refine (Tryz.strings_HasPrefix _ _ _).mono ?_
  rintro e w1 ⟨rfl, rfl⟩
  rw [tail_toList, show Lib.hasPrefix (List.drop i s.data.toList) p.data.toList = true from HY.out]
  have h1 := HR1.out.c1
  have f1 := HR1.out.f1
  go_wp2_with fail
  go_ret
  refine ⟨rfl, ?_, grownBy_trans (grownBy_below HB.out _) (grownBy_setCell _ _ _ _)⟩
  rw [← Int.natCast_add]
  exact Rd.move HR1.out _

set_option maxHeartbeats 400000 in
theorem scan_has_no (b : Nat) (s p : ByteArray) (i : Nat) (rest : List Value) (t : TypeId) (w : World) (h : Rd w b s i rest t) (hi : i ≤ s.size)
    (hy : stands s i p.data.toList = false) :
    Calls Tryz.prog 95 #[.pointer (some ⟨b, 0, none⟩), .string p] w fun e w' => e = .returned (.bool false) ∧ Rd w' b s i rest t ∧ w.grownBy w' (some b) := by
  have HY := Lib.hid hy; clear hy
  have HR := Lib.hid h; clear h
  go_enter Tryz.func95, Tryz.ntmps95
  go_wp2_with fail
  refine (scan_rest b s i rest t _ HR.out hi).mono ?_
  rintro e w1 ⟨rfl, hR, hB⟩
  have HR1 := Lib.hid hR; clear hR
  have HB := Lib.hid hB; clear hB
  go_wp2_with fail
  refine (Tryz.strings_HasPrefix _ _ _).mono ?_
  rintro e w1 ⟨rfl, rfl⟩
  rw [tail_toList, show Lib.hasPrefix (List.drop i s.data.toList) p.data.toList = false from HY.out]
  go_wp2_with fail
  go_ret
  exact ⟨rfl, HR1.out, grownBy_below HB.out _⟩
end Go.Proofs.YtnhnldmldnhaoaaGreatDoor

namespace Go.Proofs.YtnhnldmldnhaoaaGreatDoor
open Go Go.RowKit Go.Proofs

/-- As many bytes of a kind as stand at a place. -/
def runP (s : ByteArray) (p : Nat) (cs : List UInt8) : List UInt8 := (s.data.toList.drop p).takeWhile (cs.contains ·)
theorem runP_le (s : ByteArray) (p : Nat) (cs : List UInt8) : (runP s p cs).length ≤ s.size - p := by
  unfold runP
  have := (List.takeWhile_prefix (l := s.data.toList.drop p) (fun x => cs.contains x)).length_le
  simpa using this

theorem run_split (s : ByteArray) (p : Nat) (cs : List UInt8) : (runP s p cs).length + (Lib.trimLeftS (tail s p).data.toList cs).length = (tail s p).size := by
  have h := congrArg List.length (List.takeWhile_append_dropWhile (p := fun x => cs.contains x) (l := s.data.toList.drop p))
  rw [List.length_append] at h
  unfold runP Lib.trimLeftS
  rw [tail_toList, tail_size, h]
  simp
theorem run_head (s : ByteArray) (p : Nat) (cs : List UInt8) : (tail s p).extract 0 (runP s p cs).length = ⟨(runP s p cs).toArray⟩ := by
  apply ByteArray.ext
  apply Array.toList_inj.1
  rw [Lib.extract_data, tail_toList]
  have h := (List.takeWhile_append_dropWhile (p := fun x => cs.contains x) (l := s.data.toList.drop p))
  have h2 : (s.data.toList.drop p).take (runP s p cs).length = runP s p cs := by
    conv => lhs; arg 2; rw [← h]
    exact List.take_left
  simpa using h2

set_option maxHeartbeats 400000 in
theorem scan_run (b : Nat) (s cs : ByteArray) (p : Nat) (rest : List Value) (t : TypeId) (w : World) (h : Rd w b s p rest t) (hp : p ≤ s.size) (hs : s.size ≤ 1000000000000000)
    (hcs : cs.size < 4294967281) (hascii : ∀ (j : Nat) (c : UInt8), cs.data.toList[j]? = some c → c.toNat < 128) :
    Calls Tryz.prog 96 #[.pointer (some ⟨b, 0, none⟩), .string cs] w fun e w' => e = .returned (.string ⟨(runP s p cs.data.toList).toArray⟩) ∧
      Rd w' b s (p + (runP s p cs.data.toList).length) rest t ∧ w.grownBy w' (some b) := by
  have HR := Lib.hid h; clear h
  have HA := Lib.hid hascii; clear hascii
  go_enter Tryz.func96, Tryz.ntmps96
  go_wp2_with fail
  refine (scan_rest b s p rest t _ HR.out hp).mono ?_
  rintro e w1 ⟨rfl, hR, hB⟩
  have HR1 := Lib.hid hR; clear hR
  have HB1 := Lib.hid hB; clear hB
  go_wp2_with fail
  refine (scan_rest b s p rest t _ HR1.out hp).mono ?_
  rintro e w2 ⟨rfl, hR, hB⟩
  have HR2 := Lib.hid hR; clear hR
  have HB2 := Lib.hid hB; clear hB
  go_wp2_with fail
  refine (scan_rest b s p rest t _ HR2.out hp).mono ?_
  rintro e w3 ⟨rfl, hR, hB⟩
  have HR3 := Lib.hid hR; clear hR
  have HB3 := Lib.hid hB; clear hB
  go_wp2_with fail
  refine (Any.strings_TrimLeft_laid Tryz.lays161 (by kernel_rfl) _ _ _ hcs HA.out).mono ?_
  rintro e w4 ⟨rfl, hB⟩
  have hR4 := Blk.below HR3.out hB HR3.out.lt
  have h1 := Rd.c1 hR4
  have f1 := Rd.f1 hR4
  have HR4 := Lib.hid hR4; clear hR4
  have HB4 := Lib.hid hB; clear hB
  have hsp := run_split s p cs.data.toList
  have hrh := run_head s p cs.data.toList
  have hl := runP_le s p cs.data.toList
  have hsz := tail_size s p
  generalize Lib.trimLeftS (tail s p).data.toList cs.data.toList = D at *
  have hd : D.length ≤ (tail s p).size := by omega
  have ht : (tail s p).size ≤ 1000000000000000 := by omega
  have hq : (tail s p).size - D.length = (runP s p cs.data.toList).length := by omega
  have HSP := Lib.hid hsp; clear hsp
  have HQ := Lib.hid hq; clear hq
  have HRH := Lib.hid hrh; clear hrh
  have HSZ := Lib.hid hsz; clear hsz
  go_wp2_with fail
  go_ret
  refine ⟨?_, ?_, grownBy_trans (grownBy_below (below_then (below_then (below_then HB1.out HB2.out) HB3.out) HB4.out) _) (grownBy_setCell _ _ _ _)⟩
  · show Ending.returned (.string ((tail s p).extract 0 ((tail s p).size - D.length))) = _
    rw [HQ.out, HRH.out]
  · rw [HQ.out, ← Int.natCast_add]
    exact Rd.move HR4.out _

/-- A number of digits, up to a bound. -/
def numP (base most : Int) : Int → List UInt8 → Int
  | n, [] => n
  | n, c :: l => numP base most (min (n * base + (if c.toNat > 57 then (c.toNat : Int) - 87 else (c.toNat : Int) - 48)) (most + 1)) l
end Go.Proofs.YtnhnldmldnhaoaaGreatDoor

namespace Go.Proofs.YtnhnldmldnhaoaaGreatDoor
open Go Go.RowKit Go.Proofs

def isDig (c : UInt8) : Prop := (48 ≤ c.toNat ∧ c.toNat ≤ 57) ∨ (97 ≤ c.toNat ∧ c.toNat ≤ 102)
theorem numP_bd (base most : Int) (hm : 0 ≤ most) (hb : 0 ≤ base) : ∀ (l : List UInt8) (n : Int), (∀ c ∈ l, isDig c) → 0 ≤ n → n ≤ most + 1 → 0 ≤ numP base most n l ∧ numP base most n l ≤ most + 1
  | [], n, _, h0, h1 => ⟨h0, h1⟩
  | c :: l, n, hc, h0, h1 => by
    have h48 := hc c (by simp)
    unfold isDig at h48
    have hq : 0 ≤ n * base := Int.mul_nonneg h0 hb
    refine numP_bd base most hm hb l _ (fun d hd => hc d (by simp [hd])) ?_ ?_ <;> (split <;> omega)
theorem numP_snoc (base most : Int) : ∀ (l : List UInt8) (n : Int) (c : UInt8), numP base most n (l ++ [c]) = min (numP base most n l * base + (if c.toNat > 57 then (c.toNat : Int) - 87 else (c.toNat : Int) - 48)) (most + 1)
  | [], _, _ => rfl
  | _ :: l, _, c => numP_snoc base most l _ c

set_option maxHeartbeats 400000 in
theorem scan_number (s : ByteArray) (base most : Int) (w : World) (hl : s.size ≤ 140737488355328) (hb : 2 ≤ base ∧ base ≤ 16) (hm : 0 ≤ most ∧ most ≤ 10000000)
    (hd : ∀ c ∈ Lib.toLowerA s.data.toList, isDig c) (ha : ∀ (j : Nat) (b : UInt8), s.data.toList[j]? = some b → b.toNat < 128) :
    Calls Tryz.prog 97 #[.string s, .int .i64 base, .int .i64 most] w fun e w' => e = .returned (.int .i64 (numP base most 0 (Lib.toLowerA s.data.toList))) ∧ Below w.heap.size w w' := by
  obtain ⟨hb1, hb2⟩ := hb
  obtain ⟨hm1, hm2⟩ := hm
  have HD := Lib.hid hd; clear hd
  have HA := Lib.hid ha; clear ha
  go_enter Tryz.func97, Tryz.ntmps97
  go_wp2_with fail
  refine (Tryz.strings_ToLower_ascii _ _ (by omega) HA.out).mono ?_
  rintro e w1 ⟨rfl, hB⟩
  have HB := Lib.hid hB; clear hB
  obtain ⟨L, hL⟩ : ∃ L, L = Lib.toLowerA s.data.toList := ⟨_, rfl⟩
  have hlen : L.length = s.size := by rw [hL]; simp [Lib.toLowerA]
  have hlen' : L.length ≤ 140737488355328 := by omega
  have HLn := Lib.hid hlen; clear hlen
  rw [← hL] at HD ⊢
  have HL := Lib.hid hL; clear hL
  obtain ⟨cap, w2, hrun, hc, hbl2, hs2⟩ := conv_bytes (P := Tryz.prog) w1 9 63 5 ⟨L.toArray⟩ Tryz.underlying9 Tryz.underlying63 Tryz.underlying5
  have HC := Lib.hid hc; clear hc
  have HB2 := Lib.hid hbl2; clear hbl2
  have HS2 := Lib.hid hs2; clear hs2
  go_wp2_with fail
  clear hrun
  go_loop [7, 15] (fun n i => ∃ k : Nat, k ≤ L.length ∧ i = .int .i64 k ∧ n = .int .i64 (numP base most 0 (L.take k))) (fun _ i => L.length - (intOf i).toNat)
  case atStart => exact ⟨0, Nat.zero_le _, rfl, by simp [numP]⟩
  case round =>
    obtain ⟨k, hk, rfl, rfl⟩ := hrel
    by_cases hlt : k < L.length
    · have hcell := HC.out k (by show k < L.toArray.size; simpa using hlt)
      have hD := HD.out L[k] (List.getElem_mem hlt)
      have hn := numP_bd base most hm1 (by omega) (L.take k) 0 (fun c hc => HD.out c (List.mem_of_mem_take hc)) (Int.le_refl _) (by omega)
      have hst : numP base most 0 (L.take (k + 1)) = min (numP base most 0 (L.take k) * base + (if L[k].toNat > 57 then (L[k].toNat : Int) - 87 else (L[k].toNat : Int) - 48)) (most + 1) := by
        rw [List.take_succ_eq_append_getElem hlt, numP_snoc]
      have HST := Lib.hid hst; clear hst
      simp only [List.getD_eq_getElem?_getD, List.getElem?_eq_getElem hlt, Option.getD_some] at hcell
      generalize numP base most 0 (L.take k) = N at *
      generalize L[k] = c at *
      have hN : N * base ≤ 160000016 := by
        have := Int.mul_le_mul hn.2 hb2 (by omega) (by omega)
        omega
      have hN0 : 0 ≤ N * base := Int.mul_nonneg hn.1 (by omega)
      unfold isDig at hD
      have hD1 : 48 ≤ c.toNat := by omega
      have hD2 : c.toNat ≤ 102 := by omega
      obtain ⟨hn1, hn2⟩ := hn
      by_cases h57 : 57 < c.toNat
      · have hD3 : 97 ≤ c.toNat := by omega
        clear hD
        go_wp2_with fail
        go_round
        case rel =>
          refine ⟨k + 1, by omega, by go_num, ?_⟩
          rw [HST.out, if_pos h57]
          exact congrArg (Value.int .i64) (by omega)
        case measure => simp [intOf]; omega
      · clear hD
        go_wp2_with fail
        go_round
        case rel =>
          refine ⟨k + 1, by omega, by go_num, ?_⟩
          rw [HST.out, if_neg h57]
        case measure => simp [intOf]; omega
    · have hk' : k = L.length := by omega
      have hq : numP base most 0 (L.take k) = numP base most 0 (Lib.toLowerA s.data.toList) := by rw [hk', List.take_length, HL.out]
      have HQ := Lib.hid hq; clear hq
      clear hk'
      go_wp2_with fail
      go_ret
      exact ⟨by rw [← HQ.out]; rfl, below_then HB.out HB2.out⟩
end Go.Proofs.YtnhnldmldnhaoaaGreatDoor

namespace Go.Proofs.YtnhnldmldnhaoaaGreatDoor
open Go Go.RowKit Go.Proofs

def digs : List UInt8 := [48, 49, 50, 51, 52, 53, 54, 55, 56, 57]
theorem digs_iff (c : UInt8) : digs.contains c = true ↔ 48 ≤ c.toNat ∧ c.toNat ≤ 57 := by
  constructor
  · intro h
    have : c ∈ digs := by simpa using h
    simp only [digs, List.mem_cons, List.mem_nil_iff, or_false] at this
    rcases this with rfl | rfl | rfl | rfl | rfl | rfl | rfl | rfl | rfl | rfl <;> decide
  · rintro ⟨h1, h2⟩
    have hc : c = UInt8.ofNat c.toNat := by simp
    rw [hc]
    obtain ⟨n, hn⟩ : ∃ n, c.toNat = n := ⟨_, rfl⟩
    rw [hn] at h1 h2 ⊢
    have : n = 48 ∨ n = 49 ∨ n = 50 ∨ n = 51 ∨ n = 52 ∨ n = 53 ∨ n = 54 ∨ n = 55 ∨ n = 56 ∨ n = 57 := by omega
    rcases this with rfl | rfl | rfl | rfl | rfl | rfl | rfl | rfl | rfl | rfl <;> decide

theorem takeWhile_yes {α : Type} (p : α → Bool) : ∀ (l : List α), ∀ c ∈ l.takeWhile p, p c = true
  | [], _, h => by simp at h
  | a :: l, c, h => by
    by_cases ha : p a = true
    · rw [List.takeWhile_cons_of_pos ha] at h
      rcases List.mem_cons.1 h with rfl | h
      · exact ha
      · exact takeWhile_yes p l c h
    · rw [List.takeWhile_cons_of_neg ha] at h
      simp at h
theorem getElem_toList (s : ByteArray) (i : Nat) (h : i < s.size) : s.data.toList[i]? = some s[i] := by
  rw [List.getElem?_eq_getElem (by simpa using h)]
  rfl
theorem runP_le_size (s : ByteArray) (p : Nat) (cs : List UInt8) (hp : p ≤ s.size) : p + (runP s p cs).length ≤ s.size := by
  have := runP_le s p cs
  omega
theorem lower_digs {l : List UInt8} (h : ∀ c ∈ l, digs.contains c = true) : Lib.toLowerA l = l := by
  unfold Lib.toLowerA
  apply (List.map_congr_left (g := id) ?_).trans (List.map_id l)
  intro c hc
  have : c ∈ digs := by simpa using h c hc
  simp only [digs, List.mem_cons, List.mem_nil_iff, or_false] at this
  rcases this with rfl | rfl | rfl | rfl | rfl | rfl | rfl | rfl | rfl | rfl <;> decide

end Go.Proofs.YtnhnldmldnhaoaaGreatDoor
