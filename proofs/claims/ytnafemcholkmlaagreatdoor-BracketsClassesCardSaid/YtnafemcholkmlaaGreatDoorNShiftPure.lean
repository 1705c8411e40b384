/- What stands in a text stands at another place of another text alike. Flags: one bit laid, another asked. The document's Same at two that are alike. The document's sorted: of runes that rise, they themselves. The document's orbits. All but a set: the plain law of the document's Not. The document's Not: martelloref02.Not's contract, for every list. -/
import Derived.Test.YtnafemcholkmlaaGreatDoorQBrCatch
import Derived.Test.YtnafemcholkmlaaGreatDoorQBlk
import Derived.Test.YtnafemcholkmlaaGreatDoorQSetsOps
import Derived.Deep.QuietTactic
import Derived.BigQuiet
import Derived.LoopTactic
import Derived.Test.YtnafemcholkmlaaGreatDoorNSetsHas
import Derived.Test.YtnafemcholkmlaaGreatDoorQNormWalk
import Derived.IntWalk
import Derived.Test.YtnafemcholkmlaaGreatDoorQSetsNot
import Derived.Test.YtnafemcholkmlaaGreatDoorQBrClass
import Derived.Test.YtnafemcholkmlaaGreatDoorNFoldPure
import Derived.Test.YtnafemcholkmlaaGreatDoorQNormPure
namespace Go.Proofs.YtnafemcholkmlaaGreatDoor
open Go Go.RowKit Go.Proofs Go.Shelf

/-- From p0 on, the text t holds what s holds, d places on. -/
structure Sh (s t : ByteArray) (d p0 : Nat) : Prop where
  size : t.size = s.size + d
  drop : ∀ p, p0 ≤ p → t.data.toList.drop (p + d) = s.data.toList.drop p
section
variable {s t : ByteArray} {d p0 : Nat} (h : Sh s t d p0)
include h
theorem Sh.stands {p : Nat} (hp : p0 ≤ p) (x : List UInt8) : stands t (p + d) x = stands s p x := by
  unfold Go.Proofs.YtnafemcholkmlaaGreatDoor.stands
  rw [h.drop p hp]
theorem Sh.runP {p : Nat} (hp : p0 ≤ p) (cs : List UInt8) : runP t (p + d) cs = runP s p cs := by
  unfold Go.Proofs.YtnafemcholkmlaaGreatDoor.runP
  rw [h.drop p hp]
theorem Sh.tail {p : Nat} (hp : p0 ≤ p) : tail t (p + d) = tail s p := by
  apply ByteArray.ext
  apply Array.toList_inj.1
  rw [tail_toList, tail_toList, h.drop p hp]
theorem Sh.decode {p : Nat} (hp : p0 ≤ p) (hl : p < s.size) : Utf8.decode t (p + d) = Utf8.decode s p := by
  rw [← decodeGo_tail s p hl, ← decodeGo_tail t (p + d) (by rw [h.size]; omega), h.tail hp]
theorem Sh.nextC {p : Nat} (hp : p0 ≤ p) : nextC t (p + d) = nextC s p := by
  unfold Go.Proofs.YtnafemcholkmlaaGreatDoor.nextC
  by_cases hl : p < s.size
  · rw [if_pos hl, if_pos (by rw [h.size]; omega), h.decode hp hl]
  · rw [if_neg hl, if_neg (by rw [h.size]; omega)]
theorem Sh.nextW {p : Nat} (hp : p0 ≤ p) : nextW t (p + d) = nextW s p + d := by
  unfold Go.Proofs.YtnafemcholkmlaaGreatDoor.nextW
  by_cases hl : p < s.size
  · rw [if_pos hl, if_pos (by rw [h.size]; omega), h.decode hp hl]; omega
  · rw [if_neg hl, if_neg (by rw [h.size]; omega)]
theorem Sh.extract {p q : Nat} (hp : p0 ≤ p) : t.extract (p + d) (q + d) = s.extract p q := by
  apply ByteArray.ext
  apply Array.toList_inj.1
  simp only [ByteArray.data_extract, Array.toList_extract, List.extract_eq_take_drop]
  rw [h.drop p hp]
  congr 1
  omega
theorem Sh.bracedN {q : Nat} (hq : p0 ≤ q) : bracedN t (q + d) = ((bracedN s q).1, (bracedN s q).2.1, (bracedN s q).2.2 + d) := by
  unfold Go.Proofs.YtnafemcholkmlaaGreatDoor.bracedN
  have e1 : q + d + 1 = q + 1 + d := by omega
  rw [e1, h.runP (by omega)]
  have e2 : q + 1 + d + (Go.Proofs.YtnafemcholkmlaaGreatDoor.runP s (q + 1) hexs).length = q + 1 + (Go.Proofs.YtnafemcholkmlaaGreatDoor.runP s (q + 1) hexs).length + d := by omega
  rw [e2, h.stands (by omega)]
  simp only
  congr 2
  split <;> omega
theorem Sh.codeP {q : Nat} (hq : p0 ≤ q) : codeP t (q + d) = (codeP s q).map fun x => (x.1, x.2 + d) := by
  unfold Go.Proofs.YtnafemcholkmlaaGreatDoor.codeP
  rw [h.stands hq, h.bracedN hq, h.drop q hq]
  split
  · split <;> rfl
  · split
    · split
      · simp only [Option.map_some]; congr 2; omega
      · rfl
    · rfl
theorem Sh.propP {q : Nat} (hq : p0 ≤ q) : propP t (q + d) = (propP s q).map fun x => (x.1, x.2 + d) := by
  unfold Go.Proofs.YtnafemcholkmlaaGreatDoor.propP
  have e1 : q + d + 1 = q + 1 + d := by omega
  rw [h.stands hq, e1, h.drop (q + 1) (by omega)]
  split
  · split
    · have e2 : q + 1 + d + (Lib.indexByte (List.drop (q + 1) s.data.toList) 125).toNat = q + 1 + (Lib.indexByte (List.drop (q + 1) s.data.toList) 125).toNat + d := by omega
      rw [e2, h.extract (by omega)]
      simp only [Option.map_some]
      congr 2
      omega
    · rfl
  · by_cases hl : q < s.size
    · rw [if_pos hl, if_pos (by rw [h.size]; omega), h.nextW hq, h.extract hq]; rfl
    · rw [if_neg hl, if_neg (by rw [h.size]; omega)]; rfl
end
/-- Escapes alike, but for the places that they tell. -/
def EscSame (d : Nat) : EscR → EscR → Prop
  | .wrong e _ _, .wrong e' _ _ => e' = e
  | .lit k r a q, .lit k' r' a' q' => k' = k ∧ r' = r ∧ a' = a ∧ q' = q + d
  | .set f q, .set f' q' => f' = f ∧ q' = q + d
  | _, _ => False
theorem escP_sh {s t : ByteArray} {d p0 p : Nat} (h : Sh s t d p0) (hp : p0 ≤ p) (perl : Bool) : EscSame d (escP s p perl) (escP t (p + d) perl) := by
  unfold escP
  have e1 : p + d + 1 = p + 1 + d := by omega
  rw [h.stands hp, e1, h.nextC (by omega), h.nextW (by omega), h.size]
  by_cases c1 : ¬ stands s p [92] = true
  · rw [if_pos c1, if_pos c1]; rfl
  rw [if_neg c1, if_neg c1]
  by_cases c2 : s.size ≤ p + 1
  · rw [if_pos c2, if_pos (show s.size + d ≤ p + 1 + d by omega)]; rfl
  rw [if_neg c2, if_neg (show ¬ s.size + d ≤ p + 1 + d by omega)]
  by_cases c3 : signI (nextC s (p + 1)) = true
  · rw [if_pos c3, if_pos c3]; exact ⟨rfl, rfl, rfl, by omega⟩
  rw [if_neg c3, if_neg c3]
  by_cases c4 : 0 ≤ letterI (nextC s (p + 1))
  · rw [if_pos c4, if_pos c4]; exact ⟨rfl, rfl, rfl, by omega⟩
  rw [if_neg c4, if_neg c4]
  have hW : p0 ≤ nextW s (p + 1) := by
    unfold nextW; split <;> omega
  by_cases c5 : nextC s (p + 1) = 120
  · rw [if_pos c5, if_pos c5]
    unfold escX
    rw [h.codeP hW]
    cases codeP s (nextW s (p + 1)) with
    | none => rfl
    | some x => exact ⟨rfl, rfl, rfl, by show ((x.2 + d : Nat) : Int) = (x.2 : Int) + d; omega⟩
  rw [if_neg c5, if_neg c5]
  by_cases c6 : nextC s (p + 1) = 112 ∨ nextC s (p + 1) = 80
  · rw [if_pos c6, if_pos c6]
    unfold escPr
    rw [h.propP hW]
    cases propP s (nextW s (p + 1)) with
    | none => rfl
    | some x =>
      simp only [Option.map_some]
      cases propSpec x.1.data.toList (nextC s (p + 1) == 80) with
      | none => rfl
      | some f => exact ⟨rfl, by show ((x.2 + d : Nat) : Int) = (x.2 : Int) + d; omega⟩
  rw [if_neg c6, if_neg c6]
  by_cases c7 : perl = false
  · rw [if_pos c7, if_pos c7]; rfl
  rw [if_neg c7, if_neg c7]
  unfold escPl
  split
  · exact ⟨rfl, rfl, rfl, by omega⟩
  split
  · exact ⟨rfl, rfl, rfl, by omega⟩
  split
  · rfl
  · exact ⟨rfl, by omega⟩
theorem oneP_sh {s t : ByteArray} {d p0 p : Nat} (h : Sh s t d p0) (hp : p0 ≤ p) (perl : Bool) : EscSame d (oneP s p perl) (oneP t (p + d) perl) := by
  unfold oneP
  rw [h.stands hp, h.nextC hp, h.nextW hp]
  split
  · exact escP_sh h hp perl
  · exact ⟨rfl, rfl, rfl, by omega⟩
/-- Items alike. -/
def ItemSame (d : Nat) : ItemR → ItemR → Prop
  | .wrong e _ _, .wrong e' _ _ => e' = e
  | .ok f q, .ok f' q' => f' = f ∧ q' = q + d
  | _, _ => False
theorem namedP_sh {s t : ByteArray} {d p0 p : Nat} (h : Sh s t d p0) (hp : p0 ≤ p) : namedP t (p + d) = (namedP s p).map (· + d) := by
  unfold namedP
  have e1 : p + d + 2 = p + 2 + d := by omega
  rw [h.stands hp, e1, h.runP (by omega)]
  have e2 : p + 2 + d + (runP s (p + 2) nmL).length = p + 2 + (runP s (p + 2) nmL).length + d := by omega
  rw [e2, h.stands (by omega)]
  split
  · split <;> rfl
  · rfl
theorem rangedP_sh {s t : ByteArray} {d p0 q : Nat} (h : Sh s t d p0) (hq : p0 ≤ q) : rangedP t (q + d) = rangedP s q := by
  unfold rangedP
  have e1 : q + d + 1 = q + 1 + d := by omega
  rw [h.stands hq, e1, h.stands (by omega), h.size]
  congr 2
  rw [decide_eq_decide]; omega
theorem itemP_sh {s t : ByteArray} {d p0 p : Nat} (h : Sh s t d p0) (hp : p0 ≤ p) (hps : p ≤ s.size) (perl : Bool) (fr fr' : Int) : ItemSame d (itemP s p perl fr) (itemP t (p + d) perl fr') := by
  unfold itemP
  rw [namedP_sh h hp]
  cases hn : namedP s p with
  | some k =>
    have hk := namedP_q hps hn
    simp only [Option.map_some]
    have e1 : p + d + 2 = p + 2 + d := by omega
    have e2 : k + d - (p + 2 + d) = k - (p + 2) := by omega
    rw [e1, h.drop (p + 2) (by omega), e2]
    split
    · rfl
    · exact ⟨rfl, by omega⟩
  | none =>
    simp only [Option.map_none]
    by_cases hz : s.size ≤ p
    · rw [if_pos hz, if_pos (show t.size ≤ p + d by rw [h.size]; omega)]; rfl
    rw [if_neg hz, if_neg (show ¬ t.size ≤ p + d by rw [h.size]; omega)]
    have h1 := oneP_sh h hp perl
    have hq := oneP_q s p perl (by omega)
    cases ho : oneP s p perl with
    | wrong e f t' =>
      rw [ho] at h1
      cases ho2 : oneP t (p + d) perl with
      | wrong e2 f2 t2 => rw [ho2] at h1; exact h1
      | lit _ _ _ _ => rw [ho2] at h1; exact h1.elim
      | set _ _ => rw [ho2] at h1; exact h1.elim
    | set f q =>
      rw [ho] at h1 hq
      obtain ⟨Q, rfl, _, _⟩ := hq
      cases ho2 : oneP t (p + d) perl with
      | wrong e2 f2 t2 => rw [ho2] at h1; exact h1.elim
      | lit _ _ _ _ => rw [ho2] at h1; exact h1.elim
      | set f2 q2 =>
        rw [ho2] at h1
        obtain ⟨rfl, rfl⟩ := h1
        exact ⟨rfl, by omega⟩
    | lit k r a q =>
      rw [ho] at h1 hq
      obtain ⟨Q, rfl, hq1, hq2⟩ := hq
      cases ho2 : oneP t (p + d) perl with
      | wrong e2 f2 t2 => rw [ho2] at h1; exact h1.elim
      | set _ _ => rw [ho2] at h1; exact h1.elim
      | lit k2 r2 a2 q2 =>
        rw [ho2] at h1
        obtain ⟨rfl, rfl, rfl, rfl⟩ := h1
        have e3 : ((Q : Int) + (d : Int)).toNat = Q + d := by omega
        simp only [Int.toNat_natCast]
        rw [e3, rangedP_sh h (by omega)]
        by_cases hk : k2 ≠ 1
        · rw [if_pos hk, if_pos hk]; rfl
        rw [if_neg hk, if_neg hk]
        by_cases hr : rangedP s Q = true
        · rw [if_pos hr, if_pos hr]
          have hl : Q + 1 < s.size := by
            unfold rangedP at hr
            simp only [Bool.and_eq_true, decide_eq_true_eq] at hr
            exact hr.1.2
          have e4 : Q + d + 1 = Q + 1 + d := by omega
          rw [e4]
          have h2 := oneP_sh h (show p0 ≤ Q + 1 by omega) perl
          have hq' := oneP_q s (Q + 1) perl hl
          cases hp1 : oneP s (Q + 1) perl with
          | wrong e f t' =>
            rw [hp1] at h2
            cases hp2 : oneP t (Q + 1 + d) perl with
            | wrong e2 f2 t2 => rw [hp2] at h2; exact h2
            | lit _ _ _ _ => rw [hp2] at h2; exact h2.elim
            | set _ _ => rw [hp2] at h2; exact h2.elim
          | set f q =>
            rw [hp1] at h2
            cases hp2 : oneP t (Q + 1 + d) perl with
            | wrong e2 f2 t2 => rw [hp2] at h2; exact h2.elim
            | lit _ _ _ _ => rw [hp2] at h2; exact h2.elim
            | set _ _ => rfl
          | lit k3 r3 a3 q3 =>
            rw [hp1] at h2 hq'
            obtain ⟨Q3, rfl, _, _⟩ := hq'
            cases hp2 : oneP t (Q + 1 + d) perl with
            | wrong e2 f2 t2 => rw [hp2] at h2; exact h2.elim
            | set _ _ => rw [hp2] at h2; exact h2.elim
            | lit k4 r4 a4 q4 =>
              rw [hp2] at h2
              obtain ⟨rfl, rfl, rfl, rfl⟩ := h2
              simp only
              by_cases hc : k4 ≠ 1 ∨ r4 < r2
              · rw [if_pos hc, if_pos hc]; rfl
              · rw [if_neg hc, if_neg hc]
                exact ⟨rfl, by omega⟩
        · rw [if_neg hr, if_neg hr]
          exact ⟨rfl, by omega⟩
theorem restP_sh {s t : ByteArray} {d p0 : Nat} (h : Sh s t d p0) (perl : Bool) (fr fr' : Int) : ∀ (n n' p : Nat) (g : Int → Bool), p0 ≤ p → p ≤ s.size → s.size + 1 - p ≤ n → s.size + 1 - p ≤ n' → ItemSame d (restP s perl fr n p g) (restP t perl fr' n' (p + d) g)
  | 0, _, p, _, _, hps, hn, _ => by omega
  | _ + 1, 0, p, _, _, hps, _, hn => by omega
  | n + 1, n' + 1, p, g, hp, hps, hn, hn' => by
    unfold restP
    rw [h.stands hp]
    by_cases c : stands s p [93] = true
    · rw [if_pos c, if_pos c]
      exact ⟨rfl, by omega⟩
    rw [if_neg c, if_neg c]
    have h1 := itemP_sh h hp hps perl fr fr'
    cases hi : itemP s p perl fr with
    | wrong e f t' =>
      rw [hi] at h1
      cases hi2 : itemP t (p + d) perl fr' with
      | wrong _ _ _ => rw [hi2] at h1; exact h1
      | ok _ _ => rw [hi2] at h1; exact h1.elim
    | ok f q =>
      rw [hi] at h1
      have hq := itemP_q hps hi
      cases hi2 : itemP t (p + d) perl fr' with
      | wrong _ _ _ => rw [hi2] at h1; exact h1.elim
      | ok f2 q2 =>
        rw [hi2] at h1
        obtain ⟨rfl, rfl⟩ := h1
        exact restP_sh h perl fr fr' n n' q _ (by omega) hq.2 (by omega) (by omega)
end Go.Proofs.YtnafemcholkmlaaGreatDoor

namespace Go.Proofs.YtnafemcholkmlaaGreatDoor
open Go Go.RowKit Go.Proofs

/-- Is a flag set? -/
def onB (f c : Int) : Bool := bits BinOp.and IntKind.i64 f c != 0
theorem wrap_zero (x : BitVec 64) : (IntKind.i64.wrap x.toNat != 0) = (x != 0#64) := by
  rw [Bool.eq_iff_iff, bne_iff_ne, bne_iff_ne, IntKind.wrap_i64]
  have h := x.isLt
  constructor
  · intro h1 h2
    subst h2
    exact h1 (by decide)
  · intro h1 h2
    apply h1
    apply BitVec.eq_of_toNat_eq
    have : (0#64 : BitVec 64).toNat = 0 := rfl
    omega
theorem ofInt_wrap (x : BitVec 64) : BitVec.ofInt 64 (IntKind.i64.wrap x.toNat) = x := by
  apply BitVec.eq_of_toNat_eq
  rw [BitVec.toNat_ofInt, IntKind.wrap_i64]
  have h := x.isLt
  omega
theorem onB_eq (f c : Int) : onB f c = (BitVec.ofInt 64 f &&& BitVec.ofInt 64 c != 0#64) := by
  unfold onB bits
  exact wrap_zero _
theorem ofInt_or (f c : Int) : BitVec.ofInt 64 (bits BinOp.or IntKind.i64 f c) = BitVec.ofInt 64 f ||| BitVec.ofInt 64 c := by
  unfold bits
  exact ofInt_wrap _
theorem onB_or_other (f : Int) : onB (bits BinOp.or IntKind.i64 f 1) 32 = onB f 32 := by
  rw [onB_eq, onB_eq, ofInt_or, BitVec.and_or_distrib_right]
  rw [show (BitVec.ofInt 64 1 &&& BitVec.ofInt 64 32 : BitVec 64) = 0#64 by decide, BitVec.or_zero]
theorem onB_or_same (f : Int) : onB (bits BinOp.or IntKind.i64 f 1) 1 = true := by
  rw [onB_eq, ofInt_or, bne_iff_ne]
  intro h
  have := congrArg (fun x : BitVec 64 => x.getLsbD 0) h
  simp only [BitVec.getLsbD_and, BitVec.getLsbD_or] at this
  rw [show (BitVec.ofInt 64 1 : BitVec 64).getLsbD 0 = true by decide, show (0#64 : BitVec 64).getLsbD 0 = false by decide] at this
  simp at this
end Go.Proofs.YtnafemcholkmlaaGreatDoor

namespace Go.Proofs.YtnafemcholkmlaaGreatDoor
open Go Go.RowKit Go.Proofs Go.Shelf

set_option maxRecDepth 100000 in
set_option maxHeartbeats 4000000 in
theorem ref02_Same (l : List (Int × Int)) (sa sb : Option Addr) (ca cb B : Nat) (w : World) (ha : RangesV w B l sa l.length ca) (hb : RangesV w B l sb l.length cb) (hB : B ≤ w.heap.size) :
    Calls Tryz.prog 10 #[.slice sa l.length ca, .slice sb l.length cb] w fun e w' => e = .returned (.bool true) ∧ Below w.heap.size w w' := by
  have hl := ha.2.1.2
  have HA := Lib.hid ha; have HB := Lib.hid hb
  clear ha hb
  go_enter Tryz.func10, Tryz.ntmps10
  go_wp2_with fail
  go_loopw [5] (fun iv wr => ∃ i : Nat, i ≤ l.length ∧ iv = .int .i64 i ∧ Below w.heap.size w wr) (fun iv _ => l.length - (intOf iv).toNat)
  case atStart => exact ⟨0, Nat.zero_le _, rfl, Below.refl _ _⟩
  case round =>
    obtain ⟨i, hi, rfl, hbl⟩ := hrel
    have HBL := Lib.hid hbl
    clear hbl
    by_cases hlt : i < l.length
    · obtain ⟨b1, o1, rfl, hb1, r1⟩ := HA.out.2.2.resolve_left (by omega)
      obtain ⟨b2, o2, rfl, hb2, r2⟩ := HB.out.2.2.resolve_left (by omega)
      obtain ⟨p1, p2⟩ := (r1.below (HBL.out.mono hB) hb1).get i hlt
      obtain ⟨q1, q2⟩ := (r2.below (HBL.out.mono hB) hb2).get i hlt
      obtain ⟨lo, hlo⟩ : ∃ lo, l[i].1 = lo := ⟨_, rfl⟩
      obtain ⟨hx, hhx⟩ : ∃ hx, l[i].2 = hx := ⟨_, rfl⟩
      rw [hlo] at p1 q1; rw [hhx] at p2 q2
      clear hlo hhx r1 r2
      have hlt' : (i : Int) < (l.length : Int) := by omega
      have hwi : IntKind.i64.wrap ((i : Int) + 1) = (i : Int) + 1 := by rw [IntKind.wrap_i64]; omega
      go_wp2_with fail
      go_quiet (fail)
      go_wp2_with fail
      go_roundw
      case rel => exact ⟨i + 1, hlt, by go_num, below_drewN HBL.out nq⟩
      case measure => simp [intOf]; omega
    · obtain rfl : i = l.length := by omega
      go_wp2_with fail
      go_ret
      exact ⟨rfl, HBL.out⟩
end Go.Proofs.YtnafemcholkmlaaGreatDoor

namespace Go.Proofs.YtnafemcholkmlaaGreatDoor
open Go Go.RowKit Go.Proofs Go.Shelf

/-- A list of runes rises. -/
def Rising (xs : List Int) : Prop := ∀ i x y, xs[i]? = some x → xs[i + 1]? = some y → x < y
theorem cell_one_at (w : World) (n : Nat) (hn : w.heap.size = n) (x : Value) (t : TypeId) : ∀ j u, [x][j]? = some u → (w.alloc (.cells #[x] t)).cell? ((⟨n, 0, none⟩ : Addr).add j) = some u := by
  subst hn; exact cell_one_new w x t
theorem lies_own {W : World} {base : Nat} {g n cap : Nat} {L : List Int} (h : W.ownsRow base 21 1 (.slice (some ⟨g, 0, none⟩) n cap) n (vR L)) (hn : n = L.length) :
    ∀ j u, (vR L)[j]? = some u → W.cell? ((⟨g, 0, none⟩ : Addr).add j) = some u := by
  intro j u hu
  rw [add_at, Nat.zero_add]
  have hj : j < (vR L).length := (List.getElem?_eq_some_iff.1 hu).1
  rw [vR_len] at hj
  rw [h.cellAt j (by omega)]
  exact hu

set_option maxRecDepth 100000 in
set_option maxHeartbeats 8000000 in
theorem ref03_sorted (xs : List Int) (bx c : Nat) (w : World) (hc : ∀ k (h : k < xs.length), w.cell? ⟨bx, k, none⟩ = some (.int .i32 xs[k])) (hb : bx < w.heap.size) (hn : xs.length ≤ 1000) (hr : Rising xs) :
    Calls Tryz.prog 27 #[.slice (some ⟨bx, 0, none⟩) xs.length c] w fun e w' => ∃ v, e = .returned v ∧ OwnR w' w.heap.size v xs ∧ Below w.heap.size w w' := by
  obtain ⟨i0, hi, hz0, hz1, hz2⟩ := info_parts infoI32
  have HC := Lib.hid hc; have HB := Lib.hid hb; have HR := Lib.hid hr
  clear hc hb hr
  go_enter Tryz.func27, Tryz.ntmps27
  go_wp2_with fail
  go_loopw [3, 4] (fun v iv wr => ∃ k : Nat, k ≤ xs.length ∧ iv = .int .i64 k ∧ OwnR wr w.heap.size v (xs.take k) ∧ (k = 0 → v = .slice none 0 0) ∧ Below w.heap.size w wr) (fun _ iv _ => xs.length - (intOf iv).toNat)
  case atStart => exact ⟨0, Nat.zero_le _, rfl, World.ownsRow_nil _ _ _ _, fun _ => rfl, Below.refl _ _⟩
  case round =>
    obtain ⟨k, hk, rfl, ho, hv0, hbw⟩ := hrel
    have hko : (xs.take k).length = k := by rw [List.length_take]; omega
    by_cases hlt : k < xs.length
    · have gk := cell_lift hbw HB.out (HC.out k hlt)
      obtain ⟨y, hy⟩ : ∃ y, xs[k] = y := ⟨_, rfl⟩
      rw [hy] at gk
      have HY := Lib.hid (show xs.take (k + 1) = xs.take k ++ [y] by rw [List.take_succ_eq_append_getElem hlt, hy])
      have HYK := Lib.hid (show xs[k]? = some y by rw [List.getElem?_eq_getElem hlt, hy])
      clear hy
      rcases Nat.eq_zero_or_pos k with hk0 | hpos
      · subst hk0
        obtain rfl := hv0 rfl
        have HO := Lib.hid ho; have HW := Lib.hid hbw
        clear ho hbw hv0 hko
        rw [show ((0 : Nat) : Int) = 0 from rfl]
        have g0 : wr.cell? ⟨bx, 0, none⟩ = some (.int .i32 y) := gk
        clear gk
        have hlt0 : (0 : Int) < (xs.length : Int) := by omega
        go_wp2_with fail
        go_loopw [5] (fun av W => av = .int .i64 0 ∧ W = wr) (fun _ _ => 0)
        case atStart => exact ⟨rfl, rfl⟩
        case round =>
          obtain ⟨rfl, hWr⟩ := hrel
          subst hWr
          go_wp2_with fail
          go_quiet (fail)
          obtain ⟨W3, hW3⟩ : ∃ W3, W3 = wr.drewN nq := ⟨_, rfl⟩
          have h3 : W3.cell? ⟨bx, 0, none⟩ = some (.int .i32 y) := by rw [hW3]; exact g0
          have B3 := Lib.hid (show Below w.heap.size w W3 by rw [hW3]; exact below_drewN HW.out nq)
          rw [← hW3]
          clear hW3 g0
          have hz3 := B3.out.size
          have hbl : bx < W3.heap.size := by have := HB.out; omega
          have h3a := cell_lift ((Below.refl W3.heap.size W3).alloc (Nat.le_refl _) (.cells #[] 21)) hbl h3
          have HE := Lib.hid (World.ownsRow_made (base := w.heap.size) (e := 21) (size := 1) W3 #[] 0 hz3 (Nat.zero_le _) rfl)
          go_upto_region 10 with (at_builtin; (refine wpList_append_own_at _ rfl _ _ 33 rfl w.heap.size 21 i0 (.int .i32 0) 1 4 Tryz.underlying33 hi hz0 hz1 hz2 rfl (by decide) (.slice (some ⟨W3.heap.size, 0, none⟩) 0 0) 0 [] rfl ((HE.out).alloc (.cells #[.int .i32 y] 21)) ⟨W3.heap.size + 1, 0, none⟩ 1 1 [.int .i32 y] rfl rfl (cell_one_at _ _ (by simp) _ _) (by intro u hu; rw [List.mem_singleton] at hu; subst hu; rfl) (by unfold maxLen; omega) (by omega) (by simp; omega) ?_; intro v4 w4 hown4 hgrow4 hnil4 hat4))
          go_wp2_with (at_builtin; refine wpList_append_own_none rfl _ _ 33 rfl w.heap.size 21 i0 1 Tryz.underlying33 hi _ _ _ rfl hown4 rfl ?_)
          go_roundw
          case rel =>
            refine ⟨1, by omega, by go_num, ?_, fun h => by omega, ((B3.out.alloc hz3 _).alloc (by simp; omega) _).grown hgrow4 (by simp; omega) (fun j hj => ((HE.out.alloc (.cells #[.int .i32 y] 21)).lt j hj).1)⟩
            have e1 := HY.out
            simp only [Nat.zero_add, List.take_zero, List.nil_append] at e1
            unfold OwnR
            rw [e1]
            exact hown4
          case measure => simp [intOf]; omega
      · obtain ⟨g, cap, rfl, hgB, hgl⟩ := World.ownsRow.form ho (by rw [hko]; exact hpos)
        obtain ⟨m, rfl⟩ : ∃ m, k = m + 1 := ⟨k - 1, by omega⟩
        have hcapk : m + 1 ≤ cap ∧ cap ≤ 9223372036854775807 := by
          rcases ho.2 with ⟨e, _⟩ | ⟨g', cap', cur, e, _, _, h, h2, _⟩
          · cases e
          · cases e; unfold maxLen at h2; rw [hko] at h; exact ⟨h, h2⟩
        unfold OwnR at ho
        rw [hko] at ho ⊢
        have hmx : m < xs.length := by omega
        have gz := ho.cellAt m (by omega)
        have hzt : (vR (xs.take (m + 1)))[m]? = some (.int .i32 xs[m]) := by unfold vR; rw [List.getElem?_map, List.getElem?_take_of_lt (by omega), List.getElem?_eq_getElem hmx]; rfl
        rw [hzt] at gz
        obtain ⟨z, hz⟩ : ∃ z, xs[m] = z := ⟨_, rfl⟩
        rw [hz] at gz
        have hzy : z < y := HR.out m z y (by rw [List.getElem?_eq_getElem hmx, hz]) HYK.out
        have hyz : decide (y < z) = false := decide_eq_false (by omega)
        have HO := Lib.hid ho; have HW := Lib.hid hbw; have HGB := Lib.hid (And.intro hgB hgl)
        have hlti : ((m + 1 : Nat) : Int) < (xs.length : Int) := by omega
        clear ho hbw hv0 hz hzt hgB hgl
        go_wp2_with fail
        go_loopw [5] (fun av W => av = .int .i64 ((m + 1 : Nat) : Int) ∧ W = wr) (fun _ _ => 0)
        case atStart => exact ⟨by first | rfl | simp, rfl⟩
        case round =>
          obtain ⟨rfl, hWr⟩ := hrel
          subst hWr
          have d0 : decide ((0 : Int) < (m : Int) + 1) = true := decide_eq_true (by omega)
          have d1 : (0 : Int) ≤ (m : Int) + 1 := by omega
          have d2 : (0 : Int) ≤ (m : Int) := by omega
          have d3 : (m : Int) < (m : Int) + 1 := by omega
          have d4 : ((m : Int) + 1).toNat = m + 1 := by omega
          have d5 : IntKind.i64.wrap (m : Int) = (m : Int) := IntWalk.i64_in _ (by omega)
          have d6 : (m : Int) + 1 < (xs.length : Int) := by omega
          go_wp2_with fail
          go_quiet (fail)
          obtain ⟨W3, hW3⟩ : ∃ W3, W3 = wr.drewN nq := ⟨_, rfl⟩
          have h3 : W3.cell? ⟨bx, m + 1, none⟩ = some (.int .i32 y) := by rw [hW3]; exact gk
          have B3 := Lib.hid (show Below w.heap.size w W3 by rw [hW3]; exact below_drewN HW.out nq)
          have O3 := Lib.hid (show W3.ownsRow w.heap.size 21 1 (.slice (some ⟨g, 0, none⟩) (m + 1) cap) (m + 1) (vR (xs.take (m + 1))) by rw [hW3]; exact HO.out.kept (grownBy_drewN _ nq none) (by simp [Value.ownBlock]))
          rw [← hW3]
          clear hW3 gk gz
          have hz3 := B3.out.size
          have hbl : bx < W3.heap.size := by have := HB.out; omega
          have hg3 : g < W3.heap.size := (O3.out.lt g rfl).2
          have hcp := hcapk.1
          have hcp2 := hcapk.2
          have HE := Lib.hid (World.ownsRow_made (base := w.heap.size) (e := 21) (size := 1) W3 #[] 0 hz3 (Nat.zero_le _) rfl)
          have hci : ((m : Int) + 1) ≤ (cap : Int) := by omega
          go_upto_region 9 with (at_builtin; (refine wpList_append_own_at _ rfl _ _ 33 rfl w.heap.size 21 i0 (.int .i32 0) 1 4 Tryz.underlying33 hi hz0 hz1 hz2 rfl (by decide) (.slice (some ⟨W3.heap.size, 0, none⟩) 0 0) 0 [] rfl HE.out ⟨g, 0, none⟩ (m + 1) cap (vR (xs.take (m + 1))) rfl (by rw [vR_len, hko]; omega) (lies_own (World.ownsRow.alloc O3.out (.cells #[] 21)) hko.symm) (vR_one _) (by unfold maxLen; omega) (by omega) (by simp; omega) ?_; intro v4 w4 hown4 hgrow4 hnil4 hat4))
          have hq4 := Lib.hid (show v4.ownBlock ≠ some g by
            rcases hat4 with h | h
            · rw [h]; intro e; have e2 : W3.heap.size = g := Option.some.inj e; omega
            · rw [h]; intro e; have e2 := Option.some.inj e; simp at e2; omega)
          have B4 := Lib.hid (((B3.out.alloc hz3 (.cells #[] 21))).grown hgrow4 (by simp; omega) (fun j hj => (HE.out.lt j hj).1))
          have h4 := cell_lift (below_next (Below.refl W3.heap.size W3 |>.alloc (Nat.le_refl _) (.cells #[] 21)) (Nat.le_refl _) hgrow4 (fun j hj => by have e2 : W3.heap.size = j := Option.some.inj hj; omega)) hbl h3
          have O4 := Lib.hid ((World.ownsRow.alloc O3.out (.cells #[] 21)).kept hgrow4 (.inr (by intro e; have e2 : g = W3.heap.size := Option.some.inj e; omega)))
          have hz4 := hgrow4.size
          have hz40 : w.heap.size ≤ w4.heap.size := by simp at hz4; omega
          have HW4 := Lib.hid hown4
          clear hnil4 hat4 hgrow4 h3
          go_upto_region 10 with (at_builtin; (refine wpList_append_own_at _ rfl _ _ 33 rfl w.heap.size 21 i0 (.int .i32 0) 1 4 Tryz.underlying33 hi hz0 hz1 hz2 rfl (by decide) v4 (0 + (m + 1)) ([] ++ vR (xs.take (m + 1))) rfl (HW4.out.alloc (.cells #[.int .i32 y] 21)) ⟨w4.heap.size, 0, none⟩ 1 1 [.int .i32 y] rfl rfl (cell_one_at _ _ rfl _ _) (by intro u hu; rw [List.mem_singleton] at hu; subst hu; rfl) (by unfold maxLen; omega) (by omega) (by simp; omega) ?_; intro v5 w5 hown5 hgrow5 hnil5 hat5))
          have B5 := Lib.hid ((B4.out.alloc hz40 (.cells #[.int .i32 y] 21)).grown hgrow5 (by simp; omega) (fun j hj => (HW4.out.lt j hj).1))
          have hz5 := hgrow5.size
          have hz50 : w.heap.size ≤ w5.heap.size := by simp at hz5; omega
          have HW5 := Lib.hid hown5
          have D5 := Lib.hid d5
          clear hnil5 hat5 hgrow5 hown4 hown5 d5 h4
          rcases Nat.lt_or_ge (m + 1) cap with hvc | hvc
          · have hvn1 : ¬ cap = m + 1 := by omega
            have hvn2 : ¬ m + 1 = cap := by omega
            go_wp2_with (at_builtin; refine wpList_append_own_at _ rfl _ _ 33 rfl w.heap.size 21 i0 (.int .i32 0) 1 4 Tryz.underlying33 hi hz0 hz1 hz2 rfl (by decide) v5 (0 + (m + 1) + 1) ([] ++ vR (xs.take (m + 1)) ++ [.int .i32 y]) rfl HW5.out ⟨g, m + 1, none⟩ 0 (cap - (m + 1)) [] rfl rfl (fun j u h => by simp at h) (fun u h => by simp at h) (by unfold maxLen; omega) (by omega) hz50 ?_; intro v6 w6 hown6 hgrow6 hnil6)
            intro hat6
            clear hat6 hnil6
            go_wp2_with fail
            go_roundw
            case rel =>
              refine ⟨m + 1 + 1, by omega, by go_num, ?_, fun h => by omega, B5.out.grown hgrow6 hz50 (fun j hj => (HW5.out.lt j hj).1)⟩
              have e1 := HY.out
              unfold OwnR
              refine own_congr hown6 (by rw [List.length_take]; omega) ?_
              rw [e1]
              simp [vR]
            case measure => simp [intOf]; omega
          · obtain rfl : cap = m + 1 := by omega
            go_wp2_with (at_builtin; refine wpList_append_own_at _ rfl _ _ 33 rfl w.heap.size 21 i0 (.int .i32 0) 1 4 Tryz.underlying33 hi hz0 hz1 hz2 rfl (by decide) v5 (0 + (m + 1) + 1) ([] ++ vR (xs.take (m + 1)) ++ [.int .i32 y]) rfl HW5.out ⟨g, 0, none⟩ 0 0 [] rfl rfl (fun j u h => by simp at h) (fun u h => by simp at h) (by unfold maxLen; omega) (by omega) hz50 ?_; intro v6 w6 hown6 hgrow6 hnil6)
            intro hat6
            clear hat6 hnil6
            go_wp2_with fail
            go_roundw
            case rel =>
              refine ⟨m + 1 + 1, by omega, by go_num, ?_, fun h => by omega, B5.out.grown hgrow6 hz50 (fun j hj => (HW5.out.lt j hj).1)⟩
              have e1 := HY.out
              unfold OwnR
              refine own_congr hown6 (by rw [List.length_take]; omega) ?_
              rw [e1]
              simp [vR]
            case measure => simp [intOf]; omega
    · obtain rfl : k = xs.length := by omega
      have HO := Lib.hid ho; have HW := Lib.hid hbw
      clear ho hbw hv0
      go_wp2_with fail
      go_ret
      exact ⟨_, rfl, by have := HO.out; rw [List.take_length] at this; exact this, HW.out⟩
end Go.Proofs.YtnafemcholkmlaaGreatDoor

namespace Go.Proofs.YtnafemcholkmlaaGreatDoor
open Go Go.RowKit Go.Proofs Go.Shelf

def greatL : List (Int × Int) := [(65, 90), (192, 214), (216, 222), (913, 929), (932, 937), (1040, 1071)]
theorem greatB_has (c : Int) (h1 : c ≠ 75) (h2 : c ≠ 83) (h3 : c ≠ 197) (h4 : c ≠ 924) : greatB c = hasB greatL c := by
  unfold greatB hasB greatL
  have e : (c == 75 || c == 83 || c == 197 || c == 924) = false := by simp [h1, h2, h3, h4]
  rw [e, Bool.eq_iff_iff]
  simp only [Bool.and_eq_true, Bool.or_eq_true, decide_eq_true_eq, memR, List.any_cons, List.any_nil, Bool.or_false, Bool.not_false, true_and]
  omega
/-- What great hands back. -/
def GreatOut (c : Int) (w : World) (e : Ending) (w' : World) : Prop := e = .returned (.bool (greatB c)) ∧ Below w.heap.size w w'
set_option maxRecDepth 100000 in
set_option maxHeartbeats 2000000 in
theorem ref03_great (c : Int) (w : World) : Calls Tryz.prog 28 #[.int .i32 c] w (GreatOut c w) := by
  by_cases h1 : c = 75
  · subst h1
    go_enter Tryz.func28, Tryz.ntmps28
    go_wp2_with fail
    go_ret
    exact ⟨rfl, Below.refl _ _⟩
  by_cases h2 : c = 83
  · subst h2
    go_enter Tryz.func28, Tryz.ntmps28
    go_wp2_with fail
    go_ret
    exact ⟨rfl, Below.refl _ _⟩
  by_cases h3 : c = 197
  · subst h3
    go_enter Tryz.func28, Tryz.ntmps28
    go_wp2_with fail
    go_ret
    exact ⟨rfl, Below.refl _ _⟩
  by_cases h4 : c = 924
  · subst h4
    go_enter Tryz.func28, Tryz.ntmps28
    go_wp2_with fail
    go_ret
    exact ⟨rfl, Below.refl _ _⟩
  have hG := Lib.hid (greatB_has c h1 h2 h3 h4)
  have e1 : (c == 75) = false := by simpa using h1
  have e2 : (c == 83) = false := by simpa using h2
  have e3 : (c == 197) = false := by simpa using h3
  have e4 : (c == 924) = false := by simpa using h4
  have hr : RangesAt (w.alloc (.cells (flatR greatL).toArray 71)) greatL w.heap.size 0 := RangesAt.of_cells _ 0 fun j hj => ⟨by rw [Nat.zero_add]; exact (Blk.new w (flatR greatL) 71).cell (flatR_get _ j hj).1, by rw [Nat.zero_add]; exact (Blk.new w (flatR greatL) 71).cell (flatR_get _ j hj).2⟩
  have HS := Lib.hid (show Calls Tryz.prog 45 #[.slice (some ⟨w.heap.size, 0, none⟩) 6 6] (w.alloc (.cells (flatR greatL).toArray 71)) _ from ref03_set greatL w.heap.size 6 _ hr (by simp) (by decide))
  clear hr h1 h2 h3 h4
  go_enter Tryz.func28, Tryz.ntmps28
  go_wp2_with fail
  refine (HS.out).mono ?_
  rintro e w1 ⟨v, rfl, hL, hB⟩
  obtain ⟨sa, sc, rfl, hr1, _⟩ := hL.ranges (by decide)
  have R1 := Lib.hid hr1
  have B1 := Lib.hid (((Below.refl w.heap.size w).alloc (Nat.le_refl _) (.cells (flatR greatL).toArray 71)).trans (hB.mono (by simp)))
  clear hL hr1 hB
  go_wp2_with fail
  refine (ref02_Has greatL sa sc _ c w1 R1.out).mono ?_
  rintro e w2 ⟨rfl, rfl⟩
  go_wp2_with fail
  go_ret
  exact ⟨by rw [hG.out]; rfl, B1.out⟩

/-- The groups, laid from a block on. -/
structure GroupsAt (W : World) (b : Nat) : Prop where
  rows : ∀ i (h : i < groupsL.length), Blk W (b + i) (vR groupsL[i]) 21
  top : Blk W (b + 7) [.slice (some ⟨b, 0, none⟩) 3 3, .slice (some ⟨b + 1, 0, none⟩) 3 3, .slice (some ⟨b + 2, 0, none⟩) 3 3, .slice (some ⟨b + 3, 0, none⟩) 3 3, .slice (some ⟨b + 4, 0, none⟩) 3 3, .slice (some ⟨b + 5, 0, none⟩) 2 2, .slice (some ⟨b + 6, 0, none⟩) 2 2] 33
theorem Blk.newAt (W : World) (n : Nat) (h : W.heap.size = n) (cs : List Value) (t : TypeId) : Blk (W.alloc (.cells cs.toArray t)) n cs t := h ▸ Blk.new W cs t
set_option maxRecDepth 100000 in
theorem ref03_groups (w : World) : Calls Tryz.prog 26 #[] w fun e w' => e = .returned (.slice (some ⟨w.heap.size + 7, 0, none⟩) 7 7) ∧ GroupsAt w' w.heap.size ∧ Below w.heap.size w w' := by
  go_enter Tryz.func26, Tryz.ntmps26
  go_wp2_with fail
  go_ret
  refine ⟨rfl, ⟨?_, ?_⟩, ?_⟩
  · intro i hi
    have h7 : i < 7 := hi
    rcases (show i = 0 ∨ i = 1 ∨ i = 2 ∨ i = 3 ∨ i = 4 ∨ i = 5 ∨ i = 6 by omega) with rfl | rfl | rfl | rfl | rfl | rfl | rfl
    all_goals repeat (first | (exact Blk.newAt _ _ (by simp only [World.size_alloc]; done) _ _) | (exact Blk.newAt _ _ rfl _ _) | refine Blk.alloc ?_ _)
  · exact Blk.newAt _ _ (by simp only [World.size_alloc]) _ _
  · exact ((((((((Below.refl _ w).alloc (Nat.le_refl _) _).alloc (by simp) _).alloc (by simp; omega) _).alloc (by simp; omega) _).alloc (by simp; omega) _).alloc (by simp; omega) _).alloc (by simp; omega) _).alloc (by simp; omega) _

theorem rising_of {xs : List Int} (h : xs.Pairwise (· < ·)) : Rising xs := by
  intro i x y hx hy
  obtain ⟨h1, e1⟩ := List.getElem?_eq_some_iff.1 hx
  obtain ⟨h2, e2⟩ := List.getElem?_eq_some_iff.1 hy
  rw [← e1, ← e2]
  exact List.pairwise_iff_getElem.1 h i (i + 1) h1 h2 (by omega)
theorem groups_rise : ∀ l ∈ groupsL, l.Pairwise (· < ·) ∧ l.length ≤ 3 := by decide
theorem GroupsAt.look {W : World} {b i : Nat} (h : GroupsAt W b) (l : List Int) (hl : groupsL[i]? = some l) : W.cell? ⟨b + 7, i, none⟩ = some (.slice (some ⟨b + i, 0, none⟩) l.length l.length) ∧ Blk W (b + i) (vR l) 21 := by
  obtain ⟨hi, e⟩ := List.getElem?_eq_some_iff.1 hl
  have hb := h.rows i hi
  rw [e] at hb
  refine ⟨?_, hb⟩
  have h7 : i < 7 := hi
  refine Blk.cell h.top ?_
  rcases (show i = 0 ∨ i = 1 ∨ i = 2 ∨ i = 3 ∨ i = 4 ∨ i = 5 ∨ i = 6 by omega) with rfl | rfl | rfl | rfl | rfl | rfl | rfl
  all_goals (cases e; rfl)
/-- What the document's Orbit hands back. -/
def ROrbOut (c : Int) (w : World) (e : Ending) (w' : World) : Prop := ∃ v, e = .returned v ∧ OwnR w' w.heap.size v (orbL c) ∧ Below w.heap.size w w'
theorem own_two (w : World) (B : Nat) (hB : B ≤ w.heap.size) (x y : Int) : OwnR (w.alloc (.cells #[.int .i32 x, .int .i32 y] 21)) B (.slice (some ⟨w.heap.size, 0, none⟩) 2 2) [x, y] := World.ownsRow_lit w #[.int .i32 x, .int .i32 y] 2 hB (by decide) rfl
theorem own_one (w : World) (B : Nat) (hB : B ≤ w.heap.size) (x : Int) : OwnR (w.alloc (.cells #[.int .i32 x] 21)) B (.slice (some ⟨w.heap.size, 0, none⟩) 1 1) [x] := World.ownsRow_lit w #[.int .i32 x] 1 hB (by decide) rfl
set_option maxRecDepth 100000 in
set_option maxHeartbeats 4000000 in
theorem ref03_Orbit (c : Int) (w : World) (h0 : 0 ≤ c) (h1 : c ≤ 1114111) : Calls Tryz.prog 12 #[.int .i32 c] w (ROrbOut c w) := by
  have n0 : ¬ c < 0 := by omega
  have n1 : ¬ 1114111 < c := by omega
  go_enter Tryz.func12, Tryz.ntmps12
  go_wp2_with fail
  refine (ref03_groups w).mono ?_
  rintro e w1 ⟨rfl, hg, hB⟩
  have HG := Lib.hid hg; have HB := Lib.hid hB; clear hg hB
  go_wp2_with fail
  go_loop [4] (fun iv => ∃ i : Nat, i ≤ 7 ∧ iv = .int .i64 i ∧ ∀ j l, j < i → groupsL[j]? = some l → l.contains c = false) (fun iv => 7 - (intOf iv).toNat)
  case atStart => exact ⟨0, by omega, rfl, fun j l h => by omega⟩
  case round =>
    obtain ⟨i, hi, rfl, hno⟩ := hrel
    have HNO := Lib.hid hno; clear hno
    by_cases hi7 : i < 7
    case neg =>
      obtain rfl : i = 7 := by omega
      have hfind : groupsL.find? (·.contains c) = none := by
        rw [List.find?_eq_none]
        intro l hl
        obtain ⟨j, hj⟩ := List.mem_iff_getElem?.1 hl
        have hj7 : j < 7 := (List.getElem?_eq_some_iff.1 hj).1
        rw [HNO.out j l hj7 hj]; simp
      have HF := Lib.hid hfind; clear hfind
      go_wp2_with fail
      refine (ref03_great c w1).mono ?_
      rintro e w2 ⟨rfl, hB2⟩
      have B2 := Lib.hid (HB.out.trans (hB2.mono HB.out.size)); clear hB2
      cases hgc : greatB c with
      | true =>
        have HGC := Lib.hid hgc; clear hgc
        go_wp2_with fail
        go_ret
        refine ⟨_, rfl, ?_, B2.out.alloc B2.out.size _⟩
        rw [show orbL c = [c, c + 32] by unfold orbL; rw [HF.out, HGC.out]; rfl]
        exact own_two w2 _ B2.out.size c (c + 32)
      | false =>
        have HGC := Lib.hid hgc; clear hgc
        by_cases h32 : 32 ≤ c
        · have d32 : decide (32 ≤ c) = true := decide_eq_true h32
          go_wp2_with fail
          refine (ref03_great (c - 32) w2).mono ?_
          rintro e w3 ⟨rfl, hB3⟩
          have B3 := Lib.hid (B2.out.trans (hB3.mono B2.out.size)); clear hB3
          cases hgd : greatB (c - 32) with
          | true =>
            have HGD := Lib.hid hgd; clear hgd
            go_wp2_with fail
            go_ret
            refine ⟨_, rfl, ?_, B3.out.alloc B3.out.size _⟩
            rw [show orbL c = [c - 32, c] by unfold orbL; rw [HF.out, HGC.out, HGD.out]; simp [h32]]
            exact own_two w3 _ B3.out.size (c - 32) c
          | false =>
            have HGD := Lib.hid hgd; clear hgd
            go_wp2_with fail
            go_ret
            refine ⟨_, rfl, ?_, B3.out.alloc B3.out.size _⟩
            rw [show orbL c = [c] by unfold orbL; rw [HF.out, HGC.out, HGD.out]; simp]
            exact own_one w3 _ B3.out.size c
        · have d32 : decide (32 ≤ c) = false := decide_eq_false h32
          go_wp2_with fail
          go_ret
          refine ⟨_, rfl, ?_, B2.out.alloc B2.out.size _⟩
          rw [show orbL c = [c] by unfold orbL; rw [HF.out, HGC.out]; simp; omega]
          exact own_one w2 _ B2.out.size c
    case pos =>
      obtain ⟨l, hl⟩ : ∃ l, groupsL[i]? = some l := ⟨_, List.getElem?_eq_getElem (show i < groupsL.length from hi7)⟩
      obtain ⟨gt, gb⟩ := HG.out.look l hl
      have hlr := groups_rise l (List.mem_of_getElem? hl)
      have hl3 := hlr.2
      have HLR := Lib.hid hlr.1; have HL := Lib.hid hl; have GB := Lib.hid gb
      clear hlr hl gb
      go_wp2_with fail
      go_loop [5] (fun kv => ∃ k : Nat, k ≤ l.length ∧ kv = .int .i64 k ∧ (l.take k).contains c = false) (fun kv => l.length - (intOf kv).toNat)
      case atStart => exact ⟨0, Nat.zero_le _, rfl, rfl⟩
      case round =>
        obtain ⟨k, hk, rfl, hm⟩ := hrel
        have HM := Lib.hid hm; clear hm
        by_cases hkl : k < l.length
        case neg =>
          obtain rfl : k = l.length := by omega
          rw [List.take_length] at HM
          go_wp2_with fail
          go_round
          case rel =>
            refine ⟨i + 1, by omega, by go_num, fun j l' hj hl' => ?_⟩
            by_cases hji : j = i
            · subst hji
              rw [HL.out] at hl'
              cases hl'
              exact HM.out
            · exact HNO.out j l' (by omega) hl'
          case measure => simp [intOf]; omega
        case pos =>
          have gk := Blk.cell GB.out (vR_get l k hkl)
          obtain ⟨x, hx⟩ : ∃ x, l[k] = x := ⟨_, rfl⟩
          rw [hx] at gk
          have HX := Lib.hid hx; clear hx
          by_cases hxc : x = c
          · subst hxc
            have e1 : (x == x) = true := by simp
            have HS := Lib.hid (ref03_sorted l (w.heap.size + i) l.length w1 (fun k h => Blk.cell GB.out (vR_get l k h)) GB.out.lt (by omega) (rising_of HLR.out))
            go_wp2_with fail
            refine (HS.out).mono ?_
            rintro e w2 ⟨v, rfl, ho, hB2⟩
            have HO := Lib.hid ho; have B2 := Lib.hid (HB.out.trans (hB2.mono HB.out.size)); clear ho hB2
            go_wp2_with fail
            go_ret
            refine ⟨v, rfl, ?_, B2.out⟩
            have hf : groupsL.find? (·.contains x) = some l := by
              rw [List.find?_eq_some_iff_getElem]
              refine ⟨by simp only [List.contains_eq_mem, decide_eq_true_eq]; rw [← HX.out]; exact List.getElem_mem hkl, i, hi7, (List.getElem?_eq_some_iff.1 HL.out).2, fun j hj => ?_⟩
              rw [HNO.out j _ hj (List.getElem?_eq_getElem (show j < groupsL.length from by have : groupsL.length = 7 := rfl; omega))]
              rfl
            rw [show orbL x = l by unfold orbL; rw [hf]]
            exact Joins.ownsRow_le HO.out HB.out.size
          · have e1 : (x == c) = false := by simpa using hxc
            go_wp2_with fail
            go_round
            case rel => exact ⟨k + 1, hkl, by go_num, take_has hkl HM.out (by rw [HX.out]; exact hxc)⟩
            case measure => simp [intOf]; omega
set_option maxHeartbeats 1000000 in
theorem ref03_Orbit_out (c : Int) (w : World) (h : c < 0 ∨ 1114111 < c) : Calls Tryz.prog 12 #[.int .i32 c] w fun e w' => e = .returned (.slice none 0 0) ∧ w' = w := by
  by_cases h0 : c < 0
  · go_enter Tryz.func12, Tryz.ntmps12
    go_wp2_with fail
    go_ret
    exact ⟨rfl, rfl⟩
  · have h1 : 1114111 < c := by omega
    go_enter Tryz.func12, Tryz.ntmps12
    go_wp2_with fail
    go_ret
    exact ⟨rfl, rfl⟩
end Go.Proofs.YtnafemcholkmlaaGreatDoor

namespace Go.Proofs.YtnafemcholkmlaaGreatDoor

structure NotInv (N : List (Int × Int)) (i : Nat) (O : List (Int × Int)) (f : Int) : Prop where
  from_ : f = if i = 0 then 0 else lastH (-2) (N.take i) + 1
  right : setRight O = true
  last : lastH (-2) O + 2 ≤ f
  top : 0 ≤ f ∧ f ≤ 1114112
  mem : ∀ c, memR O c = (decide (0 ≤ c) && decide (c < f) && !memR (N.take i) c)
  len : O.length ≤ i

theorem NotInv.nil (N : List (Int × Int)) : NotInv N 0 [] 0 := ⟨rfl, rfl, by simp [lastH], by omega, fun c => by
  have : (decide (0 ≤ c) && decide (c < 0)) = false := by rw [Bool.and_eq_false_iff, decide_eq_false_iff_not, decide_eq_false_iff_not]; omega
  simp [memR, this], Nat.le_refl _⟩

/-- A set's next range lies above what stands ahead of it. -/
theorem set_next {N : List (Int × Int)} (h : setRight N = true) {i : Nat} (hi : i < N.length) :
    setFrom (-2) (N.take i) = true ∧ lastH (-2) (N.take i) + 2 ≤ N[i].1 ∧ N[i].1 ≤ N[i].2 ∧ N[i].2 ≤ 1114111 := by
  unfold setRight at h
  rw [← List.take_append_drop (i + 1) N, take_snoc' _ _ hi] at h
  have key : ∀ (a b : List (Int × Int)) (l0 : Int), setFrom l0 (a ++ b) = true → setFrom l0 a = true := by
    intro a
    induction a with
    | nil => intro b l0 _; rfl
    | cons x a ih =>
      intro b l0 hh
      obtain ⟨p, q⟩ := x
      simp only [List.cons_append, setFrom, Bool.and_eq_true] at hh ⊢
      exact ⟨hh.1, ih b q hh.2⟩
  have h1 := key _ _ _ h
  rw [setFrom_snoc] at h1
  simp only [Bool.and_eq_true, decide_eq_true_eq] at h1
  exact ⟨h1.1, h1.2.1.1, h1.2.1.2, h1.2.2⟩

theorem not_from {N : List (Int × Int)} (hN : setRight N = true) {i : Nat} {O : List (Int × Int)} {f : Int} (h : NotInv N i O f) (hi : i < N.length) : f ≤ N[i].1 ∧ N[i].1 ≤ N[i].2 ∧ N[i].2 ≤ 1114111 ∧ 0 ≤ N[i].1 := by
  obtain ⟨h1, h2, h3, h4⟩ := set_next hN hi
  have h5 := lastH_ge h1
  have h6 := h.from_
  by_cases h0 : i = 0
  · subst h0; rw [if_pos rfl] at h6
    simp only [List.take_zero, lastH] at h2
    omega
  · rw [if_neg h0] at h6; omega

theorem lastH_take {N : List (Int × Int)} {i : Nat} (hi : i < N.length) : lastH (-2) (N.take (i + 1)) = N[i].2 := by
  rw [take_snoc' _ _ hi, lastH_snoc]

theorem not_mem_take {N : List (Int × Int)} (hN : setRight N = true) {i : Nat} (hi : i < N.length) {c : Int} (hc : N[i].1 - 1 ≤ c) : memR (N.take i) c = false := by
  obtain ⟨h1, h2, h3, h4⟩ := set_next hN hi
  have key : ∀ (a : List (Int × Int)) (l0 : Int), setFrom l0 a = true → ∀ c, lastH l0 a < c → memR a c = false := by
    intro a
    induction a with
    | nil => intro l0 _ c _; rfl
    | cons x a ih =>
      intro l0 hh c hc
      obtain ⟨p, q⟩ := x
      simp only [setFrom, Bool.and_eq_true, decide_eq_true_eq] at hh
      simp only [lastH] at hc
      have h9 := lastH_ge hh.2
      rw [memR_cons, ih q hh.2 c hc, Bool.or_false, Bool.and_eq_false_iff, decide_eq_false_iff_not, decide_eq_false_iff_not]
      dsimp only
      omega
  exact key _ _ h1 c (by omega)

theorem not_step {N : List (Int × Int)} (hN : setRight N = true) {i : Nat} {O : List (Int × Int)} {f : Int} (h : NotInv N i O f) (hi : i < N.length) (hf : f < N[i].1) : NotInv N (i + 1) (O ++ [(f, N[i].1 - 1)]) (N[i].2 + 1) := by
  obtain ⟨g1, g2, g3, g4⟩ := not_from hN h hi
  refine ⟨by rw [if_neg (by omega), lastH_take hi], ?_, by rw [lastH_snoc]; dsimp only; omega, by omega, fun c => ?_, by have := h.len; simp; omega⟩
  · unfold setRight
    rw [setFrom_snoc, show setFrom (-2) O = true from h.right]
    simp only [Bool.true_and, Bool.and_eq_true, decide_eq_true_eq]
    have := h.last
    have := h.top
    omega
  · rw [memR_append, h.mem, memR_one, take_snoc' _ _ hi, memR_append, memR_one]
    dsimp only
    have ht := h.top
    by_cases hc : c < f
    · have e1 : (decide (N[i].1 ≤ c) && decide (c ≤ N[i].2)) = false := by rw [Bool.and_eq_false_iff, decide_eq_false_iff_not, decide_eq_false_iff_not]; omega
      have e2 : (decide (f ≤ c) && decide (c ≤ N[i].1 - 1)) = false := by rw [Bool.and_eq_false_iff, decide_eq_false_iff_not, decide_eq_false_iff_not]; omega
      have e3 : decide (c < N[i].2 + 1) = true := decide_eq_true (by omega)
      rw [e1, e2, e3, decide_eq_true hc]; simp
    · rw [decide_eq_false hc]
      by_cases hc2 : c ≤ N[i].1 - 1
      · have e0 : memR (N.take i) c = false := by
          rcases Nat.eq_zero_or_pos i with rfl | hp
          · simp [memR]
          · have h6 := h.from_
            rw [if_neg (by omega)] at h6
            obtain ⟨k, rfl⟩ : ∃ k, i = k + 1 := ⟨i - 1, by omega⟩
            obtain ⟨h1, _⟩ := set_next hN hi
            cases hm : memR (N.take (k + 1)) c with
            | false => rfl
            | true =>
              have hk : k < N.length := by omega
              rw [lastH_take hk] at h6
              rw [take_snoc' _ _ hk, memR_append, memR_one, not_mem_take hN hk (by have := (set_next hN hk).2.2.1; omega), Bool.false_or] at hm
              simp only [Bool.and_eq_true, decide_eq_true_eq] at hm
              omega
        have e1 : (decide (N[i].1 ≤ c) && decide (c ≤ N[i].2)) = false := by rw [Bool.and_eq_false_iff, decide_eq_false_iff_not, decide_eq_false_iff_not]; omega
        have e2 : (decide (f ≤ c) && decide (c ≤ N[i].1 - 1)) = true := by rw [Bool.and_eq_true, decide_eq_true_eq, decide_eq_true_eq]; omega
        have e3 : (decide (0 ≤ c) && decide (c < N[i].2 + 1)) = true := by rw [Bool.and_eq_true, decide_eq_true_eq, decide_eq_true_eq]; omega
        rw [e0, e1, e2, e3]; simp
      · have e2 : (decide (f ≤ c) && decide (c ≤ N[i].1 - 1)) = false := by rw [Bool.and_eq_false_iff, decide_eq_false_iff_not, decide_eq_false_iff_not]; omega
        rw [e2]
        by_cases hc3 : c ≤ N[i].2
        · have e1 : (decide (N[i].1 ≤ c) && decide (c ≤ N[i].2)) = true := by rw [Bool.and_eq_true, decide_eq_true_eq, decide_eq_true_eq]; omega
          rw [e1]; simp
        · have e3 : decide (c < N[i].2 + 1) = false := decide_eq_false (by omega)
          rw [e3]; simp

theorem not_skip {N : List (Int × Int)} (hN : setRight N = true) {i : Nat} {O : List (Int × Int)} {f : Int} (h : NotInv N i O f) (hi : i < N.length) (hf : ¬ f < N[i].1) : NotInv N (i + 1) O (N[i].2 + 1) := by
  obtain ⟨g1, g2, g3, g4⟩ := not_from hN h hi
  refine ⟨by rw [if_neg (by omega), lastH_take hi], h.right, by have := h.last; omega, by omega, fun c => ?_, by have := h.len; omega⟩
  rw [h.mem, take_snoc' _ _ hi, memR_append, memR_one]
  by_cases hc : c < f
  · have e1 : (decide (N[i].1 ≤ c) && decide (c ≤ N[i].2)) = false := by rw [Bool.and_eq_false_iff, decide_eq_false_iff_not, decide_eq_false_iff_not]; omega
    have e3 : decide (c < N[i].2 + 1) = true := decide_eq_true (by omega)
    rw [e1, e3, decide_eq_true hc]; simp
  · rw [decide_eq_false hc]
    by_cases hc3 : c ≤ N[i].2
    · have e1 : (decide (N[i].1 ≤ c) && decide (c ≤ N[i].2)) = true := by rw [Bool.and_eq_true, decide_eq_true_eq, decide_eq_true_eq]; omega
      rw [e1]; simp
    · have e3 : decide (c < N[i].2 + 1) = false := decide_eq_false (by omega)
      rw [e3]; simp

theorem not_done {N : List (Int × Int)} (hN : setRight N = true) {O : List (Int × Int)} {f : Int} (h : NotInv N N.length O f) :
    (f ≤ 1114111 → setRight (O ++ [(f, 1114111)]) = true ∧ ∀ c, memR (O ++ [(f, 1114111)]) c = (decide (0 ≤ c) && decide (c ≤ 1114111) && !memR N c)) ∧
    (¬ f ≤ 1114111 → setRight O = true ∧ ∀ c, memR O c = (decide (0 ≤ c) && decide (c ≤ 1114111) && !memR N c)) := by
  have hm := h.mem
  rw [List.take_length] at hm
  have hab : ∀ c, f ≤ c → memR N c = false := by
    intro c hc
    have h6 := h.from_
    cases hN' : N.length with
    | zero => rw [List.eq_nil_of_length_eq_zero hN']; rfl
    | succ k =>
      rw [hN', if_neg (by omega)] at h6
      have hk : k < N.length := by omega
      rw [lastH_take hk] at h6
      have e1 : N = N.take k ++ [N[k]] := by rw [← take_snoc' _ _ hk, List.take_of_length_le (by omega)]
      have h7 := set_next hN hk
      rw [e1, memR_append, memR_one, not_mem_take hN hk (by omega), Bool.false_or, Bool.and_eq_false_iff, decide_eq_false_iff_not, decide_eq_false_iff_not]
      omega
  refine ⟨fun hf => ⟨?_, fun c => ?_⟩, fun hf => ⟨h.right, fun c => ?_⟩⟩
  · unfold setRight
    rw [setFrom_snoc, show setFrom (-2) O = true from h.right]
    simp only [Bool.true_and, Bool.and_eq_true, decide_eq_true_eq]
    have := h.last
    omega
  · rw [memR_append, hm, memR_one]
    dsimp only
    have ht := h.top
    by_cases hc : c < f
    · have e2 : (decide (f ≤ c) && decide (c ≤ 1114111)) = false := by rw [Bool.and_eq_false_iff, decide_eq_false_iff_not, decide_eq_false_iff_not]; omega
      have e3 : decide (c ≤ 1114111) = true := decide_eq_true (by omega)
      rw [e2, e3, decide_eq_true hc]; simp
    · rw [hab c (by omega), decide_eq_false hc]
      by_cases hc2 : c ≤ 1114111
      · rw [decide_eq_true hc2, decide_eq_true (show f ≤ c by omega), decide_eq_true (show 0 ≤ c by omega)]; rfl
      · rw [decide_eq_false hc2]; simp
  · rw [hm]
    have ht := h.top
    have hf' : f = 1114112 := by omega
    by_cases hc : c < f
    · rw [decide_eq_true hc, decide_eq_true (show c ≤ 1114111 by omega)]
    · rw [decide_eq_false hc, decide_eq_false (show ¬ c ≤ 1114111 by omega)]
end Go.Proofs.YtnafemcholkmlaaGreatDoor

namespace Go.Proofs.YtnafemcholkmlaaGreatDoor
open Go Go.RowKit Go.Proofs Go.Shelf

theorem apart_of {v u : Value} {g : Nat} (hu : u.ownBlock = some g) (h : v.ownBlock = none ∨ v.ownBlock ≠ u.ownBlock) : u.ownBlock = none ∨ u.ownBlock ≠ v.ownBlock := by
  refine .inr fun e => ?_
  rcases h with h | h
  · rw [hu, h] at e; cases e
  · exact h e.symm

set_option maxHeartbeats 4000000 in
set_option maxRecDepth 100000 in
theorem ref02_Not (rs : List (Int × Int)) (sa : Option Addr) (sn sc B : Nat) (w : World) (h : RangesV w B rs sa sn sc) (hB : B ≤ w.heap.size) (hN : rs.length ≤ 1000000000000) :
    Calls Tryz.prog 11 #[.slice sa sn sc] w (SetOf w (fun c => !memR rs c) (rs.length + 1)) := by
  obtain ⟨i0, hi, hz0, hz1, hz2⟩ := info_parts infoRange
  have HNC := Lib.hid (ref02_Norm rs sa sn sc B w h hB hN)
  clear h
  go_enter Tryz.func11, Tryz.ntmps11
  go_wp2_with fail
  refine (HNC.out).mono ?_
  rintro e w1 ⟨v3, N, rfl, hl, hr, hm, hlen, hb⟩
  have HR := Lib.hid hr; have HM := Lib.hid hm; have HLN := Lib.hid (show N.length ≤ 1000000000000 by omega); have HLE := Lib.hid hlen
  have hl3 : w1.ownsRow w.heap.size 43 2 v3 N.length (flatR N) := hl
  obtain ⟨va, vc, rfl⟩ : ∃ va vc, v3 = .slice va N.length vc := by
    rcases hl3.2 with ⟨rfl, h0⟩ | ⟨g, cap, cur, rfl, _⟩
    · exact ⟨none, 0, by rw [h0]⟩
    · exact ⟨_, _, rfl⟩
  have H3 := Lib.hid hl3; have HB1 := Lib.hid hb
  have hz1' := hb.size
  clear hr hm hlen hl hl3 hb
  go_wp2_with fail
  go_loopw [4, 5, 6] (fun v fv iv wz => ∃ (i : Nat) (O : List (Int × Int)) (f : Int), i ≤ N.length ∧ iv = .int .i64 i ∧ fv = .int .i32 f ∧ NotInv N i O f ∧ wz.ownsRow w.heap.size 43 2 v O.length (flatR O) ∧ wz.ownsRow w.heap.size 43 2 (.slice va N.length vc) N.length (flatR N) ∧ (v.ownBlock = none ∨ v.ownBlock ≠ (Value.slice va N.length vc).ownBlock) ∧ Below w.heap.size w wz) (fun _ _ iv _ => N.length - (intOf iv).toNat)
  case atStart => exact ⟨0, [], 0, Nat.zero_le _, rfl, rfl, NotInv.nil N, World.ownsRow_nil _ _ _ _, H3.out, .inl rfl, HB1.out⟩
  case round =>
    obtain ⟨i, O, f, hi', rfl, rfl, hI, ho4, ho3, hap, hbz⟩ := hrel
    have hln := HLN.out
    have HI := Lib.hid hI; have H4 := Lib.hid ho4; have H3' := Lib.hid ho3; have HAP := Lib.hid hap; have HBZ := Lib.hid hbz
    have hz := hbz.size
    clear hI ho4 ho3 hap hbz
    have HOL := Lib.hid (show O.length ≤ 1000000000000 by have := HI.out.len; omega)
    by_cases hlt : i < N.length
    · obtain ⟨g, rfl⟩ : ∃ g, va = some ⟨g, 0, none⟩ := by
        rcases H3'.out.2 with ⟨_, h0⟩ | ⟨g, cap, cur, h, _⟩
        · omega
        · cases h; exact ⟨g, rfl⟩
      have cl := (H3'.out.cellAt (i * 2) (by omega)).trans (flatR_get N i hlt).1
      have ch := (H3'.out.cellAt (i * 2 + 1) (by omega)).trans (flatR_get N i hlt).2
      have hfr := not_from HR.out HI.out hlt
      obtain ⟨lo, hlo⟩ : ∃ lo, N[i].1 = lo := ⟨_, rfl⟩
      obtain ⟨hx, hhx⟩ : ∃ hx, N[i].2 = hx := ⟨_, rfl⟩
      rw [hlo] at cl hfr; rw [hhx] at ch hfr
      have HLO := Lib.hid hlo; have HHX := Lib.hid hhx
      clear hlo hhx
      obtain ⟨hf1, hf2, hf3, hf4⟩ := hfr
      have htop := HI.out.top.1
      have hw1 : IntKind.i32.wrap (lo - 1) = lo - 1 := IntWalk.i32_in _ (by omega)
      have hw2 : IntKind.i32.wrap (hx + 1) = hx + 1 := IntWalk.i32_in _ (by omega)
      have HG := Lib.hid (show g < wr.heap.size from (H3'.out.lt g rfl).2)
      by_cases hfl : f < lo
      · have HNW := Lib.hid (not_step HR.out HI.out hlt (by rw [HLO.out]; exact hfl))
        rw [HLO.out, HHX.out] at HNW
        have HSM := Lib.hid (show O.length + 1 ≤ maxLen ∧ (O.length + 1) * 8 ≤ 140737488355328 by have := HOL.out; unfold maxLen; omega)
        go_upto_region 9 with (at_builtin; refine wpList_append_own_at _ rfl _ _ 24 rfl w.heap.size 43 i0 (.agg #[.int .i32 0, .int .i32 0]) 2 8 Tryz.underlying24 hi hz0 hz1 hz2 rfl (by decide) u4 _ _ rfl (H4.out.alloc _) ⟨wr.heap.size, 0, none⟩ 1 1 [.int .i32 f, .int .i32 (lo - 1)] rfl rfl (cells_two_at _ _ rfl _ _ _) (fun x hx => by simp at hx; rcases hx with rfl | rfl <;> rfl) HSM.out.1 HSM.out.2 (by simp; omega) ?_; intro v6 w6 hown6 hgrow6 hnil6 hat6)
        have H36 := Lib.hid ((H3'.out.alloc (.cells #[.int .i32 f, .int .i32 (lo - 1)] 43)).kept hgrow6 (apart_of rfl HAP.out))
        have ch6 := (H36.out.cellAt (i * 2 + 1) (by omega)).trans (flatR_get N i hlt).2
        rw [HHX.out] at ch6
        have HAT := Lib.hid (show v6.ownBlock ≠ some g by
          have h9 := HG.out
          rcases hat6 with h | h <;> rw [h]
          · rcases HAP.out with h2 | h2
            · rw [h2]; simp
            · simpa [Value.ownBlock] using h2
          · simp; omega)
        go_wp2_with fail
        go_roundw
        case rel =>
          exact ⟨i + 1, O ++ [(f, lo - 1)], hx + 1, hlt, by go_num, rfl, HNW.out, own_congr hown6 (by simp) (by simp [flatR]), H36.out, .inr HAT.out, (HBZ.out.alloc (by omega) _).grown hgrow6 (by simp; omega) (fun j hj => (H4.out.lt j hj).1)⟩
        case measure => simp [intOf]; omega
      · have hfl' : ¬ f < lo := hfl
        have HNW := Lib.hid (not_skip HR.out HI.out hlt (by rw [HLO.out]; exact hfl))
        rw [HHX.out] at HNW
        go_wp2_with fail
        go_roundw
        case rel =>
          exact ⟨i + 1, O, hx + 1, hlt, by go_num, rfl, HNW.out, H4.out, H3'.out, HAP.out, HBZ.out⟩
        case measure => simp [intOf]; omega
    · obtain rfl : i = N.length := by omega
      have HD := Lib.hid (not_done HR.out HI.out)
      have HOLe := Lib.hid (show O.length ≤ rs.length by have := HI.out.len; have := HLE.out; omega)
      have HNM := Lib.hid (show ∀ c, (decide (0 ≤ c) && decide (c ≤ 1114111) && !memR N c) = (decide (0 ≤ c) && decide (c ≤ 1114111) && !memR rs c) from fun c => by
        rw [HM.out]
        cases (decide (0 ≤ c) && decide (c ≤ 1114111)) <;> simp)
      by_cases hf : f ≤ 1114111
      · have HSM := Lib.hid (show O.length + 1 ≤ maxLen ∧ (O.length + 1) * 8 ≤ 140737488355328 by have := HOL.out; unfold maxLen; omega)
        go_wp2_with (at_builtin; refine wpList_append_own_at _ rfl _ _ 24 rfl w.heap.size 43 i0 (.agg #[.int .i32 0, .int .i32 0]) 2 8 Tryz.underlying24 hi hz0 hz1 hz2 rfl (by decide) u4 _ _ rfl (H4.out.alloc _) ⟨wr.heap.size, 0, none⟩ 1 1 [.int .i32 f, .int .i32 1114111] rfl rfl (cells_two_at _ _ rfl _ _ _) (fun x hx => by simp at hx; rcases hx with rfl | rfl <;> rfl) HSM.out.1 HSM.out.2 (by simp; omega) ?_; intro v6 w6 hown6 hgrow6 hnil6 hat6)
        go_ret
        refine ⟨_, O ++ [(f, 1114111)], rfl, own_congr hown6 (by simp) (by simp [flatR]), (HD.out.1 hf).1, fun c => ?_, ?_, (HBZ.out.alloc (by omega) _).grown hgrow6 (by simp; omega) (fun j hj => (H4.out.lt j hj).1)⟩
        · rw [(HD.out.1 hf).2, HNM.out]
        · have := HOLe.out; simp; omega
      · have hf' : ¬ f ≤ 1114111 := hf
        go_wp2_with fail
        go_ret
        refine ⟨_, O, rfl, H4.out, (HD.out.2 hf).1, fun c => ?_, ?_, HBZ.out⟩
        · rw [(HD.out.2 hf).2, HNM.out]
        · have := HOLe.out; omega
end Go.Proofs.YtnafemcholkmlaaGreatDoor
