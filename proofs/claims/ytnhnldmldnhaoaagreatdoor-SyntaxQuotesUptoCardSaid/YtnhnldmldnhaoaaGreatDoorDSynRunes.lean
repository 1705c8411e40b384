/- A text's runes, its atoms. The reader of patterns: a text's atoms. What stands ahead of a byte: strings.Cut at one byte, the reader's until. What stands behind a backslash and x, without a brace: scan.esc.code's other cases; the name behind a backslash and p: scan.esc.name. The document's number behind a backslash and x: martelloref06.hex, number. The document's number behind a backslash and x: martelloref06.number; the same as the reader's. The name behind a backslash and p: scan.esc.name. The document's name behind a backslash and p: martelloref06.property. The sets with names: tables.Named and martelloref03.Named. (Printed by gen_tabs.py.) classes.Property: the set of a name, or all but it. classes.Perl: the set of a letter behind a backslash. (Printed by gen_perl.py.) What an escape is: one answer for both sides. (Printed by gen_refesc.py.) -/
import Derived.Test.YtnhnldmldnhaoaaGreatDoorDSetsNot
import Derived.Test.YtnhnldmldnhaoaaGreatDoorDCount
import Derived.Test.YtnhnldmldnhaoaaGreatDoorDRefHas
import Derived.Lib.OthersKept
import Derived.Lib.RuneCount
import Derived.Test.YtnhnldmldnhaoaaGreatDoorDScan1
import Derived.Laws.Runes
import Derived.Lib.IndexLaws
import Derived.LoopTactic
import Derived.Deep.QuietTactic
import Derived.BigQuiet
import Derived.Test.YtnhnldmldnhaoaaGreatDoorShelf
namespace Go.Proofs.YtnhnldmldnhaoaaGreatDoor
open Go Go.RowKit Go.Proofs

/-- The runes of a text, from a place on. -/
def runesN (s : ByteArray) : Nat → Nat → List Int
  | 0, _ => []
  | n + 1, p => if p < s.size then nextC s p :: runesN s n (nextW s p) else []
def runesL (s : ByteArray) : List Int := runesN s s.size 0
noncomputable def runesT (f : Int) (s : ByteArray) : List T := (runesL s).map (atomT f)
theorem runesN_end {s : ByteArray} {n p : Nat} (h : ¬ p < s.size) : runesN s n p = [] := by
  cases n with
  | zero => rfl
  | succ n => unfold runesN; rw [if_neg h]

end Go.Proofs.YtnhnldmldnhaoaaGreatDoor

namespace Go.Proofs.YtnhnldmldnhaoaaGreatDoor
open Go Go.RowKit Go.Proofs Go.Shelf

theorem nextC_in' (s : ByteArray) (p : Nat) (h : p < s.size) : 0 ≤ nextC s p ∧ nextC s p ≤ 1114111 := by
  have h1 := nextC_le s p
  unfold nextC at h1 ⊢
  rw [if_pos h] at h1 ⊢
  omega
/-- The frame of a text's loop. -/
structure TextAt (w W : World) (f : Int) (t : ByteArray) (pos fuel : Nat) (ts : List T) (v : Value) (xs : List Value) : Prop where
  m : Blk W w.heap.size [.int .i64 f] 49
  i : W.heap[w.heap.size + 1]? = some (.stringIter t pos)
  b : Below w.heap.size w W
  r : RowF W (w.heap.size + 2) (fun _ => False) ts v xs
  e : ts ++ (runesN t fuel pos).map (atomT f) = runesT f t
  u : t.size ≤ pos + fuel
  l : ts.length ≤ pos
  z : w.heap.size + 2 ≤ W.heap.size
set_option maxRecDepth 100000 in
set_option maxHeartbeats 8000000 in
theorem syn_text (f : Int) (t : ByteArray) (w : World) (ht : t.size ≤ 1000000000) :
    Calls Tryz.prog 34 #[.agg #[.int .i64 f], .string t] w fun e w' => ∃ v, e = .returned v ∧ ListOut w w' (runesT f t) v ∧ Below w.heap.size w w' := by
  obtain ⟨i0, hi, hz0, hz1, hz2⟩ := info_parts infoTree
  go_enter Tryz.func34, Tryz.ntmps34
  go_wp2_with fail
  go_loopw [5] (fun lv wr => ∃ (pos fuel : Nat) (ts : List T) (xs : List Value), TextAt w wr f t pos fuel ts lv xs) (fun _ wr => t.size - wr.iterPos (w.heap.size + 1))
  case atStart =>
    refine ⟨0, t.size, [], [], ⟨(Blk.new w [.int .i64 f] 49).alloc _, ?_, ((Below.refl _ w).alloc (Nat.le_refl _) _).alloc (by simp) _, RowF.nil _ _ _, by simp [runesT, runesL], by omega, by simp, by simp [World.iter]⟩⟩
    have := World.iter_heap (w.alloc (.cells #[.int .i64 f] 49)) t 0
    simpa using this
  case round =>
    obtain ⟨pos, fuel, ts, xs, hA⟩ := hrel
    have HA := Lib.hid hA
    by_cases hp : pos < t.size
    · have hnx : ∀ ty, (Instr.next (.pointer (some ⟨w.heap.size + 1, 0, none⟩)) true ty).run Tryz.prog wr = _ := fun ty => Lib.run_next_any_at wr (w.heap.size + 1) t pos ty hA.i hp
      have hwd := Lib.decode_width_pos t pos hp
      have hc := nextC_in' t pos hp
      obtain ⟨fu, rfl⟩ : ∃ fu, fuel = fu + 1 := ⟨fuel - 1, by have := hA.u; omega⟩
      have hrn : runesN t (fu + 1) pos = nextC t pos :: runesN t fu (nextW t pos) := by rw [runesN, if_pos hp]
      have hnc : nextC t pos = ((Utf8.decode t pos).1 : Int) := by unfold nextC; rw [if_pos hp]
      have hnw : nextW t pos = pos + (Utf8.decode t pos).2 := by unfold nextW; rw [if_pos hp]
      have M2 := Lib.hid (show Blk (wr.iterAt (w.heap.size + 1) t (pos + (Utf8.decode t pos).2)) w.heap.size [.int .i64 f] 49 from Blk.same hA.m (Lib.iterAt_other wr _ _ _ _ (by omega)))
      have R2 := Lib.hid (show RowF (wr.iterAt (w.heap.size + 1) t (pos + (Utf8.decode t pos).2)) (w.heap.size + 2) (fun _ => False) ts u5 xs from hA.r.keep (by rw [Lib.iterAt_size]; exact Nat.le_refl _) fun k hk _ h => ⟨Lib.iterAt_other wr _ k _ _ (by omega), h⟩)
      have I2 := Lib.hid (Lib.iterAt_heap wr (w.heap.size + 1) t pos (pos + (Utf8.decode t pos).2) hA.i)
      have B2 := Lib.hid (Lib.below_iterAt hA.b (k := w.heap.size + 1) (by omega) t (pos + (Utf8.decode t pos).2))
      have Z2 := Lib.hid (show w.heap.size + 2 ≤ (wr.iterAt (w.heap.size + 1) t (pos + (Utf8.decode t pos).2)).heap.size by rw [Lib.iterAt_size]; exact hA.z)
      have km : (wr.iterAt (w.heap.size + 1) t (pos + (Utf8.decode t pos).2)).cell? ⟨w.heap.size, 0, none⟩ = some (.int .i64 f) := Blk.cell M2.out (j := 0) rfl
      have HC := Lib.hid (syn_atom f ((Utf8.decode t pos).1 : Int) (wr.iterAt (w.heap.size + 1) t (pos + (Utf8.decode t pos).2)) (by rw [← hnc]; exact hc.1) (by rw [← hnc]; exact hc.2))
      have HR := Lib.hid hrn; have HNC := Lib.hid hnc; have HNW := Lib.hid hnw
      have htl : ts.length ≤ 1000000000 := by have := hA.l; omega
      have HP := Lib.hid hp
      clear hA hrn hnc hnw hc hp
      go_wp2_with fail
      refine (HC.out).mono ?_
      rintro e w4 ⟨cs, rfl, hT4, hB4⟩
      obtain ⟨op, ka, kn, kc, rune, xa, xn, xc, pl, cap, name, mn, mx, lz, rfl⟩ := hT4.form
      have Z4 := Lib.hid hB4.size
      have T4 := Lib.hid hT4
      have R4 := Lib.hid ((R2.out.below hB4).below ((Below.refl _ w4).alloc (Nat.le_refl _) (.cells #[.int .i64 op, .slice ka kn kc, .int .i32 rune, .slice xa xn xc, .int .i64 pl, .int .i64 cap, .string name, .int .i64 mn, .int .i64 mx, .bool lz] 29)))
      have I4 := Lib.hid (show w4.heap[w.heap.size + 1]? = some (.stringIter t (pos + (Utf8.decode t pos).2)) by rw [hB4.block _ (by have := Z2.out; omega)]; exact I2.out)
      have M4 := Lib.hid (Blk.below M2.out hB4 M2.out.lt)
      have B4 := Lib.hid (B2.out.trans (hB4.mono B2.out.size))
      have hzz : w.heap.size + 2 ≤ w4.heap.size := Nat.le_trans Z2.out Z4.out
      clear hT4 hB4 hnx km
      go_wp2_with (at_builtin; refine wpList_append_own_at _ rfl _ _ 25 rfl (w.heap.size + 2) 29 i0 (.agg zero10.toArray) 10 120 Tryz.underlying25 hi hz0 hz1 hz2 rfl (by decide) u5 ts.length xs rfl R4.out.1 ⟨w4.heap.size, 0, none⟩ 1 1 [.int .i64 op, .slice ka kn kc, .int .i32 rune, .slice xa xn xc, .int .i64 pl, .int .i64 cap, .string name, .int .i64 mn, .int .i64 mx, .bool lz] rfl rfl (cells_new _ _ _) T4.out.one (by unfold maxLen; omega) (by omega) (by simp; omega) ?_; intro v' w10 hown hgrow hiff)
      intro hat
      clear hiff
      have hz10 := hgrow.size
      rw [World.size_alloc] at hz10
      have Q := Lib.hid (show TextAt w w10 f t (pos + (Utf8.decode t pos).2) fu (ts ++ [atomT f (nextC t pos)]) v' (xs ++ [.int .i64 op, .slice ka kn kc, .int .i32 rune, .slice xa xn xc, .int .i64 pl, .int .i64 cap, .string name, .int .i64 mn, .int .i64 mx, .bool lz]) from by
        have hnei : u5.ownBlock ≠ some (w.heap.size + 1) := fun e => by have := (R4.out.1.lt _ e).1; omega
        have hnem : u5.ownBlock ≠ some w.heap.size := fun e => by have := (R4.out.1.lt _ e).1; omega
        refine ⟨(Blk.alloc M4.out _).grown hgrow (fun e => hnem e.symm), ?_, below_next (B4.out.alloc B4.out.size _) (Nat.le_refl _) hgrow (fun k e => by have := (R4.out.1.lt k e).1; omega), ?_, ?_, ?_, ?_, ?_⟩
        · rw [hgrow.block (w.heap.size + 1) (by rw [World.size_alloc]; omega) (fun e => hnei e.symm), Below.heap_alloc w4 _ _ (by omega)]
          exact I4.out
        · refine R4.out.push (us := [atomT f (nextC t pos)]) (TreesF.single ?_) hown hgrow (by rw [World.size_alloc]; exact hat) (fun h => h)
          rw [HNC.out]
          refine T4.out.turned (fun k hk => Below.heap_alloc w4 _ k hk.2) (fun k hk => ⟨⟨by have := hk.1; have := Z2.out; omega, by rw [World.size_alloc]; have := hk.2; omega, fun h => h⟩, fun e => by have := (R2.out.1.lt k e).2; have := hk.1; omega⟩)
        · have := HA.out.e
          rw [HR.out, List.map_cons, HNW.out] at this
          rw [List.append_assoc]; exact this
        · have := HA.out.u; omega
        · have := HA.out.l; rw [List.length_append, List.length_singleton]; omega
        · omega)
      have I10 := Q.out.i; have IR := HA.out.i
      clear hown hgrow hat
      go_wp2_with fail
      go_roundw
      case rel => exact ⟨_, _, _, _, Q.out⟩
      case measure =>
        have := HP.out
        simp only [World.iterPos, I10, IR]
        omega
    · have hnx : ∀ ty, (Instr.next (.pointer (some ⟨w.heap.size + 1, 0, none⟩)) true ty).run Tryz.prog wr = _ := fun ty => Lib.run_next_end_at wr (w.heap.size + 1) t pos ty hA.i hp
      have he := hA.e
      rw [runesN_end hp, List.map_nil, List.append_nil] at he
      have HE := Lib.hid he
      clear hA he
      go_wp2_with fail
      go_ret
      refine ⟨u5, rfl, ?_, HA.out.b⟩
      rw [← HE.out]
      exact HA.out.r.list (by omega)
end Go.Proofs.YtnhnldmldnhaoaaGreatDoor

namespace Go.Proofs.YtnhnldmldnhaoaaGreatDoor
open Go Go.RowKit Go.Proofs

end Go.Proofs.YtnhnldmldnhaoaaGreatDoor

namespace Go.Proofs.YtnhnldmldnhaoaaGreatDoor
open Go Go.RowKit Go.Proofs

end Go.Proofs.YtnhnldmldnhaoaaGreatDoor

namespace Go.Proofs.YtnhnldmldnhaoaaGreatDoor
open Go Go.RowKit Go.Proofs

def signI (c : Int) : Bool := (33 ≤ c ∧ c ≤ 47) ∨ (58 ≤ c ∧ c ≤ 64) ∨ (91 ≤ c ∧ c ≤ 96) ∨ (123 ≤ c ∧ c ≤ 126)
def letterI (c : Int) : Int := if c = 97 then 7 else if c = 102 then 12 else if c = 110 then 10 else if c = 114 then 13 else if c = 116 then 9 else if c = 118 then 11 else -1
def placeI (c : Int) : Int := if c = 65 then 1 else if c = 122 then 2 else if c = 98 then 16 else if c = 66 then 32 else 0
end Go.Proofs.YtnhnldmldnhaoaaGreatDoor

namespace Go.Proofs.YtnhnldmldnhaoaaGreatDoor
open Go Go.RowKit Go.Proofs

/-- A rune's number at a place, and the place behind; or none. -/
def codeP (s : ByteArray) (q : Nat) : Option (Int × Nat) :=
  if stands s q [123] = true then (if (bracedN s q).2.1 = true then some ((bracedN s q).1, (bracedN s q).2.2) else none)
  else match s.data.toList.drop q with
    | x :: y :: _ => if hexs.contains x = true ∧ hexs.contains y = true then some (hexN [x, y], q + 2) else none
    | _ => none
theorem drop_two (s : ByteArray) (p : Nat) (h : p + 1 < s.size) : s.data.toList.drop p = s[p] :: s[p + 1] :: s.data.toList.drop (p + 2) := by
  have l1 : p < s.data.toList.length := by simp; omega
  have l2 : p + 1 < s.data.toList.length := by simp; omega
  rw [List.drop_eq_getElem_cons l1, List.drop_eq_getElem_cons l2]
  rfl
theorem drop_short (s : ByteArray) (p : Nat) (h : s.size ≤ p + 1) : ∀ x y r, s.data.toList.drop p ≠ x :: y :: r := by
  intro x y r e
  have := congrArg List.length e
  simp at this
  omega
end Go.Proofs.YtnhnldmldnhaoaaGreatDoor

namespace Go.Proofs.YtnhnldmldnhaoaaGreatDoor
open Go Go.RowKit Go.Proofs

end Go.Proofs.YtnhnldmldnhaoaaGreatDoor

namespace Go.Proofs.YtnhnldmldnhaoaaGreatDoor
open Go Go.RowKit Go.Proofs

/-- The name behind a backslash and p, and the place behind it; or none. -/
def propP (s : ByteArray) (q : Nat) : Option (ByteArray × Nat) :=
  if stands s q [123] = true then
    (if 0 ≤ Lib.indexByte (s.data.toList.drop (q + 1)) 125 then some (s.extract (q + 1) (q + 1 + (Lib.indexByte (s.data.toList.drop (q + 1)) 125).toNat), q + 1 + (Lib.indexByte (s.data.toList.drop (q + 1)) 125).toNat + 1) else none)
  else if q < s.size then some (s.extract q (nextW s q), nextW s q) else none
end Go.Proofs.YtnhnldmldnhaoaaGreatDoor

namespace Go.Proofs.YtnhnldmldnhaoaaGreatDoor
open Go Go.RowKit Go.Proofs Go.Shelf

def tabs : List (List UInt8 × List (Int × Int)) :=
  [([76, 117], [(65, 90), (192, 214), (216, 222), (913, 929), (931, 937), (1040, 1071)]),
   ([76, 108], [(97, 122), (223, 246), (248, 255), (945, 969), (1072, 1103)]),
   ([76], [(65, 90), (97, 122), (170, 170), (186, 186), (192, 214), (216, 246), (248, 255), (913, 929), (931, 937), (945, 969), (1040, 1103), (19968, 40959)]),
   ([78, 100], [(48, 57), (1632, 1641)]),
   ([78], [(48, 57), (178, 179), (185, 185), (188, 190), (1632, 1641), (8544, 8584)]),
   ([80], [(33, 35), (37, 42), (44, 47), (58, 59), (63, 64), (91, 93), (95, 95), (123, 123), (125, 125), (161, 161), (167, 167), (171, 171), (182, 183), (187, 187), (191, 191)]),
   ([83], [(36, 36), (43, 43), (60, 62), (94, 94), (96, 96), (124, 124), (126, 126), (162, 166), (168, 169), (172, 172), (174, 177), (180, 180), (184, 184), (215, 215), (247, 247)]),
   ([90], [(32, 32), (160, 160), (8192, 8202), (8232, 8233), (8239, 8239), (12288, 12288)]),
   ([67, 99], [(0, 31), (127, 159)]),
   ([76, 97, 116, 105, 110], [(65, 90), (97, 122), (170, 170), (186, 186), (192, 214), (216, 246), (248, 591), (8490, 8491)]),
   ([71, 114, 101, 101, 107], [(880, 883), (885, 887), (890, 893), (895, 895), (900, 900), (902, 902), (904, 906), (908, 908), (910, 929), (931, 993)]),
   ([67, 121, 114, 105, 108, 108, 105, 99], [(1024, 1156), (1159, 1327)]),
   ([72, 97, 110], [(19968, 40959)])]
/-- The set of a name. -/
def tabOf (s : List UInt8) : Option (List (Int × Int)) := (tabs.find? fun p => p.1 == s).map (·.2)
/-- A literal of ranges. -/
theorem Laid.lit (w : World) (rs : List (Int × Int)) (cs : Array Value) (hc : cs = (flatR rs).toArray) (hl : rs.length ≤ maxLen) : Laid w (w.alloc (.cells cs 61)) rs (.slice (some ⟨w.heap.size, 0, none⟩) rs.length rs.length) := by
  subst hc
  refine ⟨by rw [flatR_length], .inr ⟨w.heap.size, rs.length, _, rfl, Nat.le_refl _, World.alloc_heap_new w _, Nat.le_refl _, hl, by simp [flatR_length], ?_⟩⟩
  rw [← flatR_length]; simp

end Go.Proofs.YtnhnldmldnhaoaaGreatDoor

namespace Go.Proofs.YtnhnldmldnhaoaaGreatDoor
open Go Go.RowKit Go.Proofs Go.Shelf

/-- What a name's set has, or that there is none. -/
def propOf (nm : List UInt8) (flip : Bool) : Option (Int → Bool) :=
  if nm == [65, 110, 121] then some (fun _ => !flip) else (tabOf nm).map fun l c => memR l c != flip
def propSpec (name : List UInt8) (nt : Bool) : Option (Int → Bool) := propOf (Lib.trimPrefix name [94]) (Lib.hasPrefix name [94] != nt)

end Go.Proofs.YtnhnldmldnhaoaaGreatDoor

namespace Go.Proofs.YtnhnldmldnhaoaaGreatDoor
open Go Go.RowKit Go.Proofs Go.Shelf

def perlL (c : Int) : Option (List (Int × Int)) :=
  if c = 100 ∨ c = 68 then some [(48, 57)] else if c = 115 ∨ c = 83 then some [(9, 10), (12, 13), (32, 32)] else if c = 119 ∨ c = 87 then some [(48, 57), (65, 90), (95, 95), (97, 122)] else none
def perlSpec (c : Int) : Option (Int → Bool) := (perlL c).map fun l x => memR l x != decide (c < 97)

end Go.Proofs.YtnhnldmldnhaoaaGreatDoor

namespace Go.Proofs.YtnhnldmldnhaoaaGreatDoor
open Go Go.RowKit Go.Proofs Go.Shelf

inductive EscR where
  | wrong (e f t : Int)
  | lit (k r a q : Int)
  | set (f : Int → Bool) (q : Int)
def escX (s : ByteArray) (p : Nat) (q : Nat) : EscR := match codeP s q with | some (n, r) => .lit 1 n 0 r | none => .wrong 61 p q
def escPr (s : ByteArray) (p : Nat) (q : Nat) (nt : Bool) : EscR := match propP s q with
  | none => .wrong 61 p q
  | some (nm, r) => match propSpec nm.data.toList nt with | none => .wrong 63 p r | some f => .set f r
def escPl (p : Nat) (c : Int) (q : Nat) : EscR := if placeI c ≠ 0 then .lit 3 0 (placeI c) q else if c = 81 then .lit 4 0 0 q else match perlSpec (min c 127) with | none => .wrong 61 p q | some f => .set f q
/-- What stands at a place as an escape. -/
def escP (s : ByteArray) (p : Nat) (perl : Bool) : EscR :=
  if ¬ stands s p [92] = true then .wrong 1 p p
  else if s.size ≤ p + 1 then .wrong 62 p ((p : Int) + 1)
  else if signI (nextC s (p + 1)) = true then .lit 1 (nextC s (p + 1)) 0 (nextW s (p + 1))
  else if 0 ≤ letterI (nextC s (p + 1)) then .lit 1 (letterI (nextC s (p + 1))) 0 (nextW s (p + 1))
  else if nextC s (p + 1) = 120 then escX s p (nextW s (p + 1))
  else if nextC s (p + 1) = 112 ∨ nextC s (p + 1) = 80 then escPr s p (nextW s (p + 1)) (nextC s (p + 1) == 80)
  else if perl = false then .wrong 61 p (nextW s (p + 1))
  else escPl p (nextC s (p + 1)) (nextW s (p + 1))
end Go.Proofs.YtnhnldmldnhaoaaGreatDoor
