/- What the two ways of writing a tree's text lean on: the tables; a tree's text by its Op. A right tree's text: the program's: aids for printer.text. (Printed by gen_textg.py.) -/
import Derived.Test.YtihbmgpjihgodaaGreatDoorPrintPure
import Derived.Test.YtihbmgpjihgodaaGreatDoorPrintLit
import Derived.Test.YtihbmgpjihgodaaGreatDoorQPrintPlace
import Derived.Deep.RegionHeldLaw
import Derived.Deep.RegionLaw
import Derived.Deep.Cut
import Derived.Deep.DrawnRows
import Derived.Deep.AppendLies
import Derived.Maps.AppendAt
import Derived.Lib.SmallJoins
namespace Go.Proofs.YtihbmgpjihgodaaGreatDoor
open Go Go.RowKit Go.Proofs Go.Shelf

/-- The library's tables that are read. -/
def Tb (W : World) : Prop := Bru W ∧ Pow W
theorem Tb.below {W W' : World} (h : Tb W) (hb : Below W.heap.size W W') : Tb W' := ⟨h.1.below hb h.1.lt, Lib.tabBelow_of_tabIs h.2 _ hb⟩

section
variable (kids : List T) (rune : Int) (set : List (Int × Int)) (pl cap : Int) (name : ByteArray) (mn mx : Int) (lz : Bool)
theorem textT_1 : textT (.mk 1 kids rune set pl cap name mn mx lz) = [91, 94, 92, 120, 123, 48, 125, 45, 92, 120, 123, 49, 48, 102, 102, 102, 102, 125, 93] := by unfold textT; rfl
theorem textT_2 : textT (.mk 2 [] rune set pl cap name mn mx lz) = [40, 63, 58, 41] := by unfold textT; rfl
theorem textT_3 : textT (.mk 3 kids rune set pl cap name mn mx lz) = litTx rune := by unfold textT; rfl
theorem textT_4 : textT (.mk 4 kids rune set pl cap name mn mx lz) = setTx set := by unfold textT; rfl
theorem textT_5 : textT (.mk 5 kids rune set pl cap name mn mx lz) = placeTx pl := by unfold textT; rfl
theorem textT_6 (k : T) : textT (.mk 6 [k] rune set pl cap name mn mx lz) = (if name.size = 0 then [40] else [40, 63, 80, 60] ++ name.data.toList ++ [62]) ++ textT k ++ [41] := by
  rw [textT, if_neg (by decide), if_neg (by decide), if_neg (by decide), if_neg (by decide), if_pos rfl, textsT_map]
  simp
theorem textT_12 : textT (.mk 12 kids rune set pl cap name mn mx lz) = joinTx (textsT kids) := by unfold textT; rfl
theorem textT_rep {op : Int} (ho : op = 7 ∨ op = 8 ∨ op = 9 ∨ op = 10) (k : T) : textT (.mk op [k] rune set pl cap name mn mx lz) = bracedTx (textT k) (mustT k) ++ signTx op mn mx lz := by
  rw [textT, if_neg (by omega), if_neg (by omega), if_neg (by omega), if_neg (by omega), if_neg (by omega), if_neg (by omega), if_pos ho, textsT_map]
  simp
theorem textT_11 (h : kids.length ≠ 1) : textT (.mk 11 kids rune set pl cap name mn mx lz) = if kids.length = 0 then [40, 63, 58, 41] else (brTs kids).flatten := by
  rw [textT, if_neg (by decide), if_neg (by decide), if_neg (by decide), if_neg (by decide), if_neg (by decide), if_neg (by decide), if_neg (by decide), if_neg h]
end
theorem cell_keep {a c : World} {b o : Nat} {v : Value} (hb : Below a.heap.size a c) (hc : a.cell? ⟨b, o, none⟩ = some v) : c.cell? ⟨b, o, none⟩ = some v := cell_lift hb (cell_lt16 hc) hc
theorem below_keep {N : Nat} {a b c : World} (h : Below N a b) (hN : N ≤ a.heap.size) (k : Below b.heap.size b c) : Below N a c := h.trans (k.mono (Nat.le_trans hN h.size))
theorem joinTx_snoc (l : List (List UInt8)) (x : List UInt8) : joinTx (l ++ [x]) = if l = [] then x else joinTx l ++ [124] ++ x := by
  induction l with
  | nil => simp [joinTx]
  | cons y l ih =>
    cases l with
    | nil => simp [joinTx]
    | cons z l =>
      rw [if_neg (by simp)] at ih
      rw [if_neg (by simp)]
      simp only [List.cons_append, joinTx] at ih ⊢
      rw [ih]; simp
theorem texts_take (l : List T) (k : Nat) (h : k < l.length) : textsT (l.take (k + 1)) = textsT (l.take k) ++ [textT l[k]] := by
  rw [textsT_map, textsT_map, List.take_succ_eq_append_getElem h, List.map_append]; rfl
theorem brs_take (l : List T) (k : Nat) (h : k < l.length) : (brTs (l.take (k + 1))).flatten = (brTs (l.take k)).flatten ++ bracedTx (textT l[k]) (decide ((throughT l[k]).op = 12)) := by
  rw [brTs_map, brTs_map, List.take_succ_eq_append_getElem h, List.map_append, List.flatten_append]; simp
theorem brs_len (l : List T) (h : ∀ k ∈ l, PlainAll k) : (brTs l).flatten.length ≤ 100 * pcL l := by
  induction l with
  | nil => simp [brTs, pcL]
  | cons a l ih =>
    have h1 := textT_len a (h a (List.mem_cons_self ..))
    have h2 := ih (fun k hk => h k (List.mem_cons_of_mem _ hk))
    have h3 := bracedTx_len (textT a) (decide ((throughT a).op = 12))
    simp only [brTs, List.flatten_cons, List.length_append, pcL]; omega
theorem join_len (l : List T) (h : ∀ k ∈ l, PlainAll k) : (joinTx (textsT l)).length ≤ 100 * pcL l := by
  have h0 := joinTx_len (textsT l)
  have : (textsT l).flatten.length + (textsT l).length ≤ 100 * pcL l := by
    clear h0
    induction l with
    | nil => simp [textsT, pcL]
    | cons a l ih =>
      have h1 := textT_len a (h a (List.mem_cons_self ..))
      have h2 := ih (fun k hk => h k (List.mem_cons_of_mem _ hk))
      simp only [textsT, List.flatten_cons, List.length_append, List.length_cons, pcL]; omega
  omega
theorem mustT_cases {k : T} (h : PlainAll k) : mustT k = if (throughT k).op = 11 then decide (0 < (throughT k).kids.length) else decide (7 ≤ (throughT k).op) := by
  have hp := h.through.self
  unfold mustT
  split
  · rfl
  · rename_i h11
    generalize throughT k = u at *
    obtain ⟨op, kids, rune, set, pl, cap, name, mn, mx, lz⟩ := u
    have := (plainT_is hp).op1
    simp only [T.op] at h11 ⊢
    exact decide_eq_decide.2 (by omega)
theorem mustT_through (k : T) : mustT (throughT k) = mustT k := by unfold mustT; rw [throughT_idem]
/-- A text as a string, with a bound on its size. -/
theorem text_size {t : T} (h : PlainAll t) (hp : pcT t ≤ 1000000) : (⟨(textT t).toArray⟩ : ByteArray).size ≤ 100000000 := by
  have := textT_len t h
  show (textT t).length ≤ _
  omega
theorem throughT_alone {t : T} {op : Int} {kids : List T} {rune : Int} {set : List (Int × Int)} {pl cap : Int} {name : ByteArray} {mn mx : Int} {lz : Bool} (h : .mk op kids rune set pl cap name mn mx lz = throughT t) : ¬ (kids.length = 1 ∧ (op = 11 ∨ op = 12)) := by
  rintro ⟨h1, h2⟩
  obtain ⟨k, rfl⟩ := List.length_eq_one_iff.1 h1
  have e := throughT_idem t
  rw [← h, throughT_one, if_pos h2] at e
  have h3 := throughT_size k
  have h4 := congrArg SizeOf.sizeOf e
  rw [h4] at h3
  simp at h3
  omega
end Go.Proofs.YtihbmgpjihgodaaGreatDoor

namespace Go.Proofs.YtihbmgpjihgodaaGreatDoor
open Go Go.RowKit Go.Proofs Go.Shelf
attribute [local go_sem ↓] Go.wp_at_zero Go.wp_at_succ

theorem infoStrT : (Tryz.prog.info? 9).map (fun i => (i.zero, i.size, i.bytes)) = some (some (.string ⟨#[]⟩), 1, 16) := by kernel_rfl
theorem own_keep {a c : World} {base n k : Nat} {e : TypeId} {v : Value} {xs : List Value} (h : a.ownsRow base e k v n xs) (hb : Below a.heap.size a c) : c.ownsRow base e k v n xs := h.kept (grownBy_below hb none) (by cases v.ownBlock <;> simp)
theorem below_al {W a : World} (h : Below W.heap.size W a) (o : Obj) : Below W.heap.size W (a.alloc o) := h.alloc h.size o
theorem far_keep {a c : World} {row : Option Nat} {b o : Nat} {v : Value} (hg : a.grownBy c row) (hne : some b ≠ row) (hc : a.cell? ⟨b, o, none⟩ = some v) : c.cell? ⟨b, o, none⟩ = some v := by
  rw [hg.cell_far ⟨b, o, none⟩ (cell_lt16 hc) hne]; exact hc
theorem join_bar (l : List (List UInt8)) : Lib.join l [124] = joinTx l := by
  induction l with
  | nil => rfl
  | cons x l ih =>
    cases l with
    | nil => simp [Lib.join, joinTx]
    | cons y l =>
      rw [Lib.join_cons] at ih ⊢
      simp only [joinTx, ← ih, Lib.joinTail, List.map_cons, List.flatten_cons]
      simp
/-- What the loop over the Kids writes of one. -/
def kidTx (op : Int) (k : T) : List UInt8 := bracedTx (textT k) (decide (op = 11 ∧ (throughT k).op = 12))
theorem kidTx_11 (k : T) : kidTx 11 k = bracedTx (textT k) (decide ((throughT k).op = 12)) := by unfold kidTx; simp
theorem kidTx_no {op : Int} (h : op ≠ 11) (k : T) : kidTx op k = textT k := by unfold kidTx; rw [decide_eq_false (fun e => h e.1)]; rfl
def kidsV (op : Int) (l : List T) : List Value := l.map (fun k => .string ⟨(kidTx op k).toArray⟩)
theorem kidsV_take (op : Int) (l : List T) (k : Nat) (h : k < l.length) : kidsV op (l.take (k + 1)) = kidsV op (l.take k) ++ [.string ⟨(kidTx op l[k]).toArray⟩] := by
  unfold kidsV; rw [List.take_succ_eq_append_getElem h, List.map_append]; rfl
theorem joined_none (a : Option Addr) (c : Nat) (w : World) : Calls Tryz.prog 21 #[.slice a 0 c] w fun e w' => e = .returned (.string ⟨#[]⟩) ∧ w' = w := by
  go_enter Tryz.func21, Tryz.ntmps21
  go_wp2_with fail
  refine (Tryz.strings_Join_none a c ⟨#[]⟩ w).mono ?_
  rintro e w' ⟨rfl, rfl⟩
  go_wp2_with fail
  go_ret
  exact ⟨rfl, rfl⟩

/-- What the loop over the Kids keeps. -/
def LI (w W3 : World) (cells : List Value) (op : Int) (l : List T) (v : Value) (W : World) : Prop :=
  W.ownsRow (w.heap.size + 1) 9 1 v l.length (kidsV op l) ∧ Below w.heap.size W3 W ∧ Blk W w.heap.size cells 27

end Go.Proofs.YtihbmgpjihgodaaGreatDoor
