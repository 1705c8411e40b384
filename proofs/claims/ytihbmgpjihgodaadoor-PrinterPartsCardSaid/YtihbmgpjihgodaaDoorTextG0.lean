/- A right tree's text: the program's: aids for printer.text. (Printed by gen_textg.py.) -/
import Derived.Test.YtihbmgpjihgodaaDoorTextAid
import Derived.Deep.RegionHeldLaw
import Derived.Deep.RegionLaw
import Derived.Deep.Cut
import Derived.Deep.DrawnRows
import Derived.Deep.AppendLies
import Derived.Maps.AppendAt
import Derived.Lib.SmallJoins
namespace Go.Proofs.YtihbmgpjihgodaaDoor
open Go Go.RowKit Go.Proofs Go.Shelf
attribute [local go_sem ↓] Go.wp_at_zero Go.wp_at_succ

theorem infoStrT : (Tryd.prog.info? 9).map (fun i => (i.zero, i.size, i.bytes)) = some (some (.string ⟨#[]⟩), 1, 16) := by kernel_rfl
theorem own_keep {a c : World} {base n k : Nat} {e : TypeId} {v : Value} {xs : List Value} (h : a.ownsRow base e k v n xs) (hb : Below a.heap.size a c) : c.ownsRow base e k v n xs := h.kept (grownBy_below hb none) (by cases v.ownBlock <;> simp)
theorem below_al {W a : World} (h : Below W.heap.size W a) (o : Obj) : Below W.heap.size W (a.alloc o) := h.alloc h.size o
theorem far_keep {a c : World} {row : Option Nat} {b o : Nat} {v : Value} (hg : a.grownBy c row) (hne : some b ≠ row) (hc : a.cell? ⟨b, o, none⟩ = some v) : c.cell? ⟨b, o, none⟩ = some v := by
  rw [hg.cell_far ⟨b, o, none⟩ (cell_lt16 hc) hne]; exact hc
theorem join_bar (l : List (List UInt8)) : Lib.join l [124] = joinTx l := by
  induction l with
  | nil => rfl
  | cons x l ih =>
    cases l with
    | nil => simp [Lib.join, joinTx]
    | cons y l =>
      rw [Lib.join_cons] at ih ⊢
      simp only [joinTx, ← ih, Lib.joinTail, List.map_cons, List.flatten_cons]
      simp
/-- What the loop over the Kids writes of one. -/
def kidTx (op : Int) (k : T) : List UInt8 := bracedTx (textT k) (decide (op = 11 ∧ (throughT k).op = 12))
theorem kidTx_11 (k : T) : kidTx 11 k = bracedTx (textT k) (decide ((throughT k).op = 12)) := by unfold kidTx; simp
theorem kidTx_no {op : Int} (h : op ≠ 11) (k : T) : kidTx op k = textT k := by unfold kidTx; rw [decide_eq_false (fun e => h e.1)]; rfl
def kidsV (op : Int) (l : List T) : List Value := l.map (fun k => .string ⟨(kidTx op k).toArray⟩)
theorem kidsV_take (op : Int) (l : List T) (k : Nat) (h : k < l.length) : kidsV op (l.take (k + 1)) = kidsV op (l.take k) ++ [.string ⟨(kidTx op l[k]).toArray⟩] := by
  unfold kidsV; rw [List.take_succ_eq_append_getElem h, List.map_append]; rfl
theorem joined_none (a : Option Addr) (c : Nat) (w : World) : Calls Tryd.prog 19 #[.slice a 0 c] w fun e w' => e = .returned (.string ⟨#[]⟩) ∧ w' = w := by
  go_enter Tryd.func19, Tryd.ntmps19
  go_wp2_with fail
  refine (Tryd.strings_Join_none a c ⟨#[]⟩ w).mono ?_
  rintro e w' ⟨rfl, rfl⟩
  go_wp2_with fail
  go_ret
  exact ⟨rfl, rfl⟩

/-- What the loop over the Kids keeps. -/
def LI (w W3 : World) (cells : List Value) (op : Int) (l : List T) (v : Value) (W : World) : Prop :=
  W.ownsRow (w.heap.size + 1) 9 1 v l.length (kidsV op l) ∧ Below w.heap.size W3 W ∧ Blk W w.heap.size cells 27

end Go.Proofs.YtihbmgpjihgodaaDoor
