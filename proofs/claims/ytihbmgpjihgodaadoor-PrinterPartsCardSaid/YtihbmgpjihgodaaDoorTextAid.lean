/- What the two ways of writing a tree's text lean on: the tables; a tree's text by its Op. -/
import Derived.Test.YtihbmgpjihgodaaDoorPrintPure
import Derived.Test.YtihbmgpjihgodaaDoorPrintLit
import Derived.Test.YtihbmgpjihgodaaDoorPrintPlace
import Derived.Test.YtihbmgpjihgodaaDoorPrintSetG
namespace Go.Proofs.YtihbmgpjihgodaaDoor
open Go Go.RowKit Go.Proofs Go.Shelf

/-- The library's tables that are read. -/
def Tb (W : World) : Prop := Bru W ∧ Pow W
theorem Tb.below {W W' : World} (h : Tb W) (hb : Below W.heap.size W W') : Tb W' := ⟨h.1.below hb h.1.lt, Lib.tabBelow_of_tabIs h.2 _ hb⟩

section
variable (kids : List T) (rune : Int) (set : List (Int × Int)) (pl cap : Int) (name : ByteArray) (mn mx : Int) (lz : Bool)
theorem textT_1 : textT (.mk 1 kids rune set pl cap name mn mx lz) = [91, 94, 92, 120, 123, 48, 125, 45, 92, 120, 123, 49, 48, 102, 102, 102, 102, 125, 93] := by unfold textT; rfl
theorem textT_2 : textT (.mk 2 [] rune set pl cap name mn mx lz) = [40, 63, 58, 41] := by unfold textT; rfl
theorem textT_3 : textT (.mk 3 kids rune set pl cap name mn mx lz) = litTx rune := by unfold textT; rfl
theorem textT_4 : textT (.mk 4 kids rune set pl cap name mn mx lz) = setTx set := by unfold textT; rfl
theorem textT_5 : textT (.mk 5 kids rune set pl cap name mn mx lz) = placeTx pl := by unfold textT; rfl
theorem textT_6 (k : T) : textT (.mk 6 [k] rune set pl cap name mn mx lz) = (if name.size = 0 then [40] else [40, 63, 80, 60] ++ name.data.toList ++ [62]) ++ textT k ++ [41] := by
  rw [textT, if_neg (by decide), if_neg (by decide), if_neg (by decide), if_neg (by decide), if_pos rfl, textsT_map]
  simp
theorem textT_12 : textT (.mk 12 kids rune set pl cap name mn mx lz) = joinTx (textsT kids) := by unfold textT; rfl
theorem textT_rep {op : Int} (ho : op = 7 ∨ op = 8 ∨ op = 9 ∨ op = 10) (k : T) : textT (.mk op [k] rune set pl cap name mn mx lz) = bracedTx (textT k) (mustT k) ++ signTx op mn mx lz := by
  rw [textT, if_neg (by omega), if_neg (by omega), if_neg (by omega), if_neg (by omega), if_neg (by omega), if_neg (by omega), if_pos ho, textsT_map]
  simp
theorem textT_11 (h : kids.length ≠ 1) : textT (.mk 11 kids rune set pl cap name mn mx lz) = if kids.length = 0 then [40, 63, 58, 41] else (brTs kids).flatten := by
  rw [textT, if_neg (by decide), if_neg (by decide), if_neg (by decide), if_neg (by decide), if_neg (by decide), if_neg (by decide), if_neg (by decide), if_neg h]
end
theorem cell_keep {a c : World} {b o : Nat} {v : Value} (hb : Below a.heap.size a c) (hc : a.cell? ⟨b, o, none⟩ = some v) : c.cell? ⟨b, o, none⟩ = some v := cell_lift hb (cell_lt16 hc) hc
theorem below_keep {N : Nat} {a b c : World} (h : Below N a b) (hN : N ≤ a.heap.size) (k : Below b.heap.size b c) : Below N a c := h.trans (k.mono (Nat.le_trans hN h.size))
theorem joinTx_snoc (l : List (List UInt8)) (x : List UInt8) : joinTx (l ++ [x]) = if l = [] then x else joinTx l ++ [124] ++ x := by
  induction l with
  | nil => simp [joinTx]
  | cons y l ih =>
    cases l with
    | nil => simp [joinTx]
    | cons z l =>
      rw [if_neg (by simp)] at ih
      rw [if_neg (by simp)]
      simp only [List.cons_append, joinTx] at ih ⊢
      rw [ih]; simp
theorem texts_take (l : List T) (k : Nat) (h : k < l.length) : textsT (l.take (k + 1)) = textsT (l.take k) ++ [textT l[k]] := by
  rw [textsT_map, textsT_map, List.take_succ_eq_append_getElem h, List.map_append]; rfl
theorem brs_take (l : List T) (k : Nat) (h : k < l.length) : (brTs (l.take (k + 1))).flatten = (brTs (l.take k)).flatten ++ bracedTx (textT l[k]) (decide ((throughT l[k]).op = 12)) := by
  rw [brTs_map, brTs_map, List.take_succ_eq_append_getElem h, List.map_append, List.flatten_append]; simp
theorem brs_len (l : List T) (h : ∀ k ∈ l, PlainAll k) : (brTs l).flatten.length ≤ 100 * pcL l := by
  induction l with
  | nil => simp [brTs, pcL]
  | cons a l ih =>
    have h1 := textT_len a (h a (List.mem_cons_self ..))
    have h2 := ih (fun k hk => h k (List.mem_cons_of_mem _ hk))
    have h3 := bracedTx_len (textT a) (decide ((throughT a).op = 12))
    simp only [brTs, List.flatten_cons, List.length_append, pcL]; omega
theorem join_len (l : List T) (h : ∀ k ∈ l, PlainAll k) : (joinTx (textsT l)).length ≤ 100 * pcL l := by
  have h0 := joinTx_len (textsT l)
  have : (textsT l).flatten.length + (textsT l).length ≤ 100 * pcL l := by
    clear h0
    induction l with
    | nil => simp [textsT, pcL]
    | cons a l ih =>
      have h1 := textT_len a (h a (List.mem_cons_self ..))
      have h2 := ih (fun k hk => h k (List.mem_cons_of_mem _ hk))
      simp only [textsT, List.flatten_cons, List.length_append, List.length_cons, pcL]; omega
  omega
theorem mustT_cases {k : T} (h : PlainAll k) : mustT k = if (throughT k).op = 11 then decide (0 < (throughT k).kids.length) else decide (7 ≤ (throughT k).op) := by
  have hp := h.through.self
  unfold mustT
  split
  · rfl
  · rename_i h11
    generalize throughT k = u at *
    obtain ⟨op, kids, rune, set, pl, cap, name, mn, mx, lz⟩ := u
    have := (plainT_is hp).op1
    simp only [T.op] at h11 ⊢
    exact decide_eq_decide.2 (by omega)
theorem mustT_through (k : T) : mustT (throughT k) = mustT k := by unfold mustT; rw [throughT_idem]
/-- A text as a string, with a bound on its size. -/
theorem text_size {t : T} (h : PlainAll t) (hp : pcT t ≤ 1000000) : (⟨(textT t).toArray⟩ : ByteArray).size ≤ 100000000 := by
  have := textT_len t h
  show (textT t).length ≤ _
  omega
theorem throughT_alone {t : T} {op : Int} {kids : List T} {rune : Int} {set : List (Int × Int)} {pl cap : Int} {name : ByteArray} {mn mx : Int} {lz : Bool} (h : .mk op kids rune set pl cap name mn mx lz = throughT t) : ¬ (kids.length = 1 ∧ (op = 11 ∨ op = 12)) := by
  rintro ⟨h1, h2⟩
  obtain ⟨k, rfl⟩ := List.length_eq_one_iff.1 h1
  have e := throughT_idem t
  rw [← h, throughT_one, if_pos h2] at e
  have h3 := throughT_size k
  have h4 := congrArg SizeOf.sizeOf e
  rw [h4] at h3
  simp at h3
  omega
end Go.Proofs.YtihbmgpjihgodaaDoor
