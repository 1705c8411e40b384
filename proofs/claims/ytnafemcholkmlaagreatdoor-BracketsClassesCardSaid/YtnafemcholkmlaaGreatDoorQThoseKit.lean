/- What sets.those keeps from stretch to stretch. A quiet region that draws its order, within a round of a range over a function. -/
import Derived.Test.YtnafemcholkmlaaGreatDoorQSpans
import Derived.Sort.QuietIn
import Derived.RangeFuncBox
import Derived.RangeFuncCalls
import Derived.OwnWalkIn
namespace Go.Proofs.YtnafemcholkmlaaGreatDoor
open Go Go.RowKit Go.Proofs Go.Shelf

def flatR (rs : List (Int × Int)) : List Value := rs.flatMap fun r => [.int .i32 r.1, .int .i32 r.2]
theorem flatR_append (a b : List (Int × Int)) : flatR (a ++ b) = flatR a ++ flatR b := by simp [flatR]
theorem flatR_length (rs : List (Int × Int)) : (flatR rs).length = rs.length * 2 := by
  induction rs with
  | nil => rfl
  | cons x rs ih => rw [show flatR (x :: rs) = [.int .i32 x.1, .int .i32 x.2] ++ flatR rs by simp [flatR], List.length_append, ih]; simp; omega
theorem flatR_snoc0 (b : List (Int × Int)) (y : Int × Int) : (flatR (b ++ [y]))[b.length * 2]? = some (.int .i32 y.1) := by
  rw [flatR_append, List.getElem?_append_right (by rw [flatR_length]; omega), flatR_length]; simp [flatR]
theorem flatR_snoc1 (b : List (Int × Int)) (y : Int × Int) : (flatR (b ++ [y]))[b.length * 2 + 1]? = some (.int .i32 y.2) := by
  rw [flatR_append, List.getElem?_append_right (by rw [flatR_length]; omega), flatR_length, show b.length * 2 + 1 - b.length * 2 = 1 by omega]; simp [flatR]
theorem flatR_set (b : List (Int × Int)) (y : Int × Int) (h : Int) : (flatR (b ++ [y])).set (b.length * 2 + 1) (.int .i32 h) = flatR (b ++ [(y.1, h)]) := by
  rw [flatR_append, flatR_append, List.set_append_right _ _ (by rw [flatR_length]; omega), flatR_length, show b.length * 2 + 1 - b.length * 2 = 1 by omega]; simp [flatR]

theorem pushT_nil (x : Int × Int) : pushT [] x = [x] := rfl
theorem pushT_snoc (b : List (Int × Int)) (y x : Int × Int) : pushT (b ++ [y]) x = if y.2 + 1 = x.1 then b ++ [(y.1, x.2)] else b ++ [y] ++ [x] := by unfold pushT; simp
theorem pushT_length (out : List (Int × Int)) (x : Int × Int) : (pushT out x).length ≤ out.length + 1 := by
  rcases snoc_cases out with rfl | ⟨b, y, rfl⟩
  · simp [pushT_nil]
  · rw [pushT_snoc]; split <;> simp

/-- All ends of a list are runes. -/
def tops (out : List (Int × Int)) : Prop := ∀ r ∈ out, 0 ≤ r.2 ∧ r.2 ≤ 1114111
theorem tops_push {out : List (Int × Int)} {x : Int × Int} (h : tops out) (h0 : 0 ≤ x.2) (h1 : x.2 ≤ 1114111) : tops (pushT out x) := by
  rcases snoc_cases out with rfl | ⟨b, y, rfl⟩
  · rw [pushT_nil]; intro r hr; simp only [List.mem_cons, List.not_mem_nil, or_false] at hr; subst hr; exact ⟨h0, h1⟩
  · rw [pushT_snoc]
    split
    · intro r hr
      rcases List.mem_append.1 hr with hr | hr
      · exact h r (List.mem_append.2 (.inl hr))
      · simp only [List.mem_cons, List.not_mem_nil, or_false] at hr; subst hr; exact ⟨h0, h1⟩
    · intro r hr
      rcases List.mem_append.1 hr with hr | hr
      · exact h r hr
      · simp only [List.mem_cons, List.not_mem_nil, or_false] at hr; subst hr; exact ⟨h0, h1⟩

theorem infoRange : (Tryz.prog.info? 43).map (fun i => (i.zero, i.size, i.bytes)) = some (some (.agg #[.int .i32 0, .int .i32 0]), 2, 8) := by kernel_rfl

/-- A store into an owned row. -/
theorem ownsRow_setIn {w : World} {B : Nat} {e : TypeId} {size g n cap : Nat} {xs : List Value} (h : w.ownsRow B e size (.slice (some ⟨g, 0, none⟩) n cap) n xs) (j : Nat) (u : Value) :
    (w.setCell ⟨g, j, none⟩ u).ownsRow B e size (.slice (some ⟨g, 0, none⟩) n cap) n (xs.set j u) := by
  obtain ⟨h1, h2⟩ := h
  rcases h2 with ⟨h0, _⟩ | ⟨g', cap', cur, hv, hg, hh, hn, hcap, hsz, htake⟩
  · cases h0
  · cases hv
    refine ⟨by simpa using h1, .inr ⟨g, cap, cur.setIfInBounds j u, rfl, hg, ?_, hn, hcap, by simpa using hsz, ?_⟩⟩
    · simp [World.setCell, Array.getElem?_modify, hh]
    · rw [← htake, Array.toList_setIfInBounds, List.take_set]

/-- What a round keeps for the loop's law. -/
structure StS (n₀ L : Nat) (W W' : World) : Prop where
  keeps : KeepsOthers W W'
  kp : KpS n₀ L W W'
theorem StS.trans {n₀ L : Nat} {a b c : World} (h : StS n₀ L a b) (k : StS n₀ L b c) : StS n₀ L a c := ⟨h.keeps.trans k.keeps, h.kp.trans k.kp⟩
theorem StS.below {n₀ L : Nat} {W W' : World} (hb : Below W.heap.size W W') (hn : n₀ ≤ W.heap.size) : StS n₀ L W W' :=
  ⟨KeepsOthers.of_grownBy (grownBy_below hb none) (fun j o e => by cases e), hb.mono hn, fun b _ _ _ ho => hb.block b (Array.getElem?_eq_some_iff.1 ho).1⟩
theorem StS.own {n₀ L B : Nat} {W W' : World} {v : Value} {n : Nat} {xs : List Value} (ho : W.ownsRow B 43 2 v n xs) (hB : n₀ ≤ B) (hn : n₀ ≤ W.heap.size) (hg : W.grownBy W' v.ownBlock) : StS n₀ L W W' := by
  have hcell : ∀ j, v.ownBlock = some j → ∃ c fz, W.heap[j]? = some (.cells c 43 fz) ∧ B ≤ j := by
    intro j hj
    rcases ho.2 with ⟨rfl, _⟩ | ⟨g, cap, cur, rfl, hb, hh, _⟩
    · cases hj
    · obtain rfl : g = j := by simpa [Value.ownBlock] using hj
      exact ⟨_, _, hh, hb⟩
  refine ⟨KeepsOthers.of_grownBy hg (fun j o e h => ?_), below_of_grownBy hg hn (fun k e => ?_), fun b _ cs z h => hg.block b (Array.getElem?_eq_some_iff.1 h).1 (fun e => ?_)⟩
  · obtain ⟨c, fz, hc, _⟩ := hcell j e
    rw [hc] at h; cases h; rfl
  · obtain ⟨_, _, _, h⟩ := hcell k e; omega
  · obtain ⟨c, fz, hc, _⟩ := hcell b e.symm
    rw [hc] at h; cases h
theorem StS.box {n₀ L b : Nat} {W : World} {v u : Value} (h : Boxed W b 24 v) (hn : n₀ ≤ W.heap.size) (h0 : n₀ ≤ b) : StS n₀ L W (W.setCell ⟨b, 0, none⟩ u) :=
  ⟨KeepsOthers.setCell _ _ _, below_of_grownBy (grownBy_setCell W b 0 u) hn (fun k e => by cases e; exact h0), fun c _ cs z hc => Below.heap_setCell W _ _ c (fun e => by
    have e : c = b := e
    subst e
    have h' : W.heap[c]? = some (.cells #[v] 24 (0, 0)) := h
    rw [h'] at hc; cases hc)⟩

theorem cell_two_new (w : World) (a b : Value) (t : TypeId) : ∀ j u, [a, b][j]? = some u → (w.alloc (.cells #[a, b] t)).cell? ((⟨w.heap.size, 0, none⟩ : Addr).add j) = some u := by
  intro j u hj
  match j, hj with
  | 0, hj => simp at hj; subst hj; simp [Addr.add]
  | 1, hj => simp at hj; subst hj; simp [Addr.add]
  | j + 2, hj => simp at hj

/-- What the loop of those keeps. -/
structure TI (w : World) (b : Nat) (fv : Value) (out : List (Int × Int)) (k : Nat) (L : Nat) (v : Value) (W : World) : Prop where
  box : Boxed W (b + 1) 24 v
  fn : Boxed W b 75 fv
  row : W.ownsRow w.heap.size 43 2 v out.length (flatR out)
  len : out.length ≤ k
  top : tops out
  below : Below w.heap.size w W
  size : L ≤ W.heap.size
theorem TI.kept {w : World} {b k L : Nat} {fv : Value} {out : List (Int × Int)} {v : Value} {W W' : World} (h : TI w b fv out k L v W) (hb : Below W.heap.size W W') : TI w b fv out k L v W' :=
  ⟨h.box.kept (grownBy_below hb none) (by simp), h.fn.kept (grownBy_below hb none) (by simp), h.row.kept (grownBy_below hb none) (by cases v.ownBlock <;> simp), h.len, h.top, h.below.trans (hb.mono h.below.size), Nat.le_trans h.size hb.size⟩

/-- A stretch put behind the others. -/
theorem TI.pushed {w : World} {k : Nat} {fv : Value} {out : List (Int × Int)} {v v' : Value} {W w4 : World} {lo hx : Int} {tmp : Obj} (h : TI w w.heap.size fv out k (w.heap.size + 1 + 1 + 1) v W) (h0 : 0 ≤ hx) (h1 : hx ≤ 1114111) (hp : pushT out (lo, hx) = out ++ [(lo, hx)])
    (hown' : w4.ownsRow w.heap.size 43 2 v' (out.length + 1) (flatR out ++ [.int .i32 lo, .int .i32 hx])) (hgrow : (W.alloc tmp).grownBy w4 v.ownBlock) :
    TI w w.heap.size fv (pushT out (lo, hx)) (k + 1) (w.heap.size + 1 + 1 + 1) v' (w4.setCell ⟨w.heap.size + 1, 0, none⟩ v') ∧ StS w.heap.size (w.heap.size + 1 + 1 + 1) W (w4.setCell ⟨w.heap.size + 1, 0, none⟩ v') := by
  have hs := h.below.size
  obtain ⟨hv1, hv2, hr2, hk2, hb2⟩ := h.box.appended (by decide) h.row hs (by omega) hown' hgrow
  have hs4 := hgrow.size
  simp only [World.size_alloc] at hs4
  refine ⟨⟨hv2, ?_, ?_, ?_, tops_push h.top h0 h1, h.below.trans hb2, ?_⟩, ?_⟩
  · exact ((h.fn.alloc tmp).kept hgrow ((h.fn.alloc tmp).not_row (by decide) (h.row.alloc tmp))).other (by omega) _
  · rw [hp, List.length_append, flatR_append]; exact hr2
  · rw [hp, List.length_append]; have := h.len; simp; omega
  · have := h.size; simp [World.setCell]; omega
  · exact (StS.below ((Below.refl _ W).alloc (Nat.le_refl _) tmp) hs).trans ((StS.own (h.row.alloc tmp) (Nat.le_refl _) (by simp; omega) hgrow).trans (StS.box hv1 (by omega) (by omega)))

/-- A stretch joined to the last. -/
theorem TI.joined {w : World} {k : Nat} {fv : Value} {b : List (Int × Int)} {y1 y2 : Int} {g vc : Nat} {W : World} {lo hx : Int} (h : TI w w.heap.size fv (b ++ [(y1, y2)]) k (w.heap.size + 1 + 1 + 1) (.slice (some ⟨g, 0, none⟩) (b ++ [(y1, y2)]).length vc) W) (h0 : 0 ≤ hx) (h1 : hx ≤ 1114111) (hy : y2 + 1 = lo) :
    TI w w.heap.size fv (pushT (b ++ [(y1, y2)]) (lo, hx)) (k + 1) (w.heap.size + 1 + 1 + 1) (.slice (some ⟨g, 0, none⟩) (b ++ [(y1, y2)]).length vc) (W.setCell ⟨g, b.length * 2 + 1, none⟩ (.int .i32 hx)) ∧ StS w.heap.size (w.heap.size + 1 + 1 + 1) W (W.setCell ⟨g, b.length * 2 + 1, none⟩ (.int .i32 hx)) := by
  have hs := h.below.size
  have hg := grownBy_setCell W g (b.length * 2 + 1) (.int .i32 hx)
  have hp : pushT (b ++ [(y1, y2)]) (lo, hx) = b ++ [(y1, hx)] := by rw [pushT_snoc, if_pos hy]
  have hr := ownsRow_setIn h.row (b.length * 2 + 1) (.int .i32 hx)
  rw [flatR_set] at hr
  have hst : StS w.heap.size (w.heap.size + 1 + 1 + 1) W (W.setCell ⟨g, b.length * 2 + 1, none⟩ (.int .i32 hx)) := StS.own h.row (Nat.le_refl _) hs hg
  refine ⟨⟨h.box.kept hg (h.box.not_row (by decide) h.row), h.fn.kept hg (h.fn.not_row (by decide) h.row), ?_, ?_, tops_push h.top h0 h1, h.below.trans hst.kp.1, ?_⟩, hst⟩
  · rw [hp]; simpa using hr
  · rw [hp]; have := h.len; simp at this ⊢; omega
  · have := h.size; simp [World.setCell]; omega
end Go.Proofs.YtnafemcholkmlaaGreatDoor

namespace Go.Proofs.YtnafemcholkmlaaGreatDoor
open Go Go.RowKit Go.Proofs

section
variable {F : Fence} {n : Nat} {P : Program} {ops : Array Oper} {Q : Exit → Act → World → Prop} {md : Region.Mode}

def noDefer (o : Oper) : Bool := match o.op with | .defer _ => false | _ => true
theorem noDefer_ne {o : Oper} (h : noDefer o = true) : ∀ c, o.op ≠ .defer c := by
  intro c e
  simp [noDefer, e] at h

theorem wpIn_inRound_op (l : Nat) {o : Oper} (hd : noDefer o = true) {a : Act} {w : World} {K : Act → World → Prop} (h : o.wpIn F n P a w K Q) : o.wpIn (F.inRound l) n P a w K Q := by
  unfold Oper.wpIn at h ⊢
  refine ⟨h.1, ?_⟩
  have h2 := h.2
  rw [Oper.semAt_plain _ _ _ (noDefer_ne hd)] at h2 ⊢
  exact h2

theorem wpOpIn_inRound (l : Nat) (hd : ∀ (i : Nat) (o : Oper), ops[i]? = some o → noDefer o = true) {i : Nat} {a : Act} {w : World} {K K' : Act → World → Prop} (hK : ∀ a w, K a w → K' a w) (h : wpOpIn F n P ops Q i K a w) : wpOpIn (F.inRound l) n P ops Q i K' a w := by
  have h := wpOpIn_mono hK h
  unfold wpOpIn at h ⊢
  split
  · simpa [*] using h
  · rename_i o ho
    simp only [ho] at h
    split
    · rename_i hw; simp only [hw, if_true] at h; exact wpIn_inRound_op l (hd i o ho) h
    · rename_i hw; simp only [hw] at h; exact ⟨h.1, h.2⟩

theorem wpAnyIn_inRound (l : Nat) (hd : ∀ (i : Nat) (o : Oper), ops[i]? = some o → noDefer o = true) : ∀ (fuel : Nat) (listed : Array Bool) (a : Act) (w : World), wpAnyIn F n P md ops Q fuel listed a w → wpAnyIn (F.inRound l) n P md ops Q fuel listed a w
  | 0, _, _, _, h => h
  | fuel + 1, _, _, _, h => ⟨h.1, fun i hi => wpOpIn_inRound l hd (fun a w h => wpAnyIn_inRound l hd fuel _ a w h) (h.2 i hi)⟩

theorem wpIn_region_quiet_round (lr : Nat) {id : Nat} {a : Act} {w : World} {l : List Oper} (hro : F.round = none) (hm : P.follows .mixedOrders = true) (hB : Region.lexB .any l.toArray = true) (hd : l.all noDefer = true)
    (h : wpQuietIn F n P l.toArray (fun w' => ∃ n, w' = w.drewN n) (fun a' => ∀ w', (∃ n, w' = w.drewN n) → Q .normal a' w') l a) : (Code.region id l.toArray true).wpIn (F.inRound lr) n P Q a w := by
  have hB' := hB
  simp only [Region.lexB, Bool.and_eq_true] at hB
  refine wpIn_region_any hm (wpAnyIn_inRound lr (fun i o ho => ?_) _ _ _ _ (wpAnyIn_of_quiet (C := fun w' => ∃ n, w' = w.drewN n) (Q := fun a' => ∀ w', (∃ n, w' = w.drewN n) → Q .normal a' w') hro (fun _ w' hw' h => h w' hw') _ _ _ _ ⟨1, rfl⟩ ?_))
  · rw [List.all_eq_true] at hd
    exact hd o (by rw [List.getElem?_toArray] at ho; exact List.mem_of_getElem? ho)
  · have := wpAnyQIn_lex (F := F) (n := n) (C := fun w' => ∃ n, w' = w.drewN n) (md := .any) hB.1 l.toArray.toList 0 (Array.replicate l.toArray.size false) a (by simp) (by simpa using hB.2) (by simpa using h)
    simpa using this
end
end Go.Proofs.YtnafemcholkmlaaGreatDoor
