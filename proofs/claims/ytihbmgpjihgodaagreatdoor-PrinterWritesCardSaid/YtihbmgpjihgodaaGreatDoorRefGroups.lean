/- A tree's groups, in order: martelloref05.Groups. -/
import Derived.Test.YtihbmgpjihgodaaGreatDoorRightSame
import Derived.Test.YtihbmgpjihgodaaGreatDoorQPrintAid
import Derived.Test.YtihbmgpjihgodaaGreatDoorPrintThrough
import Derived.Laws.AppendOwnNone
import Derived.Maps.AppendAt
import Derived.Lib.SmallJoins
namespace Go.Proofs.YtihbmgpjihgodaaGreatDoor
open Go Go.RowKit Go.Proofs Go.Shelf

/-- Trees that lie one behind the other, ten cells each. -/
def FlatT (w : World) (B : Nat) : List T → List Value → Prop
  | [], xs => xs = []
  | g :: gs, xs => ∃ cs r, xs = cs ++ r ∧ TreeV w B g cs ∧ FlatT w B gs r
theorem FlatT.app {w : World} {B : Nat} : ∀ {a b : List T} {xs ys : List Value}, FlatT w B a xs → FlatT w B b ys → FlatT w B (a ++ b) (xs ++ ys)
  | [], _, _, _, h, k => by obtain rfl : _ = [] := h; exact k
  | g :: gs, b, xs, ys, h, k => by
    obtain ⟨cs, r, rfl, h1, h2⟩ := h
    exact ⟨cs, r ++ ys, by simp, h1, FlatT.app h2 k⟩
theorem FlatT.one {w : World} {B : Nat} {t : T} {cs : List Value} (h : TreeV w B t cs) : FlatT w B [t] cs := ⟨cs, [], by simp, h, rfl⟩
theorem FlatT.below {w w' : World} {B : Nat} (hb : Below B w w') : ∀ {gs : List T} {xs : List Value}, FlatT w B gs xs → FlatT w' B gs xs
  | [], _, h => h
  | g :: gs, xs, h => by
    obtain ⟨cs, r, e, h1, h2⟩ := h
    exact ⟨cs, r, e, h1.below hb, FlatT.below hb h2⟩
theorem FlatT.length {w : World} {B : Nat} : ∀ {gs : List T} {xs : List Value}, FlatT w B gs xs → xs.length = gs.length * 10
  | [], _, h => by obtain rfl : _ = [] := h; rfl
  | g :: gs, xs, h => by
    obtain ⟨cs, r, rfl, h1, h2⟩ := h
    rw [List.length_append, h1.length, FlatT.length h2, List.length_cons]; omega
theorem TreeV.oneCells {w : World} {B : Nat} {t : T} {cs : List Value} (h : TreeV w B t cs) : ∀ u ∈ cs, u.oneCell' = true := by
  obtain ⟨op, ka, kn, kc, rune, sa, sn, sc, pl, cap, name, mn, mx, lz, rfl⟩ := h.form
  intro u hu
  simp only [List.mem_cons, List.not_mem_nil, or_false] at hu
  rcases hu with rfl | rfl | rfl | rfl | rfl | rfl | rfl | rfl | rfl | rfl <;> rfl
theorem FlatT.oneCells {w : World} {B : Nat} : ∀ {gs : List T} {xs : List Value}, FlatT w B gs xs → ∀ u ∈ xs, u.oneCell' = true
  | [], _, h => by obtain rfl : _ = [] := h; intro u hu; simp at hu
  | g :: gs, xs, h => by
    obtain ⟨cs, r, rfl, h1, h2⟩ := h
    intro u hu
    rcases List.mem_append.1 hu with hu | hu
    · exact h1.oneCells u hu
    · exact FlatT.oneCells h2 u hu
theorem FlatT.get {w : World} {B : Nat} : ∀ {gs : List T} {xs : List Value}, FlatT w B gs xs → ∀ (i : Nat) (hi : i < gs.length), ∃ cs, TreeV w B gs[i] cs ∧ ∀ j, j < 10 → xs[i * 10 + j]? = cs[j]?
  | [], _, _, i, hi => absurd hi (Nat.not_lt_zero _)
  | g :: gs, xs, h, 0, _ => by
    obtain ⟨cs, r, rfl, h1, h2⟩ := h
    refine ⟨cs, h1, fun j hj => ?_⟩
    rw [Nat.zero_mul, Nat.zero_add, List.getElem?_append_left (by rw [h1.length]; exact hj)]
  | g :: gs, xs, h, i + 1, hi => by
    obtain ⟨cs, r, rfl, h1, h2⟩ := h
    obtain ⟨cs', h3, h4⟩ := FlatT.get h2 i (by simpa using hi)
    refine ⟨cs', by simpa using h3, fun j hj => ?_⟩
    rw [List.getElem?_append_right (by rw [h1.length]; omega), h1.length, show (i + 1) * 10 + j - 10 = i * 10 + j by omega]
    exact h4 j hj

/-- What hands groups back: a row of its own. -/
def GroupsOut (w : World) (base B : Nat) (gs : List T) (e : Ending) (w' : World) : Prop :=
  ∃ v xs, e = .returned v ∧ w'.ownsRow base 27 10 v gs.length xs ∧ FlatT w' B gs xs ∧ Below w.heap.size w w'
theorem infoTree : (Tryz.prog.info? 27).map (fun i => (i.zero, i.size, i.bytes)) = some (some (.agg zeroT.toArray), 10, 120) := by kernel_rfl
theorem cells_ten_at (w : World) (b : Nat) (hb : b = w.heap.size) (cs : List Value) (t : TypeId) : ∀ j u, cs[j]? = some u → (w.alloc (.cells cs.toArray t)).cell? ((⟨b, 0, none⟩ : Addr).add j) = some u := by
  subst hb
  intro j u hu
  rw [add_at16, Nat.zero_add]
  exact (Blk.new w cs t).cell hu
theorem groupsL_app (a b : List T) : groupsL (a ++ b) = groupsL a ++ groupsL b := List.filter_append ..
theorem groupsL_len (l : List T) : (groupsL l).length ≤ l.length := List.length_filter_le ..
theorem groupsL_parts (op : Int) (kids : List T) (rune : Int) (set : List (Int × Int)) (pl cap : Int) (name : ByteArray) (mn mx : Int) (lz : Bool) :
    groupsL (parts (.mk op kids rune set pl cap name mn mx lz)) = (if op = 6 then [.mk op kids rune set pl cap name mn mx lz] else []) ++ groupsL (partsL kids) := by
  unfold parts groupsL
  rw [List.filter_cons]
  by_cases h : op = 6
  · subst h; simp [T.op]
  · simp [T.op, h]

/-- What the loop over the Kids keeps. -/
def GI (w : World) (B : Nat) (cells : List Value) (gs : List T) (v : Value) (W : World) : Prop :=
  ∃ xs, W.ownsRow (w.heap.size + 1) 27 10 v gs.length xs ∧ FlatT W B gs xs ∧ Below w.heap.size w W ∧ Blk W w.heap.size cells 27

set_option maxRecDepth 100000 in
set_option maxHeartbeats 4000000 in
theorem ref05_Groups (t : T) : ∀ (cs : List Value) (B : Nat) (w : World), TreeV w B t cs → B ≤ w.heap.size → (parts t).length ≤ 1000000 →
    Calls Tryz.prog 27 #[.agg cs.toArray] w (GroupsOut w w.heap.size B (groupsL (parts t))) := by
  obtain ⟨i0, hi, hz0, hz1, hz2⟩ := info_parts infoTree
  induction t using T.ind with
  | h op kids rune set pl cap name mn mx lz ih =>
    intro cs B w h hB hN
    have HT := Lib.hid h
    obtain ⟨ka, kn, kc, sa, sn, sc, rfl, ⟨rfl, h2, h3⟩, h4⟩ := h.open
    have IH := Lib.hid ih; clear ih
    have H3 := Lib.hid h3; clear h3
    clear h h4
    have HG := Lib.hid (groupsL_parts op kids rune set pl cap name mn mx lz)
    have hNk : (partsL kids).length < 1000000 := by simp only [parts, List.length_cons] at hN; omega
    have HNK := Lib.hid hNk
    clear hN hNk
    obtain ⟨cells, hcells⟩ : ∃ cells, cells = cellsT op ka kids.length kc rune sa sn sc pl cap name mn mx lz := ⟨_, rfl⟩
    have HCE := Lib.hid hcells
    clear hcells
    -- from the loop on
    have loop : ∀ (hd : List T) (v : Value) (W : World), hd.length ≤ 1 → hd = (if op = 6 then [.mk op kids rune set pl cap name mn mx lz] else []) → GI w B cells hd v W → True := fun _ _ _ _ _ _ => trivial
    clear loop
    by_cases h6 : op = 6
    · subst h6
      go_enter Tryz.func27, Tryz.ntmps27
      go_wp2_with (at_builtin; (refine wpList_append_own _ rfl _ _ 23 rfl (w.heap.size + 1) 27 i0 (.agg zeroT.toArray) 10 120 Tryz.underlying23 hi hz0 hz1 hz2 rfl (by decide) (.slice none 0 0) 0 [] rfl (World.ownsRow_nil _ _ _ _) ⟨w.heap.size + 1, 0, none⟩ 1 1 (cellsT 6 ka kids.length kc rune sa sn sc pl cap name mn mx lz) rfl rfl (cells_ten_at _ _ (by simp) _ _) HT.out.oneCells (by unfold maxLen; omega) (by omega) (by simp) ?_; intro v1 w1 hown1 hgrow1 hnil1))
      have hb1 : Below w.heap.size w w1 := ((((Below.refl _ w).alloc (Nat.le_refl _) _).alloc (by simp) _).trans (below_of_grownBy hgrow1 (by simp; omega) (fun k e => by simp [Value.ownBlock] at e)))
      have hx1 : Blk w1 w.heap.size cells 27 := by
        rw [HCE.out]
        exact ((Blk.new w (cellsT 6 ka kids.length kc rune sa sn sc pl cap name mn mx lz) 27).alloc _).grown hgrow1 (by simp [Value.ownBlock])
      have HGI := Lib.hid (show GI w B cells ([.mk 6 kids rune set pl cap name mn mx lz] ++ groupsL (partsL (kids.take 0))) v1 w1 from
        ⟨_, by simpa [partsL, groupsL] using hown1, by simpa [partsL, groupsL] using FlatT.one (HT.out.below (hb1.mono hB)), hb1, hx1⟩)
      clear hown1 hgrow1 hnil1 hb1 hx1
      go_wp2_with fail
      go_loopw [3, 4] (fun v i wr => ∃ k : Nat, k ≤ kids.length ∧ i = .int .i64 k ∧ GI w B cells ([.mk 6 kids rune set pl cap name mn mx lz] ++ groupsL (partsL (kids.take k))) v wr) (fun _ i _ => kids.length - (intOf i).toNat)
      case atStart => exact ⟨0, Nat.zero_le _, rfl, HGI.out⟩
      case round =>
        obtain ⟨k, hk, rfl, xs, ho, hf, hb, hbox⟩ := hrel
        have c1 := (HCE.out ▸ hbox : Blk wr w.heap.size (cellsT 6 ka kids.length kc rune sa sn sc pl cap name mn mx lz) 27).cell (j := 1) rfl
        have HO := Lib.hid ho; have HFL := Lib.hid hf; have HB := Lib.hid hb; have HBox := Lib.hid hbox
        clear ho hf hb hbox
        by_cases hlt : k < kids.length
        · rcases H3.out with h0 | ⟨b, o, rfl, hbB, hK⟩
          · omega
          obtain ⟨cs, hc, hr⟩ := (hK.get k hlt)
          have hc' := hc.below (HB.out.mono hB)
          have hr' := hr.below (HB.out.mono hB) hbB
          have hpl : (partsL (kids.take (k + 1))).length ≤ (partsL kids).length := (partsL_take_prefix kids (k + 1)).length_le
          have hq := partsL_take kids k hlt
          rw [hq, List.length_append] at hpl
          have IHk := Lib.hid (IH.out _ (List.getElem_mem hlt) cs B)
          obtain ⟨op1, ka1, kn1, kc1, rune1, sa1, sn1, sc1, pl1, cap1, name1, mn1, mx1, lz1, rfl⟩ := hc.form
          obtain ⟨g0, g1, g2, g3, g4, g5, g6, g7, g8, g9⟩ := hr'.ten
          have HC := Lib.hid hc'
          have HSZ := Lib.hid HB.out.size
          have HQ := Lib.hid hq; have HPL := Lib.hid hpl
          clear hr hr' hc hc' hq hpl
          go_wp2_with fail
          refine (IHk.out _ HC.out (by have := HSZ.out; omega) (by have := HPL.out; have := HNK.out; omega)).mono ?_
          rintro e w2 ⟨v2, xs2, rfl, ho2, hf2, hb2⟩
          have HG2 := Lib.hid (show groupsL (partsL (kids.take (k + 1))) = groupsL (partsL (kids.take k)) ++ groupsL (parts kids[k]) by rw [HQ.out, groupsL_app])
          have hl1 := groupsL_len (partsL (kids.take k)); have hl2 := groupsL_len (parts kids[k])
          have hgl : ([T.mk 6 kids rune set pl cap name mn mx lz] ++ groupsL (partsL (kids.take k))).length ≤ 1000000 := by have := HPL.out; have := HNK.out; simp; omega
          have hgl2 : (groupsL (parts kids[k])).length ≤ 1000000 := by have := HPL.out; have := HNK.out; omega
          have HB2 := Lib.hid (HB.out.trans (hb2.mono HSZ.out))
          have HO2 := Lib.hid (HO.out.kept (grownBy_below hb2 none) (by cases u3.ownBlock <;> simp))
          have HF2 := Lib.hid (HFL.out.below (hb2.mono (Nat.le_trans hB HSZ.out)))
          have HBox2 := Lib.hid (HBox.out.below hb2 HBox.out.lt)
          have HN2 := Lib.hid ho2; have HFN := Lib.hid hf2
          have hsz2 : w.heap.size + 1 ≤ w2.heap.size := by have := HBox2.out.lt; omega
          rcases ho2.2 with ⟨rfl, hn0⟩ | ⟨g, cap2, cur2, rfl, _⟩
          · clear ho2 hf2 hb2
            go_wp2_with (at_builtin; refine wpList_append_own_none rfl _ _ 23 rfl (w.heap.size + 1) 27 i0 10 Tryz.underlying23 hi _ _ _ rfl HO2.out rfl ?_)
            go_roundw
            case rel =>
              have e0 : groupsL (parts kids[k]) = [] := List.eq_nil_of_length_eq_zero hn0
              refine ⟨k + 1, hlt, by go_num, ?_⟩
              rw [HG2.out, e0, List.append_nil]
              exact ⟨xs, HO2.out, HF2.out, HB2.out, HBox2.out⟩
            case measure => simp [intOf]; omega
          · clear ho2 hf2 hb2
            have hc2 : ∀ j u, xs2[j]? = some u → w2.cell? ((⟨g, 0, none⟩ : Addr).add j) = some u := by
              intro j u hu
              rw [add_at16, Nat.zero_add, HN2.out.cellAt j (by have := (List.getElem?_eq_some_iff.1 hu).1; rw [HN2.out.1] at this; exact this)]
              exact hu
            have HC2 := Lib.hid hc2
            clear hc2
            go_wp2_with (at_builtin; (refine wpList_append_own _ rfl _ _ 23 rfl (w.heap.size + 1) 27 i0 (.agg zeroT.toArray) 10 120 Tryz.underlying23 hi hz0 hz1 hz2 rfl (by decide) u3 _ xs rfl HO2.out ⟨g, 0, none⟩ _ cap2 xs2 rfl HN2.out.1 HC2.out HFN.out.oneCells (by unfold maxLen; omega) (by omega) hsz2 ?_; intro v4 w4 hown4 hgrow4 hnil4))
            go_roundw
            case rel =>
              have hb4 : Below (w.heap.size + 1) w2 w4 := below_of_grownBy hgrow4 hsz2 (fun j e => (HO2.out.lt j e).1)
              refine ⟨k + 1, hlt, by go_num, xs ++ xs2, ?_, ?_, HB2.out.trans (hb4.mono (by omega)), HBox2.out.below hb4 (by omega)⟩
              · rw [HG2.out, ← List.append_assoc, List.length_append]; exact hown4
              · rw [HG2.out, ← List.append_assoc]
                exact (HF2.out.below (hb4.mono (by omega))).app (HFN.out.below (hb4.mono (by omega)))
            case measure => simp [intOf]; omega
        · have hk' : k = kids.length := by omega
          have HQ := Lib.hid (show kids.take k = kids by rw [hk', List.take_length])
          clear hk'
          go_wp2_with fail
          go_ret
          refine ⟨u3, xs, rfl, ?_, ?_, HB.out⟩
          · rw [HG.out]
            have := HO.out
            rw [HQ.out] at this
            exact Joins.ownsRow_le this (by omega)
          · rw [HG.out]
            have := HFL.out
            rw [HQ.out] at this
            exact this
    · have h6' : (op == 6) = false := by simpa using h6
      have hz := Lib.hid (Blk.new w (cellsT op ka kids.length kc rune sa sn sc pl cap name mn mx lz) 27)
      have HH := Lib.hid (show groupsL (parts (.mk op kids rune set pl cap name mn mx lz)) = groupsL (partsL kids) by rw [HG.out, if_neg h6]; rfl)
      clear h6
      go_enter Tryz.func27, Tryz.ntmps27
      go_wp2_with fail
      go_loopw [3, 4] (fun v i wr => ∃ k : Nat, k ≤ kids.length ∧ i = .int .i64 k ∧ GI w B cells (groupsL (partsL (kids.take k))) v wr) (fun _ i _ => kids.length - (intOf i).toNat)
      case atStart => exact ⟨0, Nat.zero_le _, rfl, [], World.ownsRow_nil _ _ _ _, rfl, (Below.refl _ _).alloc (Nat.le_refl _) _, by rw [HCE.out]; exact hz.out⟩
      case round =>
        obtain ⟨k, hk, rfl, xs, ho, hf, hb, hbox⟩ := hrel
        have c1 := (HCE.out ▸ hbox : Blk wr w.heap.size (cellsT op ka kids.length kc rune sa sn sc pl cap name mn mx lz) 27).cell (j := 1) rfl
        have HO := Lib.hid ho; have HFL := Lib.hid hf; have HB := Lib.hid hb; have HBox := Lib.hid hbox
        clear ho hf hb hbox
        by_cases hlt : k < kids.length
        · rcases H3.out with h0 | ⟨b, o, rfl, hbB, hK⟩
          · omega
          obtain ⟨cs, hc, hr⟩ := (hK.get k hlt)
          have hc' := hc.below (HB.out.mono hB)
          have hr' := hr.below (HB.out.mono hB) hbB
          have hpl : (partsL (kids.take (k + 1))).length ≤ (partsL kids).length := (partsL_take_prefix kids (k + 1)).length_le
          have hq := partsL_take kids k hlt
          rw [hq, List.length_append] at hpl
          have IHk := Lib.hid (IH.out _ (List.getElem_mem hlt) cs B)
          obtain ⟨op1, ka1, kn1, kc1, rune1, sa1, sn1, sc1, pl1, cap1, name1, mn1, mx1, lz1, rfl⟩ := hc.form
          obtain ⟨g0, g1, g2, g3, g4, g5, g6, g7, g8, g9⟩ := hr'.ten
          have HC := Lib.hid hc'
          have HSZ := Lib.hid HB.out.size
          have HQ := Lib.hid hq; have HPL := Lib.hid hpl
          clear hr hr' hc hc' hq hpl
          go_wp2_with fail
          refine (IHk.out _ HC.out (by have := HSZ.out; omega) (by have := HPL.out; have := HNK.out; omega)).mono ?_
          rintro e w2 ⟨v2, xs2, rfl, ho2, hf2, hb2⟩
          have HG2 := Lib.hid (show groupsL (partsL (kids.take (k + 1))) = groupsL (partsL (kids.take k)) ++ groupsL (parts kids[k]) by rw [HQ.out, groupsL_app])
          have hl1 := groupsL_len (partsL (kids.take k)); have hl2 := groupsL_len (parts kids[k])
          have hgl : (groupsL (partsL (kids.take k))).length ≤ 1000000 := by have := HPL.out; have := HNK.out; omega
          have hgl2 : (groupsL (parts kids[k])).length ≤ 1000000 := by have := HPL.out; have := HNK.out; omega
          have HB2 := Lib.hid (HB.out.trans (hb2.mono HSZ.out))
          have HO2 := Lib.hid (HO.out.kept (grownBy_below hb2 none) (by cases u3.ownBlock <;> simp))
          have HF2 := Lib.hid (HFL.out.below (hb2.mono (Nat.le_trans hB HSZ.out)))
          have HBox2 := Lib.hid (HBox.out.below hb2 HBox.out.lt)
          have HN2 := Lib.hid ho2; have HFN := Lib.hid hf2
          have hsz2 : w.heap.size + 1 ≤ w2.heap.size := by have := HBox2.out.lt; omega
          rcases ho2.2 with ⟨rfl, hn0⟩ | ⟨g, cap2, cur2, rfl, _⟩
          · clear ho2 hf2 hb2
            go_wp2_with (at_builtin; refine wpList_append_own_none rfl _ _ 23 rfl (w.heap.size + 1) 27 i0 10 Tryz.underlying23 hi _ _ _ rfl HO2.out rfl ?_)
            go_roundw
            case rel =>
              have e0 : groupsL (parts kids[k]) = [] := List.eq_nil_of_length_eq_zero hn0
              refine ⟨k + 1, hlt, by go_num, ?_⟩
              rw [HG2.out, e0, List.append_nil]
              exact ⟨xs, HO2.out, HF2.out, HB2.out, HBox2.out⟩
            case measure => simp [intOf]; omega
          · clear ho2 hf2 hb2
            have hc2 : ∀ j u, xs2[j]? = some u → w2.cell? ((⟨g, 0, none⟩ : Addr).add j) = some u := by
              intro j u hu
              rw [add_at16, Nat.zero_add, HN2.out.cellAt j (by have := (List.getElem?_eq_some_iff.1 hu).1; rw [HN2.out.1] at this; exact this)]
              exact hu
            have HC2 := Lib.hid hc2
            clear hc2
            go_wp2_with (at_builtin; (refine wpList_append_own _ rfl _ _ 23 rfl (w.heap.size + 1) 27 i0 (.agg zeroT.toArray) 10 120 Tryz.underlying23 hi hz0 hz1 hz2 rfl (by decide) u3 _ xs rfl HO2.out ⟨g, 0, none⟩ _ cap2 xs2 rfl HN2.out.1 HC2.out HFN.out.oneCells (by unfold maxLen; omega) (by omega) hsz2 ?_; intro v4 w4 hown4 hgrow4 hnil4))
            go_roundw
            case rel =>
              have hb4 : Below (w.heap.size + 1) w2 w4 := below_of_grownBy hgrow4 hsz2 (fun j e => (HO2.out.lt j e).1)
              refine ⟨k + 1, hlt, by go_num, xs ++ xs2, ?_, ?_, HB2.out.trans (hb4.mono (by omega)), HBox2.out.below hb4 (by omega)⟩
              · rw [HG2.out, List.length_append]; exact hown4
              · rw [HG2.out]
                exact (HF2.out.below (hb4.mono (by omega))).app (HFN.out.below (hb4.mono (by omega)))
            case measure => simp [intOf]; omega
        · have hk' : k = kids.length := by omega
          have HQ := Lib.hid (show kids.take k = kids by rw [hk', List.take_length])
          clear hk'
          go_wp2_with fail
          go_ret
          refine ⟨u3, xs, rfl, ?_, ?_, HB.out⟩
          · rw [HH.out]
            have := HO.out
            rw [HQ.out] at this
            exact Joins.ownsRow_le this (by omega)
          · rw [HH.out]
            have := HFL.out
            rw [HQ.out] at this
            exact this
end Go.Proofs.YtihbmgpjihgodaaGreatDoor
