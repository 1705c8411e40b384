/- A text's pattern: syntax.Quote, over a strings.Builder and the text's bytes, and martelloref08.Quote, over a row of bytes. -/
import Derived.Test.YtnhnldmldnhaoaaGreatDoorDBase
import Derived.Test.YtnhnldmldnhaoaaGreatDoorProg
import Derived.Test.YtnhnldmldnhaoaaGreatDoorShelf
import Derived.WalkKit
import Derived.Lib.Hide
import Derived.LoopTactic
import Derived.BigRegion
import Derived.Maps.AppendAt
import Derived.RangeFuncBox
import Derived.Shelf.Strings.BuilderK
import Derived.Lib.BufSteps
import Derived.Lib.BufferRead
import Derived.Lib.IndexAny
import Derived.Laws.IdiomStrings
namespace Go.Proofs.YtnhnldmldnhaoaaGreatDoor
open Go Go.RowKit Go.Proofs Go.Shelf

/-- The bytes that say more than themselves. -/
def metaL : List UInt8 := [92, 46, 43, 42, 63, 40, 41, 124, 91, 93, 123, 125, 94, 36]
def quoteB (c : UInt8) : List UInt8 := if metaL.contains c then [92, c] else [c]
def quoteL (l : List UInt8) : List UInt8 := l.flatMap quoteB
theorem quoteB_len (c : UInt8) : (quoteB c).length ≤ 2 := by unfold quoteB; split <;> simp
theorem quoteL_take {l : List UInt8} {k : Nat} (hk : k < l.length) : quoteL (l.take (k + 1)) = quoteL (l.take k) ++ quoteB l[k] := by
  unfold quoteL
  rw [List.take_succ_eq_append_getElem hk, List.flatMap_append]
  simp

/-- The builder in block b holds l; its row is no block X. -/
def BldX (B b X : Nat) (l : List UInt8) (w : World) : Prop := B ≤ b ∧ ∃ p v, (p = .pointer none ∨ p = .pointer (some ⟨b, 0, none⟩)) ∧ Blk w b [p, v] 65 ∧ w.ownsRow B 5 1 v l.length (Lib.byteCells l) ∧ v.ownBlock ≠ some b ∧ v.ownBlock ≠ some X
theorem BldX.is {B b X : Nat} {l : List UInt8} {w : World} (h : BldX B b X l w) : Lib.IsBuilder 65 5 B b (Lib.byteCells l) w := by
  obtain ⟨hB, p, v, hp, hb, ho, hn, _⟩ := h
  rcases hp with rfl | rfl
  · exact .inl ⟨hB, v, hb, by rw [Lib.byteCells_length]; exact ho, hn⟩
  · exact .inr ⟨hB, v, hb, by rw [Lib.byteCells_length]; exact ho, hn⟩
theorem infoByte8 : (Tryz.prog.info? 5).map (fun i => (i.zero, i.size, i.bytes)) = some (some (.int .u8 0), 1, 1) := by kernel_rfl

theorem bld_check (B b X : Nat) (l : List UInt8) (w : World) (h : BldX B b X l w) (hX : X ≠ b) :
    Calls Tryz.prog 44 #[.pointer (some ⟨b, 0, none⟩)] w fun e w' => e = .returned (.tuple #[]) ∧ Below B w w' ∧ w'.heap[X]? = w.heap[X]? ∧
      ∃ v, Blk w' b [.pointer (some ⟨b, 0, none⟩), v] 65 ∧ w'.ownsRow B 5 1 v l.length (Lib.byteCells l) ∧ v.ownBlock ≠ some b ∧ v.ownBlock ≠ some X := by
  obtain ⟨hB, p, v, hp, hb, ho, hn, hnX⟩ := h
  rcases hp with rfl | rfl
  · refine (Any.Builder_copyCheck_fresh (ρ := Tryz.lays230_ren) { Tryz.lays230 with } (Tryz.Builder_Extra_230).toX72 b w (hb.cell rfl) (by unfold Blk at hb; simp [World.shape?, hb]; rfl) (hb.frozen 0)).mono ?_
    rintro e w' ⟨rfl, rfl⟩
    exact ⟨rfl, (Below.refl B w).setCell (p := ⟨b, 0, none⟩) hB _, Below.heap_setCell _ _ _ _ hX, v, hb.set 0 _, ho.kept (grownBy_setCell w b 0 _) (.inr hn), hn, hnX⟩
  · refine (Any.Builder_copyCheck_used (ρ := Tryz.lays230_ren) { Tryz.lays230 with } (Tryz.Builder_Extra_230).toX72 b w (hb.cell rfl)).mono ?_
    rintro e w' ⟨rfl, rfl⟩
    exact ⟨rfl, Below.refl B _, rfl, v, hb, ho, hn, hnX⟩

theorem byte_row (w0 : World) (c : Int) (e : TypeId) : ∀ (j : Nat) (u : Value), ([Value.int .u8 c])[j]? = some u → (w0.alloc (.cells #[.int .u8 c] e)).cell? ((⟨w0.heap.size, 0, none⟩ : Addr).add j) = some u := by
  intro j u hj
  match j, hj with
  | 0, hj => simp at hj; subst hj; simp [Addr.add]
theorem byte_one (c : Int) : ∀ u ∈ [Value.int .u8 c], u.oneCell' = true := by intro u hu; simp at hu; subst hu; rfl
theorem bytes_snoc (l : List UInt8) (c : UInt8) : Lib.byteCells l ++ [.int .u8 c.toNat] = Lib.byteCells (l ++ [c]) := by simp [Lib.byteCells]

set_option maxRecDepth 100000 in
set_option maxHeartbeats 4000000 in
theorem bld_byte (B b X : Nat) (l : List UInt8) (c : UInt8) (w : World) (h : BldX B b X l w) (hX : X ≠ b) (hXw : X < w.heap.size) (hlen : l.length + 1 ≤ 140737488355328) (hBw : B ≤ w.heap.size) :
    Calls Tryz.prog 28 #[.pointer (some ⟨b, 0, none⟩), .int .u8 c.toNat] w fun e w' => e = .returned .nilIface ∧ BldX B b X (l ++ [c]) w' ∧ Below B w w' ∧ w'.heap[X]? = w.heap[X]? := by
  obtain ⟨i0, hi, hz0, hz1, hz2⟩ := info_parts infoByte8
  have hB0 := h.1
  have H := Lib.hid h
  clear h
  go_enter Tryz.func28, Tryz.ntmps28
  go_wp2_with fail
  refine (bld_check B b X l w H.out hX).mono ?_
  rintro e w1 ⟨rfl, hb1, hx1, v, hbk, hown, hne, hnX⟩
  have c0 := hbk.cell (j := 0) rfl
  have c1 := hbk.cell (j := 1) rfl
  have HO := Lib.hid hown; have HB := Lib.hid hbk; have HB1 := Lib.hid hb1; have HX1 := Lib.hid hx1; have HN := Lib.hid hne; have HNX := Lib.hid hnX; have hsz := hb1.size
  clear hown hbk hb1 hx1 hne hnX
  go_wp2_with (at_builtin; refine wpList_append_own_at _ rfl _ _ 63 rfl B 5 i0 (.int .u8 0) 1 1 Tryz.underlying63 hi hz0 hz1 hz2 rfl (by decide) _ _ _ rfl (HO.out.alloc _) ⟨w1.heap.size, 0, none⟩ 1 1 [.int .u8 c.toNat] rfl rfl (byte_row _ _ _) (byte_one _) (by unfold maxLen; omega) (by omega) (by simp; omega) ?_)
  intro v' w2 hown' hgrow _ hat
  obtain ⟨g, cap, rfl⟩ := ownsRow_succ hown'
  have hlt := HB.out.lt
  have hb2 : Blk w2 b [.pointer (some ⟨b, 0, none⟩), v] 65 := (HB.out.alloc _).grown hgrow (fun e => HN.out e.symm)
  have hx2 : w2.heap[X]? = w.heap[X]? := by
    rw [hgrow.block X (by simp; omega) (fun e => HNX.out e.symm), Lib.alloc_old w1 _ X (by omega)]
    exact HX1.out
  have hbn : (Value.slice (some ⟨g, 0, none⟩) (l.length + 1) cap).ownBlock ≠ some b ∧ (Value.slice (some ⟨g, 0, none⟩) (l.length + 1) cap).ownBlock ≠ some X := by
    rcases hat with h | h
    · rw [h]; exact ⟨HN.out, HNX.out⟩
    · rw [h]; constructor <;> (intro e; have := Option.some.inj e; omega)
  have hB2 : Below B w w2 := (HB1.out.alloc (by omega) _).grown hgrow (by simp; omega) (fun k hk => (HO.out.lt k hk).1)
  have d0 := hb2.cell (j := 0) rfl
  have d1 := hb2.cell (j := 1) rfl
  have f1 := hb2.frozen 1
  have H2 := Lib.hid hb2; have HX2 := Lib.hid hx2; have HBN := Lib.hid hbn; have HB2 := Lib.hid hB2; have HO2 := Lib.hid hown'
  clear hb2 hx2 hbn hB2 hown' hgrow hat
  go_wp2_with fail
  go_ret
  refine ⟨rfl, ⟨hB0, _, _, .inr rfl, H2.out.set 1 _, ?_, HBN.out.1, HBN.out.2⟩, HB2.out.setCell (p := ⟨b, 1, none⟩) hB0 _, (Below.heap_setCell _ _ _ _ hX).trans HX2.out⟩
  have h := HO2.out.kept (grownBy_setCell w2 b 1 (.slice (some ⟨g, 0, none⟩) (l.length + 1) cap)) (.inr HBN.out.1)
  rw [bytes_snoc] at h
  simpa using h
theorem quote_idx (c : UInt8) : ∃ i, (∀ W, Calls Tryz.prog 27 #[.string ⟨#[92, 46, 43, 42, 63, 40, 41, 124, 91, 93, 123, 125, 94, 36]⟩, .int .u8 c.toNat] W fun e w' => e = .returned (.int .i64 i) ∧ w' = W) ∧ (metaL.contains c = decide (0 ≤ i)) :=
  ⟨Lib.indexByte metaL c, fun W => (Tryz.strings_IndexByte ⟨#[92, 46, 43, 42, 63, 40, 41, 124, 91, 93, 123, 125, 94, 36]⟩ c.toNat W).mono fun e w' h => ⟨by rw [h.1]; simp [metaL], h.2⟩, Lib.contains_iff_indexByte _ _⟩

set_option maxRecDepth 100000 in
set_option maxHeartbeats 8000000 in
/-- syntax.Quote: the text's bytes, each that says more behind a backslash. -/
theorem syntax_quote (s : ByteArray) (w : World) (hs : s.size ≤ 70368744177664) :
    Calls Tryz.prog 14 #[.string s] w fun e w' => e = .returned (.string ⟨(quoteL s.data.toList).toArray⟩) ∧ Below w.heap.size w w' := by
  obtain ⟨cap, w2, hrun, hcell, hbl2, hs2⟩ := conv_bytes (P := Tryz.prog) (w.alloc (.cells #[.pointer none, .slice none 0 0] 65)) 9 63 5 s Tryz.underlying9 Tryz.underlying63 Tryz.underlying5
  rw [World.size_alloc] at hrun hbl2 hs2 hcell
  obtain ⟨L, hL⟩ : ∃ L, s.data.toList = L := ⟨_, rfl⟩
  rw [hL] at hcell ⊢
  have hlen : L.length = s.size := by rw [← hL]; simp
  have hB0 : BldX w.heap.size w.heap.size (w.heap.size + 1) [] w2 := by
    refine ⟨Nat.le_refl _, .pointer none, .slice none 0 0, .inl rfl, ?_, World.ownsRow_nil _ _ _ _, by simp [Value.ownBlock], by simp [Value.ownBlock]⟩
    exact (Blk.new w [.pointer none, .slice none 0 0] 65).below hbl2 (by omega)
  have hbw2 : Below w.heap.size w w2 := ((Below.refl _ w).alloc (Nat.le_refl _) _).trans (hbl2.mono (by omega))
  have HCell := Lib.hid hcell; have HB0 := Lib.hid hB0; have HW2 := Lib.hid hbw2; have HLn := Lib.hid hlen
  clear hcell hbl2 hB0 hbw2 hlen hL
  go_enter Tryz.func14, Tryz.ntmps14
  go_wp2_with fail
  clear hrun
  go_loopw [9] (fun iv wr => ∃ (k : Nat) (l : List UInt8), k ≤ L.length ∧ iv = .int .i64 k ∧ l = quoteL (L.take k) ∧ l.length ≤ 2 * k ∧ BldX w.heap.size w.heap.size (w.heap.size + 1) l wr ∧ wr.heap[w.heap.size + 1]? = w2.heap[w.heap.size + 1]? ∧ w2.heap.size ≤ wr.heap.size ∧ Below w.heap.size w wr) (fun iv _ => L.length - (intOf iv).toNat)
  case atStart => exact ⟨0, [], Nat.zero_le _, rfl, rfl, by decide, HB0.out, rfl, Nat.le_refl _, HW2.out⟩
  case round =>
    obtain ⟨k, l, hk, rfl, hl, hz, hbu, hx, hsz, hb⟩ := hrel
    have HL := Lib.hid hl; have HB := Lib.hid hb; have HBU := Lib.hid hbu; have HX := Lib.hid hx
    have hkz : k ≤ s.size := by rw [← HLn.out]; exact hk
    clear hl hb hbu hx hk
    by_cases hlt : k < s.size
    · have hlt2 : k < L.length := by rw [HLn.out]; exact hlt
      have HT1 := Lib.hid (quoteL_take hlt2)
      have hq := quoteB_len L[k]
      obtain ⟨x, hx⟩ : ∃ x, L[k] = x := ⟨_, rfl⟩
      have hcell : wr.cell? ⟨w.heap.size + 1, k, none⟩ = some (.int .u8 x.toNat) := by
        have h := HCell.out k hlt
        rw [List.getD_eq_getElem?_getD, List.getElem?_eq_getElem hlt2] at h
        rw [World.cell?_of_block (w := w2) HX.out, ← hx]; exact h
      rw [hx] at HT1 hq
      have HL2 := Lib.hid hlt2
      have hX2 : w.heap.size + 1 < wr.heap.size := by omega
      clear hx hlt2
      obtain ⟨i, hI, hi⟩ := quote_idx x
      have HI := Lib.hid hI
      clear hI
      by_cases hc : 0 ≤ i
      · have hQ : quoteB x = [92, x] := by unfold quoteB; rw [hi]; simp [hc]
        have HQ := Lib.hid hQ
        rw [hQ] at hq
        clear hQ hi
        go_wp2_with fail
        refine (HI.out _).mono ?_
        rintro e w3 ⟨rfl, rfl⟩
        go_wp2_with fail
        refine (bld_byte w.heap.size w.heap.size (w.heap.size + 1) l 92 w3 HBU.out (by omega) hX2 (by omega) HB.out.size).mono ?_
        rintro e w4 ⟨rfl, hbu4, hb4, hx4⟩
        have HBU4 := Lib.hid hbu4; have HB4 := Lib.hid (HB.out.trans hb4); have HX4 := Lib.hid (hx4.trans HX.out); have hs4 := hb4.size
        clear hbu4 hb4 hx4
        go_wp2_with fail
        refine (bld_byte w.heap.size w.heap.size (w.heap.size + 1) (l ++ [92]) x w4 HBU4.out (by omega) (by omega) (by simp; omega) HB4.out.size).mono ?_
        rintro e w5 ⟨rfl, hbu5, hb5, hx5⟩
        have HBU5 := Lib.hid hbu5; have HB5 := Lib.hid (HB4.out.trans hb5); have HX5 := Lib.hid (hx5.trans HX4.out); have hs5 := hb5.size
        clear hbu5 hb5 hx5
        go_wp2_with fail
        go_roundw
        case rel =>
          refine ⟨k + 1, l ++ [92] ++ [x], HL2.out, by go_num, ?_, ?_, HBU5.out, HX5.out, by omega, HB5.out⟩
          · rw [HT1.out, HQ.out, HL.out]; simp
          · simp; omega
        case measure => have := HL2.out; simp [intOf]; omega
      · have hQ : quoteB x = [x] := by unfold quoteB; rw [hi]; simp [hc]
        have HQ := Lib.hid hQ
        clear hQ hi hq
        go_wp2_with fail
        refine (HI.out _).mono ?_
        rintro e w3 ⟨rfl, rfl⟩
        go_wp2_with fail
        refine (bld_byte w.heap.size w.heap.size (w.heap.size + 1) l x w3 HBU.out (by omega) hX2 (by omega) HB.out.size).mono ?_
        rintro e w5 ⟨rfl, hbu5, hb5, hx5⟩
        have HBU5 := Lib.hid hbu5; have HB5 := Lib.hid (HB.out.trans hb5); have HX5 := Lib.hid (hx5.trans HX.out); have hs5 := hb5.size
        clear hbu5 hb5 hx5
        go_wp2_with fail
        go_roundw
        case rel =>
          refine ⟨k + 1, l ++ [x], HL2.out, by go_num, ?_, ?_, HBU5.out, HX5.out, by omega, HB5.out⟩
          · rw [HT1.out, HQ.out, HL.out]
          · simp; omega
        case measure => have := HL2.out; simp [intOf]; omega
    · have hke : k = L.length := by have := HLn.out; omega
      have HK := Lib.hid hke
      clear hke
      go_wp2_with fail
      refine (Tryz.Builder_String_any w.heap.size w.heap.size l wr HBU.out.is HB.out.size).mono ?_
      rintro e w1 ⟨rfl, hb1⟩
      have HB1 := Lib.hid (HB.out.trans hb1)
      clear hb1
      go_wp2_with fail
      go_ret
      refine ⟨?_, HB1.out⟩
      rw [HL.out, HK.out, List.take_length]; rfl

theorem quote_at {j : Nat} (hj : j < metaL.length) (h : j < (ByteArray.mk #[92, 46, 43, 42, 63, 40, 41, 124, 91, 93, 123, 125, 94, 36]).size) : (ByteArray.mk #[92, 46, 43, 42, 63, 40, 41, 124, 91, 93, 123, 125, 94, 36])[j]'h = metaL[j]'hj := rfl
/-- What stands ahead of a byte, of the first j that say more. -/
def aheadB (x : UInt8) (l : List UInt8) : List UInt8 := l.flatMap fun m => if x = m then [92] else []
theorem ahead_take (x : UInt8) {l : List UInt8} {k : Nat} (hk : k < l.length) : aheadB x (l.take (k + 1)) = aheadB x (l.take k) ++ if x = l[k] then [92] else [] := by
  unfold aheadB
  rw [List.take_succ_eq_append_getElem hk, List.flatMap_append]
  simp
theorem ahead_len (x : UInt8) (l : List UInt8) : (aheadB x l).length ≤ l.length := by
  unfold aheadB
  induction l with
  | nil => simp
  | cons m r ih =>
    rw [List.flatMap_cons, List.length_append, List.length_cons]
    have : (if x = m then [92] else ([] : List UInt8)).length ≤ 1 := by split <;> simp
    omega
theorem ahead_all (x : UInt8) : aheadB x metaL ++ [x] = quoteB x := by
  have h : ∀ n : Fin 256, aheadB (UInt8.ofNat n.val) metaL ++ [UInt8.ofNat n.val] = quoteB (UInt8.ofNat n.val) := by decide +kernel
  have e := h ⟨x.toNat, x.toNat_lt⟩
  simpa using e
theorem ahead_first (x : UInt8) : (aheadB x metaL).length ≤ 1 := by
  have h := ahead_all x
  have h2 := quoteB_len x
  rw [← h] at h2
  simp at h2; omega

theorem buf_drew {B : Nat} {e : TypeId} {v : Value} {n : Nat} {xs : List Value} {W0 w : World} (h : Lib.OwnBuf B e v n xs W0 w) : Lib.OwnBuf B e v n xs W0 w.drew := h.drewN 1

/-- An owned row of bytes, as a string. -/
theorem own_text {B : Nat} {l : List UInt8} {v : Value} {W0 w : World} (h : Lib.OwnBuf B 5 v l.length (Lib.byteCells l) W0 w) : (convert 63 9 v).run Tryz.prog w = .ok (.string ⟨l.toArray⟩) w := by
  rcases h.1.2 with ⟨rfl, h0⟩ | ⟨g, cap, cur, fz, rfl, _⟩
  · obtain rfl : l = [] := List.eq_nil_of_length_eq_zero h0
    exact Lib.run_convert_nil_bytes w 63 9 5 0 Tryz.underlying63 Tryz.underlying5 Tryz.underlying9
  · exact run_convert_bytes_back w 63 9 5 ⟨g, 0, none⟩ cap l Tryz.underlying63 Tryz.underlying5 Tryz.underlying9 fun j hj => h.1.cells (g := g) rfl j _ (by simp [Lib.byteCells, hj])

set_option maxRecDepth 100000 in
set_option maxHeartbeats 8000000 in
/-- martelloref08.Quote: the same. -/
theorem ref08_quote (s : ByteArray) (w : World) (hs : s.size ≤ 1099511627776) :
    Calls Tryz.prog 15 #[.string s] w fun e w' => e = .returned (.string ⟨(quoteL s.data.toList).toArray⟩) ∧ Below w.heap.size w w' := by
  obtain ⟨i0, hi, hz0, hz1, hz2⟩ := info_parts infoByte8
  obtain ⟨L, hL⟩ : ∃ L, s.data.toList = L := ⟨_, rfl⟩
  rw [hL]
  have hlen : L.length = s.size := by rw [← hL]; simp
  have hsx : ∀ k (h : k < s.size) (h2 : k < L.length), s[k]'h = L[k] := by intro k h h2; subst hL; rfl
  have HLn := Lib.hid hlen; have HS := Lib.hid hsx
  clear hlen hsx hL
  go_enter Tryz.func15, Tryz.ntmps15
  go_wp2_with fail
  go_loopw [3, 5] (fun v iv wr => ∃ (k : Nat) (l : List UInt8), k ≤ L.length ∧ iv = .int .i64 k ∧ l = quoteL (L.take k) ∧ l.length ≤ 2 * k ∧ Lib.OwnBuf w.heap.size 5 v l.length (Lib.byteCells l) w wr) (fun _ iv _ => L.length - (intOf iv).toNat)
  case atStart => exact ⟨0, [], Nat.zero_le _, rfl, rfl, by decide, World.ownsRowF_nil _ _ _ _, Below.refl _ _, Nat.le_refl _⟩
  case round =>
    obtain ⟨k, l, hk, rfl, hl, hz, hbu⟩ := hrel
    have HL := Lib.hid hl; have HBU := Lib.hid hbu
    have hkz : k ≤ s.size := by rw [← HLn.out]; exact hk
    clear hl hbu hk
    by_cases hlt : k < s.size
    · have hlt2 : k < L.length := by rw [HLn.out]; exact hlt
      have HT1 := Lib.hid (quoteL_take hlt2)
      have hq := quoteB_len L[k]
      have hsk := HS.out k hlt hlt2
      obtain ⟨x, hx⟩ : ∃ x, L[k] = x := ⟨_, rfl⟩
      rw [hx] at HT1 hq hsk
      have hsk2 : ∀ h, s[k]'h = x := fun _ => hsk
      have HL2 := Lib.hid hlt2
      clear hx hlt2 hsk
      go_wp2_with fail
      go_loopw [3, 6] (fun v iv wr => ∃ j : Nat, j ≤ 14 ∧ iv = .int .i64 j ∧ Lib.OwnBuf w.heap.size 5 v (l ++ aheadB x (metaL.take j)).length (Lib.byteCells (l ++ aheadB x (metaL.take j))) w wr) (fun _ iv _ => 14 - (intOf iv).toNat)
      case atStart => exact ⟨0, by decide, rfl, by simpa [aheadB] using HBU.out⟩
      case round =>
        obtain ⟨j, hj, rfl, hbj⟩ := hrel
        have HBJ := Lib.hid hbj
        clear hbj
        by_cases hjl : j < 14
        · have hjm : j < metaL.length := hjl
          have HJ := Lib.hid (ahead_take x hjm)
          have ha : (aheadB x (metaL.take j)).length ≤ 14 := Nat.le_trans (ahead_len _ _) (by simp [metaL]; omega)
          obtain ⟨y, hy⟩ : ∃ y, metaL[j] = y := ⟨_, rfl⟩
          rw [hy] at HJ
          have hmy : ∀ h, (ByteArray.mk #[92, 46, 43, 42, 63, 40, 41, 124, 91, 93, 123, 125, 94, 36])[j]'h = y := fun h => (quote_at hjm h).trans hy
          clear hy
          by_cases hxy : x = y
          · have hxn : (x.toNat : Int) = (y.toNat : Int) := by rw [hxy]
            have HXY := Lib.hid hxy
            clear hxy
            have hll : (l ++ aheadB x (metaL.take j)).length + 1 ≤ 140737488355328 := by rw [List.length_append]; omega
            clear hjm
            go_wp2_with fail
            go_region
            have HD := Lib.hid (buf_drew HBJ.out)
            go_wp2_with (at_builtin; refine Lib.wpList_append_byte rfl _ _ 63 rfl w.heap.size 5 i0 Tryz.underlying63 hi hz0 hz1 hz2 _ _ _ rfl w wr.drew 92 (by exact HD.out) rfl hll ?_; intro v' w' hb'; have HB' := Lib.hid hb'; clear hb')
            go_roundw
            case rel =>
              refine ⟨j + 1, by omega, by go_num, ?_⟩
              have h := HB'.out
              rw [show (Value.int .u8 92) = .int .u8 ((92 : UInt8).toNat : Int) from rfl, bytes_snoc] at h
              rw [HJ.out, if_pos HXY.out, ← List.append_assoc]
              simpa [Nat.add_assoc] using h
            case measure => simp [intOf]; omega
          · have hxn : ¬ (x.toNat : Int) = (y.toNat : Int) := fun e => hxy (UInt8.toNat_inj.1 (by omega))
            have HXY := Lib.hid hxy
            clear hxy hjm
            go_wp2_with fail
            go_region
            have HD := Lib.hid (buf_drew HBJ.out)
            go_wp2_with fail
            go_roundw
            case rel =>
              refine ⟨j + 1, by omega, by go_num, ?_⟩
              rw [HJ.out, if_neg HXY.out, List.append_nil]
              exact HD.out
            case measure => simp [intOf]; omega
        · have hje : j = 14 := by omega
          have hll : (l ++ aheadB x (metaL.take 14)).length + 1 ≤ 140737488355328 := by
            have := ahead_len x (metaL.take 14)
            have : (metaL.take 14).length = 14 := rfl
            rw [List.length_append]; omega
          subst hje
          go_wp2_with (first | simp only [hsk2] | (at_builtin; refine Lib.wpList_append_byte rfl _ _ 63 rfl w.heap.size 5 i0 Tryz.underlying63 hi hz0 hz1 hz2 _ _ _ rfl w _ x.toNat (by exact HBJ.out) rfl hll ?_; intro v' w' hb'; have HB' := Lib.hid hb'; clear hb'))
          go_roundw
          case rel =>
            have h := HB'.out
            rw [bytes_snoc, show metaL.take 14 = metaL from rfl, List.append_assoc, ahead_all] at h
            refine ⟨k + 1, l ++ quoteB x, HL2.out, by go_num, ?_, ?_, ?_⟩
            · rw [HT1.out, HL.out]
            · simp; omega
            · have e : (l ++ aheadB x metaL).length + 1 = (l ++ quoteB x).length := by rw [← ahead_all]; simp; omega
              rw [← e]; exact h
          case measure => have := HL2.out; simp [intOf]; omega
    · have hke : k = L.length := by have := HLn.out; omega
      have HK := Lib.hid hke
      clear hke
      have hcv := own_text HBU.out
      go_wp2_with fail
      go_ret
      refine ⟨?_, HBU.out.2.1⟩
      rw [HL.out, HK.out, List.take_length]; rfl
end Go.Proofs.YtnhnldmldnhaoaaGreatDoor
