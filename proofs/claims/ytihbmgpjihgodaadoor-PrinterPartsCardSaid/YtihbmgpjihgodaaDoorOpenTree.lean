/- A row's tree: what is read as a tree's datum is a plain tree that lies in memory. -/
import Derived.Test.YtihbmgpjihgodaaDoorBase
import Derived.Test.YtihbmgpjihgodaaDoorShelf
import Derived.ChangeArms
import Derived.ChangeSame
import Derived.DataReads
import Derived.ProofKit
import Derived.SizedLaws
namespace Go.Proofs.YtihbmgpjihgodaaDoor
open Go Go.RowKit Go.Proofs

def I32 (n : Int) : Prop := -2147483648 ≤ n ∧ n ≤ 2147483647
def I64 (n : Int) : Prop := -9223372036854775808 ≤ n ∧ n ≤ 9223372036854775807

mutual
/-- A tree's numbers are of their kinds; its texts and lists lie in memory's reach. -/
def TOk : T → Prop
  | .mk op kids rune set pl cap name mn mx _ => I64 op ∧ I32 rune ∧ (∀ r ∈ set, I32 r.1 ∧ I32 r.2) ∧ I64 pl ∧ I64 cap ∧ I64 mn ∧ I64 mx ∧ name.size ≤ 140737488351232 ∧ set.length * 8 ≤ 140737488351232 ∧ kids.length * 8 ≤ 140737488351232 ∧ TsOk kids
def TsOk : List T → Prop
  | [] => True
  | t :: ts => TOk t ∧ TsOk ts
end
theorem TsOk.mem : ∀ {ts : List T}, TsOk ts → ∀ t ∈ ts, TOk t
  | [], _, _, h => by simp at h
  | a :: ts, h, t, hm => by
    unfold TsOk at h
    rcases List.mem_cons.1 hm with rfl | hm
    · exact h.1
    · exact TsOk.mem h.2 t hm
theorem TsOk.of : ∀ {ts : List T}, (∀ t ∈ ts, TOk t) → TsOk ts
  | [], _ => by unfold TsOk; trivial
  | a :: ts, h => by unfold TsOk; exact ⟨h a (by simp), TsOk.of fun t ht => h t (by simp [ht])⟩
theorem TOk.open {op : Int} {kids : List T} {rune : Int} {set : List (Int × Int)} {pl cap : Int} {name : ByteArray} {mn mx : Int} {lz : Bool} (h : TOk (.mk op kids rune set pl cap name mn mx lz)) :
    I64 op ∧ I32 rune ∧ (∀ r ∈ set, I32 r.1 ∧ I32 r.2) ∧ I64 pl ∧ I64 cap ∧ I64 mn ∧ I64 mx ∧ name.size ≤ 140737488351232 ∧ set.length * 8 ≤ 140737488351232 ∧ kids.length * 8 ≤ 140737488351232 ∧ ∀ k ∈ kids, TOk k := by
  unfold TOk at h
  exact ⟨h.1, h.2.1, h.2.2.1, h.2.2.2.1, h.2.2.2.2.1, h.2.2.2.2.2.1, h.2.2.2.2.2.2.1, h.2.2.2.2.2.2.2.1, h.2.2.2.2.2.2.2.2.1, h.2.2.2.2.2.2.2.2.2.1, TsOk.mem h.2.2.2.2.2.2.2.2.2.2⟩

theorem wf32 {n : Int} (h : (Lit.int .i32 n).wf = true) : I32 n := by
  simp [Lit.wf, IntKind.min, IntKind.max, IntKind.bits, IntKind.signed] at h; unfold I32; omega
theorem wf64 {n : Int} (h : (Lit.int .i64 n).wf = true) : I64 n := by
  simp [Lit.wf, IntKind.min, IntKind.max, IntKind.bits, IntKind.signed] at h; unfold I64; omega

/-- An address whose cells are read is a plain one. -/
theorem addr_plain {w : World} {base : Nat} {a : Addr} {n : Nat} {cs : List Value} (h : w.cells? base a n = some cs) (hn : 0 < n) : a = ⟨a.block, a.off, none⟩ ∧ a.block < w.heap.size := by
  have h0 := (World.cells?_some h).2.2 0 hn
  have hl := (World.cells?_some h).2.1
  obtain ⟨v, hv⟩ : ∃ v, cs[0]? = some v := ⟨cs[0]'(by omega), List.getElem?_eq_getElem (by omega)⟩
  rw [hv, show a.add 0 = a by simp [Addr.add]] at h0
  have hs : a.spot = none := by
    cases hsp : a.spot with
    | none => rfl
    | some x =>
      exfalso
      simp [World.cell?, hsp] at h0
      split at h0 <;> simp_all
  refine ⟨by cases a; simp_all, ?_⟩
  rcases Nat.lt_or_ge a.block w.heap.size with h' | h'
  · exact h'
  · exfalso
    simp [World.cell?, Array.getElem?_eq_none h'] at h0
theorem add_plain (b o j : Nat) : (⟨b, o, none⟩ : Addr).add j = ⟨b, o + j, none⟩ := by unfold Addr.add; split <;> simp_all
theorem cells_row {w : World} {base b o n : Nat} {cs : List Value} (h : w.cells? base ⟨b, o, none⟩ n = some cs) : RowAt w b o cs := by
  intro j hj
  have := (World.cells?_some h).2.2 j (by rw [← (World.cells?_some h).2.1]; exact hj)
  rw [add_plain] at this
  exact this

section
variable {H : Type} {enc : TypeId × Value → H} {W : World} {base : Nat} {held : Bool}

def capOf (P : Program) (t : TypeId) (d : DataW H) : Prop := ∀ k ∈ d.weights P t, k ≤ 140737488351232

theorem open_range {fuel : Nat} {cs : List Value} {x : DataW H × List MemPlace} (h : DataW.trod enc Tryd.prog W base (fun _ => true) held fuel 61 cs = some x) :
    ∃ l u, cs = [.int .i32 l, .int .i32 u] ∧ I32 l ∧ I32 u := by
  obtain ⟨y0, y1, n, _, hl, h0, h1⟩ := ChangeShapes.trod_struct2 Tryd.underlying61 h
  have hc : Tryd.prog.cellsOf 61 = 2 := by kernel_rfl
  have hc2 : Tryd.prog.cellsOf 21 = 1 := by kernel_rfl
  rw [hc] at hl
  obtain ⟨a, b, rfl⟩ : ∃ a b, cs = [a, b] := by
    rcases cs with _ | ⟨a, _ | ⟨b, _ | ⟨c, r⟩⟩⟩
    · simp at hl
    · simp at hl
    · exact ⟨a, b, rfl⟩
    · simp at hl
  simp only [hc2] at h0 h1
  obtain ⟨l, e1, _, w1⟩ := DataW.trod_int Tryd.underlying21 h0
  obtain ⟨u, e2, _, w2⟩ := DataW.trod_int Tryd.underlying21 h1
  simp at e1 e2
  exact ⟨l, u, by rw [e1, e2], wf32 w1, wf32 w2⟩
theorem open_ranges {fuel : Nat} {cs : List Value} {x : DataW H × List MemPlace} (h : DataW.trod enc Tryd.prog W base (fun _ => true) held fuel 24 cs = some x) (hw : capOf Tryd.prog 24 x.1) :
    ∃ (rs : List (Int × Int)) (a : Option Addr) (n c : Nat), cs = [.slice a n c] ∧ RangesV W W.heap.size rs a n c ∧ (∀ r ∈ rs, I32 r.1 ∧ I32 r.2) ∧ rs.length * 8 ≤ 140737488351232 := by
  have hc : Tryd.prog.cellsOf 61 = 2 := by kernel_rfl
  have hb : Tryd.prog.bytesOf 61 = 8 := by kernel_rfl
  rcases DataW.trod_slice Tryd.underlying24 h with ⟨rfl, _⟩ | ⟨a, len, cap, elems, rest, n, _, rfl, rfl, _, hl, hm, hlen, hel, _, _⟩
  · exact ⟨[], none, 0, 0, rfl, ⟨rfl, ⟨Nat.le_refl _, by omega⟩, .inl rfl⟩, fun _ h => by simp at h, by simp⟩
  · have hw1 : (elems.length + rest.length) * 8 ≤ 140737488351232 := by
      have := hw ((elems.length + rest.length) * Tryd.prog.bytesOf 61) (by simp [DataW.weights, Tryd.underlying24])
      rw [hb] at this; exact this
    have each : ∀ i, i < len → ∃ l u, W.cell? (a.add (i * 2)) = some (.int .i32 l) ∧ W.cell? ((a.add (i * 2)).add 1) = some (.int .i32 u) ∧ I32 l ∧ I32 u := by
      intro i hi
      have he := hel i hi
      rw [hc] at he
      obtain ⟨y, hy⟩ : ∃ y, elems[i]? = some y := ⟨elems[i]'(by omega), List.getElem?_eq_getElem (by omega)⟩
      rw [hy, Option.bind_eq_some_iff] at he
      obtain ⟨cs', h1, h2⟩ := he
      obtain ⟨l, u, rfl, w1, w2⟩ := open_range h2
      have h3 := (World.cells?_some h1).2.2
      have h30 := h3 0 (by omega)
      have h31 := h3 1 (by omega)
      rw [show (a.add (i * 2)).add 0 = a.add (i * 2) by simp [Addr.add]] at h30
      exact ⟨l, u, by simpa using h30, by simpa using h31, w1, w2⟩
    by_cases h0 : len = 0
    · subst h0
      exact ⟨[], some a, 0, cap, rfl, ⟨rfl, ⟨Nat.zero_le _, by omega⟩, .inl rfl⟩, fun _ h => by simp at h, by simp⟩
    · obtain ⟨hpl, hblk⟩ : a = ⟨a.block, a.off, none⟩ ∧ a.block < W.heap.size := by
        have he := hel 0 (by omega)
        obtain ⟨y, hy⟩ : ∃ y, elems[0]? = some y := ⟨elems[0]'(by omega), List.getElem?_eq_getElem (by omega)⟩
        rw [hy, Option.bind_eq_some_iff] at he
        obtain ⟨cs', h1, _⟩ := he
        rw [Nat.zero_mul, show a.add 0 = a by simp [Addr.add]] at h1
        exact addr_plain h1 (by rw [hc]; omega)
      have hex : ∃ f : Nat → Int × Int, ∀ i, i < len → W.cell? (a.add (i * 2)) = some (.int .i32 (f i).1) ∧ W.cell? ((a.add (i * 2)).add 1) = some (.int .i32 (f i).2) ∧ I32 (f i).1 ∧ I32 (f i).2 := by
        refine ⟨fun i => if h : i < len then ((each i h).choose, (each i h).choose_spec.choose) else (0, 0), fun i hi => ?_⟩
        simp only [dif_pos hi]
        exact (each i hi).choose_spec.choose_spec
      obtain ⟨f, hf⟩ := hex
      refine ⟨(List.range len).map f, some a, len, cap, rfl, ⟨by simp, ⟨hl, by omega⟩, .inr ⟨a.block, a.off, by rw [← hpl], hblk, ?_⟩⟩, fun r hr => ?_, by simp; omega⟩
      · have key : ∀ (m k : Nat), k + m = len → RangesAt W ((List.range' k m).map f) a.block (a.off + k * 2) := by
          intro m
          induction m with
          | zero => intro k _; exact trivial
          | succ m ih =>
            intro k hk
            obtain ⟨c1, c2, _, _⟩ := hf k (by omega)
            rw [hpl] at c1 c2
            have e1 := add_plain a.block a.off (k * 2)
            have e2 := add_plain a.block (a.off + k * 2) 1
            rw [e1] at c1 c2; rw [e2] at c2
            have := ih (k + 1) (by omega)
            rw [show a.off + (k + 1) * 2 = a.off + k * 2 + 2 by omega] at this
            rw [List.range'_succ, List.map_cons]
            exact ⟨c1, c2, this⟩
        have := key len 0 (by omega)
        rw [Nat.zero_mul, Nat.add_zero, ← List.range_eq_range'] at this
        exact this
      · obtain ⟨i, hi, rfl⟩ := List.mem_map.1 hr
        have := hf i (by simpa using hi)
        exact ⟨this.2.2.1, this.2.2.2⟩

theorem each_mem {P : Program} : ∀ (ts : List TypeId) (ds : List (DataW H)) (j : Nat) (t : TypeId) (d : DataW H), ts[j]? = some t → ds[j]? = some d → ∀ k ∈ d.weights P t, k ∈ DataW.weightsEach P ts ds
  | [], _, j, _, _, h, _, _, _ => by simp at h
  | _ :: _, [], j, _, _, _, h, _, _ => by simp at h
  | u :: ts, e :: ds, 0, t, d, h1, h2, k, hk => by
    simp at h1 h2
    subst h1 h2
    simp only [DataW.weightsEach]
    exact List.mem_append_left _ hk
  | u :: ts, e :: ds, j + 1, t, d, h1, h2, k, hk => by
    simp only [DataW.weightsEach]
    exact List.mem_append_right _ (each_mem ts ds j t d (by simpa using h1) (by simpa using h2) k hk)
theorem all_mem {P : Program} {e : TypeId} : ∀ (ds : List (DataW H)) (d : DataW H), d ∈ ds → ∀ k ∈ d.weights P e, k ∈ DataW.weightsAll P e ds
  | [], _, h, _, _ => by simp at h
  | x :: ds, d, h, k, hk => by
    simp only [DataW.weightsAll]
    rcases List.mem_cons.1 h with rfl | h
    · exact List.mem_append_left _ hk
    · exact List.mem_append_right _ (all_mem ds d h k hk)

set_option maxRecDepth 100000 in
theorem open_tree : ∀ (fuel : Nat) (cs : List Value) (x : DataW H × List MemPlace), DataW.trod enc Tryd.prog W base (fun _ => true) held fuel 27 cs = some x → capOf Tryd.prog 27 x.1 → ∃ t : T, TreeV W W.heap.size t cs ∧ TOk t := by
  intro fuel
  induction fuel using Nat.strongRecOn with
  | _ fuel ih =>
    intro cs x h hw
    obtain ⟨xs, n, hfu, rfl, hl, hxl, hf⟩ := DataW.trod_struct Tryd.underlying27 h
    have hc : Tryd.prog.cellsOf 27 = 10 := by kernel_rfl
    have k1 : Tryd.prog.cellsOf 22 = 1 := by kernel_rfl
    have k2 : Tryd.prog.cellsOf 23 = 1 := by kernel_rfl
    have k3 : Tryd.prog.cellsOf 21 = 1 := by kernel_rfl
    have k4 : Tryd.prog.cellsOf 24 = 1 := by kernel_rfl
    have k5 : Tryd.prog.cellsOf 25 = 1 := by kernel_rfl
    have k6 : Tryd.prog.cellsOf 3 = 1 := by kernel_rfl
    have k7 : Tryd.prog.cellsOf 9 = 1 := by kernel_rfl
    have k8 : Tryd.prog.cellsOf 4 = 1 := by kernel_rfl
    rw [hc] at hl
    obtain ⟨c0, c1, c2, c3, c4, c5, c6, c7, c8, c9, rfl⟩ : ∃ c0 c1 c2 c3 c4 c5 c6 c7 c8 c9, cs = [c0, c1, c2, c3, c4, c5, c6, c7, c8, c9] := by
      rcases cs with _ | ⟨c0, _ | ⟨c1, _ | ⟨c2, _ | ⟨c3, _ | ⟨c4, _ | ⟨c5, _ | ⟨c6, _ | ⟨c7, _ | ⟨c8, _ | ⟨c9, _ | ⟨c10, r⟩⟩⟩⟩⟩⟩⟩⟩⟩⟩⟩ <;> first | (simp at hl; done) | skip
      exact ⟨_, _, _, _, _, _, _, _, _, _, rfl⟩
    have hxl' : xs.length = 10 := hxl
    obtain ⟨y0, y1, y2, y3, y4, y5, y6, y7, y8, y9, rfl⟩ : ∃ y0 y1 y2 y3 y4 y5 y6 y7 y8 y9, xs = [y0, y1, y2, y3, y4, y5, y6, y7, y8, y9] := by
      rcases xs with _ | ⟨c0, _ | ⟨c1, _ | ⟨c2, _ | ⟨c3, _ | ⟨c4, _ | ⟨c5, _ | ⟨c6, _ | ⟨c7, _ | ⟨c8, _ | ⟨c9, _ | ⟨c10, r⟩⟩⟩⟩⟩⟩⟩⟩⟩⟩⟩ <;> first | (simp at hxl'; done) | skip
      exact ⟨_, _, _, _, _, _, _, _, _, _, rfl⟩
    have f0 : DataW.trod enc Tryd.prog W base (fun _ => true) held n 22 (([c0, c1, c2, c3, c4, c5, c6, c7, c8, c9].drop 0).take (Tryd.prog.cellsOf 22)) = some y0 := hf 0 _ rfl
    rw [k1] at f0
    have f0 : DataW.trod enc Tryd.prog W base (fun _ => true) held n 22 [c0] = some y0 := f0
    have f1 : DataW.trod enc Tryd.prog W base (fun _ => true) held n 23 (([c0, c1, c2, c3, c4, c5, c6, c7, c8, c9].drop 1).take (Tryd.prog.cellsOf 23)) = some y1 := hf 1 _ rfl
    rw [k2] at f1
    have f1 : DataW.trod enc Tryd.prog W base (fun _ => true) held n 23 [c1] = some y1 := f1
    have f2 : DataW.trod enc Tryd.prog W base (fun _ => true) held n 21 (([c0, c1, c2, c3, c4, c5, c6, c7, c8, c9].drop 2).take (Tryd.prog.cellsOf 21)) = some y2 := hf 2 _ rfl
    rw [k3] at f2
    have f2 : DataW.trod enc Tryd.prog W base (fun _ => true) held n 21 [c2] = some y2 := f2
    have f3 : DataW.trod enc Tryd.prog W base (fun _ => true) held n 24 (([c0, c1, c2, c3, c4, c5, c6, c7, c8, c9].drop 3).take (Tryd.prog.cellsOf 24)) = some y3 := hf 3 _ rfl
    rw [k4] at f3
    have f3 : DataW.trod enc Tryd.prog W base (fun _ => true) held n 24 [c3] = some y3 := f3
    have f4 : DataW.trod enc Tryd.prog W base (fun _ => true) held n 25 (([c0, c1, c2, c3, c4, c5, c6, c7, c8, c9].drop 4).take (Tryd.prog.cellsOf 25)) = some y4 := hf 4 _ rfl
    rw [k5] at f4
    have f4 : DataW.trod enc Tryd.prog W base (fun _ => true) held n 25 [c4] = some y4 := f4
    have f5 : DataW.trod enc Tryd.prog W base (fun _ => true) held n 3 (([c0, c1, c2, c3, c4, c5, c6, c7, c8, c9].drop 5).take (Tryd.prog.cellsOf 3)) = some y5 := hf 5 _ rfl
    rw [k6] at f5
    have f5 : DataW.trod enc Tryd.prog W base (fun _ => true) held n 3 [c5] = some y5 := f5
    have f6 : DataW.trod enc Tryd.prog W base (fun _ => true) held n 9 (([c0, c1, c2, c3, c4, c5, c6, c7, c8, c9].drop 6).take (Tryd.prog.cellsOf 9)) = some y6 := hf 6 _ rfl
    rw [k7] at f6
    have f6 : DataW.trod enc Tryd.prog W base (fun _ => true) held n 9 [c6] = some y6 := f6
    have f7 : DataW.trod enc Tryd.prog W base (fun _ => true) held n 3 (([c0, c1, c2, c3, c4, c5, c6, c7, c8, c9].drop 7).take (Tryd.prog.cellsOf 3)) = some y7 := hf 7 _ rfl
    rw [k6] at f7
    have f7 : DataW.trod enc Tryd.prog W base (fun _ => true) held n 3 [c7] = some y7 := f7
    have f8 : DataW.trod enc Tryd.prog W base (fun _ => true) held n 3 (([c0, c1, c2, c3, c4, c5, c6, c7, c8, c9].drop 8).take (Tryd.prog.cellsOf 3)) = some y8 := hf 8 _ rfl
    rw [k6] at f8
    have f8 : DataW.trod enc Tryd.prog W base (fun _ => true) held n 3 [c8] = some y8 := f8
    have f9 : DataW.trod enc Tryd.prog W base (fun _ => true) held n 4 (([c0, c1, c2, c3, c4, c5, c6, c7, c8, c9].drop 9).take (Tryd.prog.cellsOf 4)) = some y9 := hf 9 _ rfl
    rw [k8] at f9
    have f9 : DataW.trod enc Tryd.prog W base (fun _ => true) held n 4 [c9] = some y9 := f9
    obtain ⟨op, e0, _, w0⟩ := DataW.trod_int Tryd.underlying22 f0
    obtain ⟨rune, e2, _, w2⟩ := DataW.trod_int Tryd.underlying21 f2
    obtain ⟨pl, e4, _, w4⟩ := DataW.trod_int Tryd.underlying25 f4
    obtain ⟨cap, e5, _, w5⟩ := DataW.trod_int Tryd.underlying3 f5
    obtain ⟨name, e6, d6, _⟩ := DataW.trod_string Tryd.underlying9 f6
    obtain ⟨mn, e7, _, w7⟩ := DataW.trod_int Tryd.underlying3 f7
    obtain ⟨mx, e8, _, w8⟩ := DataW.trod_int Tryd.underlying3 f8
    obtain ⟨lz, e9, _⟩ := DataW.trod_bool Tryd.underlying4 f9
    have hW : ∀ (j : Nat) (t : TypeId) (y : DataW H × List MemPlace), [22, 23, 21, 24, 25, 3, 9, 3, 3, 4][j]? = some t → [y0, y1, y2, y3, y4, y5, y6, y7, y8, y9][j]? = some y → capOf Tryd.prog t y.1 := by
      intro j t y ht hy k hk
      refine hw k ?_
      simp only [DataW.weights, Tryd.underlying27]
      exact each_mem _ _ j t y.1 ht (by rw [List.getElem?_map, hy]; rfl) k hk
    obtain ⟨set, sa, sn, sc, e3, rset, wset, lset⟩ := open_ranges f3 (hW 3 _ _ rfl rfl)
    have hname : name.size ≤ 140737488351232 := by
      have := hW 6 _ _ rfl rfl name.data.toList.length (by rw [d6]; simp [DataW.weights])
      simpa using this
    obtain ⟨kids, ka, kn, kc, e1, rkids, wkids, lkids⟩ : ∃ (kids : List T) (a : Option Addr) (n c : Nat), [c1] = [.slice a n c] ∧ KidsV W W.heap.size kids a n c ∧ (∀ k ∈ kids, TOk k) ∧ kids.length * 8 ≤ 140737488351232 := by
      have hcap := hW 1 _ _ rfl rfl
      rcases DataW.trod_slice Tryd.underlying23 f1 with ⟨e, _⟩ | ⟨a, len, cp, elems, rest, m, hm, e, rfl, _, hl2, hm2, hlen, hel, _, _⟩
      · exact ⟨[], none, 0, 0, by simpa using e, ⟨rfl, ⟨Nat.le_refl _, by omega⟩, .inl rfl⟩, fun _ h => by simp at h, by simp⟩
      · have hb : Tryd.prog.bytesOf 27 = 120 := by kernel_rfl
        have hw1 : (elems.length + rest.length) * 120 ≤ 140737488351232 := by
          have := hcap ((elems.length + rest.length) * Tryd.prog.bytesOf 27) (by simp [DataW.weights, Tryd.underlying23])
          rw [hb] at this; exact this
        have each : ∀ i, i < len → ∃ (t : T) (cs : List Value), W.cells? base (a.add (i * 10)) 10 = some cs ∧ TreeV W W.heap.size t cs ∧ TOk t := by
          intro i hi
          have he := hel i hi
          rw [hc] at he
          obtain ⟨y, hy⟩ : ∃ y, elems[i]? = some y := ⟨elems[i]'(by omega), List.getElem?_eq_getElem (by omega)⟩
          rw [hy, Option.bind_eq_some_iff] at he
          obtain ⟨cs', h1, h2⟩ := he
          obtain ⟨t, ht1, ht2⟩ := ih m (by omega) cs' y h2 (fun k hk => hcap k (by
            simp only [DataW.weights, Tryd.underlying23]
            exact List.mem_cons_of_mem _ (List.mem_append_left _ (all_mem _ y.1 (List.mem_map.2 ⟨y, List.mem_of_getElem? hy, rfl⟩) k hk))))
          exact ⟨t, cs', h1, ht1, ht2⟩
        by_cases h0 : len = 0
        · subst h0
          exact ⟨[], some a, 0, cp, by simpa using e, ⟨rfl, ⟨Nat.zero_le _, by omega⟩, .inl rfl⟩, fun _ h => by simp at h, by simp⟩
        · obtain ⟨hpl, hblk⟩ : a = ⟨a.block, a.off, none⟩ ∧ a.block < W.heap.size := by
            obtain ⟨_, _, h1, _⟩ := each 0 (by omega)
            rw [Nat.zero_mul, show a.add 0 = a by simp [Addr.add]] at h1
            exact addr_plain h1 (by omega)
          have hex : ∃ f : Nat → T, ∀ i, i < len → TOk (f i) ∧ ∃ cs, TreeV W W.heap.size (f i) cs ∧ RowAt W a.block (a.off + i * 10) cs := by
            refine ⟨fun i => if h : i < len then (each i h).choose else .mk 0 [] 0 [] 0 0 ⟨#[]⟩ 0 0 false, fun i hi => ?_⟩
            simp only [dif_pos hi]
            obtain ⟨cs, h1, h2, h3⟩ := (each i hi).choose_spec
            refine ⟨h3, cs, h2, ?_⟩
            rw [hpl, add_plain] at h1
            exact cells_row h1
          obtain ⟨f, hf⟩ := hex
          refine ⟨(List.range len).map f, some a, len, cp, by simpa using e, ⟨by simp, ⟨hl2, by omega⟩, .inr ⟨a.block, a.off, by rw [← hpl], hblk, ?_⟩⟩, fun k hk => ?_, by simp; omega⟩
          · refine KidsAt.of fun k hk => ?_
            have hk' : k < len := by simpa using hk
            obtain ⟨_, cs, h1, h2⟩ := hf k hk'
            exact ⟨cs, by simpa using h1, h2⟩
          · obtain ⟨i, hi, rfl⟩ := List.mem_map.1 hk
            exact (hf i (by simpa using hi)).1
    refine ⟨.mk op kids rune set pl cap name mn mx lz, ?_, ?_⟩
    · have := TreeV.mk (op := op) (rune := rune) (pl := pl) (cap := cap) (name := name) (mn := mn) (mx := mx) (lz := lz) rkids rset
      simp at e0 e1 e2 e3 e4 e5 e6 e7 e8 e9
      rw [e0, e1, e2, e3, e4, e5, e6, e7, e8, e9]
      exact this
    · unfold TOk
      exact ⟨wf64 w0, wf32 w2, wset, wf64 w4, wf64 w5, wf64 w7, wf64 w8, hname, lset, lkids, TsOk.of wkids⟩
end
end Go.Proofs.YtihbmgpjihgodaaDoor
