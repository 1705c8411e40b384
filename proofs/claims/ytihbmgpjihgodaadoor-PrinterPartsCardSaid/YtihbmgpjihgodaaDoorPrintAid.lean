/- The printer's little parts: joined, code, braced; the document's code. -/
import Derived.Test.YtihbmgpjihgodaaDoorHex16
import Derived.Test.YtihbmgpjihgodaaDoorShelf
namespace Go.Proofs.YtihbmgpjihgodaaDoor
open Go Go.RowKit Go.Proofs Go.Shelf

theorem ba_app (a b : List UInt8) : (⟨a.toArray⟩ : ByteArray) ++ ⟨b.toArray⟩ = ⟨(a ++ b).toArray⟩ := by
  apply ByteArray.ext
  simp
theorem join_empty (xs : List (List UInt8)) : Lib.join xs [] = xs.flatten := by
  induction xs with
  | nil => rfl
  | cons x r ih =>
    rw [Lib.join_cons]
    simp [Lib.joinTail]
set_option maxHeartbeats 1000000 in
theorem joined_any (bk c : Nat) (xs : List (List UInt8)) (w : World) (hcells : ∀ (j : Nat) x, xs[j]? = some x → w.cell? ⟨bk, j, none⟩ = some (.string ⟨x.toArray⟩)) (hbk : bk < w.heap.size)
    (hN : xs.length ≤ 140737488355328) (hcap : xs.length ≤ c) (hlen : xs.flatten.length ≤ 140737488355328) :
    Calls Tryd.prog 19 #[.slice (some ⟨bk, 0, none⟩) xs.length c] w fun e w' => e = .returned (.string ⟨xs.flatten.toArray⟩) ∧ Below w.heap.size w w' := by
  have HJ := Tryd.strings_Join bk 0 c (xs.map (fun x => ⟨x.toArray⟩)) ⟨#[]⟩ w (fun j x hx => by
    simp only [List.getElem?_map, Option.map_eq_some_iff] at hx
    obtain ⟨y, hy, rfl⟩ := hx
    rw [Nat.zero_add]
    exact hcells j y hy) hbk (by simpa using hN) (by simpa using hcap) (by
      rw [show ((⟨#[]⟩ : ByteArray)).data.toList = [] from rfl, join_empty]
      simpa [Function.comp_def] using hlen)
  rw [show ((⟨#[]⟩ : ByteArray)).data.toList = [] from rfl, join_empty] at HJ
  have e1 : (xs.map (fun x => (⟨x.toArray⟩ : ByteArray))).map (·.data.toList) = xs := by simp [Function.comp_def]
  rw [e1, List.length_map] at HJ
  generalize xs.length = n at *
  go_enter Tryd.func19, Tryd.ntmps19
  go_wp2_with fail
  refine HJ.mono ?_
  rintro e w' ⟨rfl, hB⟩
  go_wp2_with fail
  go_ret
  exact ⟨rfl, hB⟩

/-- 'joined' of a list that has just been laid. -/
theorem joined_new (xs : List (List UInt8)) (t : TypeId) (w : World) (hN : xs.length ≤ 140737488355328) (hlen : xs.flatten.length ≤ 140737488355328) :
    Calls Tryd.prog 19 #[.slice (some ⟨w.heap.size, 0, none⟩) xs.length xs.length] (w.alloc (.cells (xs.map (fun x => Value.string ⟨x.toArray⟩)).toArray t)) fun e w' =>
      e = .returned (.string ⟨xs.flatten.toArray⟩) ∧ Below w.heap.size w w' := by
  refine (joined_any w.heap.size xs.length xs _ (fun j x hx => ?_) (by simp) hN (Nat.le_refl _) hlen).mono ?_
  · exact (Blk.new w _ t).cell (by simp [hx])
  · rintro e w' ⟨rfl, hB⟩
    exact ⟨rfl, ((Below.refl _ w).alloc (Nat.le_refl _) _).trans (hB.mono (by simp))⟩
theorem hexTx_len (k : Nat) : ∀ n, n < 16 ^ (k + 1) → (hexTx n).length ≤ k + 1 := by
  induction k with
  | zero => intro n h; rw [hexTx_lt (by simpa using h)]; simp
  | succ k ih =>
    intro n h
    by_cases h1 : n < 16
    · rw [hexTx_lt h1]; simp
    · rw [hexTx_ge h1]
      have := ih (n / 16) (by rw [Nat.pow_succ] at h; omega)
      simp; omega
theorem codeTx_len (c : Int) (h : c < 2147483648) : (codeTx c).length ≤ 12 := by
  have := hexTx_len 7 c.toNat (by omega)
  unfold codeTx
  simp; omega

set_option maxHeartbeats 1000000 in
theorem printer_code (c : Int) (w : World) (h0 : 0 ≤ c) (hn : c < 2147483648) (hT : Bru w) :
    Calls Tryd.prog 30 #[.int .i32 c] w fun e w' => e = .returned (.string ⟨(codeTx c).toArray⟩) ∧ Below w.heap.size w w' := by
  obtain ⟨n, rfl⟩ : ∃ n : Nat, c = n := ⟨c.toNat, by omega⟩
  have hl := hexTx_len 7 n (by omega)
  go_enter Tryd.func30, Tryd.ntmps30
  go_wp2_with fail
  refine (FormatInt16 n w (by omega) hT).mono ?_
  rintro e w1 ⟨rfl, hB⟩
  go_wp2_with fail
  refine (joined_new [[92, 120, 123], hexTx n, [125]] 9 w1 (by simp) (by simp; omega)).mono ?_
  rintro e w2 ⟨rfl, hB2⟩
  go_wp2_with fail
  go_ret
  refine ⟨?_, below_then hB hB2⟩
  simp [codeTx]
/-- A text between brackets. -/
theorem bracedTx_yes (s : List UInt8) : bracedTx s true = [40, 63, 58] ++ s ++ [41] := rfl
set_option maxHeartbeats 1000000 in
theorem printer_braced (s : List UInt8) (m : Bool) (w : World) (hs : s.length ≤ 140737488355000) :
    Calls Tryd.prog 15 #[.string ⟨s.toArray⟩, .bool m] w fun e w' => e = .returned (.string ⟨(bracedTx s m).toArray⟩) ∧ Below w.heap.size w w' := by
  cases m with
  | true =>
    go_enter Tryd.func15, Tryd.ntmps15
    go_wp2_with fail
    refine (joined_new [[40, 63, 58], s, [41]] 9 w (by simp) (by simp; omega)).mono ?_
    rintro e w2 ⟨rfl, hB2⟩
    go_wp2_with fail
    go_ret
    refine ⟨?_, hB2⟩
    rw [bracedTx_yes]
    simp
  | false =>
    go_enter Tryd.func15, Tryd.ntmps15
    go_wp2_with fail
    go_ret
    exact ⟨rfl, Below.refl _ _⟩
end Go.Proofs.YtihbmgpjihgodaaDoor
