/-  -/
import Derived.Test.YtihbmgpjihgodaaDoorBase
import Derived.Test.YtihbmgpjihgodaaDoorProg
import Derived.WalkKit
import Derived.Lib.Hide
import Derived.WalkSpells
import Derived.WalkLawsBesides
namespace Go.Proofs.YtihbmgpjihgodaaDoor
open Go Go.RowKit Go.Proofs

mutual
def depth : T → Nat
  | .mk _ kids _ _ _ _ _ _ _ _ => depthL kids + 1
def depthL : List T → Nat
  | [] => 0
  | t :: ts => max (depth t) (depthL ts)
end
theorem depth_le_depthL {l : List T} {k : Nat} (h : k < l.length) : depth l[k] ≤ depthL l := by
  induction l generalizing k with
  | nil => simp at h
  | cons t l ih =>
    cases k with
    | zero => simp [depthL]; omega
    | succ k => have := ih (k := k) (by simpa using h); simp [depthL]; omega
theorem depthL_take_le (l : List T) (k : Nat) : depthL (l.take k) ≤ depthL l := by
  induction l generalizing k with
  | nil => simp
  | cons t l ih =>
    cases k with
    | zero => simp [depthL]
    | succ k => have := ih k; simp [depthL]; omega
theorem depthL_take_succ (l : List T) (k : Nat) (h : k < l.length) : depthL (l.take (k + 1)) = max (depthL (l.take k)) (depth l[k]) := by
  induction l generalizing k with
  | nil => simp at h
  | cons t l ih =>
    cases k with
    | zero => simp [depthL]
    | succ k => simp [depthL, ih k (by simpa using h), Nat.max_assoc]

set_option maxHeartbeats 400000 in
theorem depth_any (t : T) : ∀ (cs : List Value) (B : Nat) (w : World), TreeV w B t cs → B ≤ w.heap.size → depth t ≤ 1000000 →
    Calls Tryd.prog 10 #[.agg cs.toArray] w fun e w' => e = .returned (.int .i64 (depth t)) ∧ Below w.heap.size w w' := by
  induction t using T.ind with
  | h op kids rune set pl cap name mn mx lz ih =>
    intro cs B w h hB hd
    obtain ⟨ka, kn, kc, sa, sn, sc, rfl, ⟨rfl, h2, h3⟩, h4⟩ := h.open
    have IH := Lib.hid ih; clear ih
    have H3 := Lib.hid h3; clear h3
    clear h h4
    have hd0 : depth (.mk op kids rune set pl cap name mn mx lz) = depthL kids + 1 := by simp [depth]
    rw [hd0] at hd ⊢
    clear hd0
    go_enter Tryd.func10, Tryd.ntmps10
    go_wp2_with fail
    go_loopw [3, 9] (fun n i wr => ∃ k : Nat, k ≤ kids.length ∧ i = .int .i64 k ∧ n = .int .i64 (depthL (kids.take k)) ∧ Below w.heap.size w wr) (fun _ i _ => kids.length - (intOf i).toNat)
    case atStart => exact ⟨0, Nat.zero_le _, rfl, by simp [depthL], (Below.refl _ _).alloc (Nat.le_refl _) _⟩
    case round =>
      obtain ⟨k, hk, rfl, rfl, hb⟩ := hrel
      by_cases hlt : k < kids.length
      · rcases H3.out with h0 | ⟨b, o, rfl, hbB, hK⟩
        · omega
        obtain ⟨cs, hc, hr⟩ := (hK.get k hlt)
        have hc' := hc.below (hb.mono hB)
        have hr' := hr.below (hb.mono hB) hbB
        have IHk := Lib.hid (IH.out _ (List.getElem_mem hlt) cs B)
        obtain ⟨op1, ka1, kn1, kc1, rune1, sa1, sn1, sc1, pl1, cap1, name1, mn1, mx1, lz1, rfl⟩ := hc.form
        obtain ⟨g0, g1, g2, g3, g4, g5, g6, g7, g8, g9⟩ := hr'.ten
        have HC := Lib.hid hc'
        have HB := Lib.hid hb
        have HS := Lib.hid hb.size
        clear hr hr' hc hc'
        go_wp2_with fail
        refine (IHk.out _ (HC.out.below ((Below.refl _ _).alloc (Nat.le_trans hB HS.out) _)) (by simp only [World.size_alloc]; have := HS.out; omega) ?hd).mono ?_
        case hd => have := depth_le_depthL hlt; omega
        rintro e w2 ⟨rfl, hb2⟩
        have HB2 := Lib.hid hb2; clear hb2
        have hq := depthL_take_succ kids k hlt
        have HQ := Lib.hid hq; clear hq
        go_wp2_with fail
        go_roundw
        case rel =>
          refine ⟨k + 1, hlt, by go_num, ?_, ?_⟩
          · rw [HQ.out]; go_num
          · exact (HB.out.alloc HS.out _).trans (HB2.out.mono (by simp only [World.size_alloc]; have := HS.out; omega))
        case measure => simp [intOf]; omega
      · have hk' : k = kids.length := by omega
        have ht := depthL_take_le kids k
        have hq : depthL (kids.take k) = depthL kids := by rw [hk', List.take_length]
        have HQ := Lib.hid hq; clear hq
        have HK := Lib.hid hk'; clear hk'
        go_wp2_with fail
        go_ret
        exact ⟨by rw [HQ.out]; go_num, hb⟩
end Go.Proofs.YtihbmgpjihgodaaDoor
