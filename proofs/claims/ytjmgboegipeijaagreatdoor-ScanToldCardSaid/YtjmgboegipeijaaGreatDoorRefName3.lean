/- The document's answer to a group's beginning: martelloref06.Name, whole. -/
import Derived.Test.YtjmgboegipeijaaGreatDoorRefName2
namespace Go.Proofs.YtjmgboegipeijaaGreatDoor
open Go Go.RowKit Go.Proofs

theorem idx_at {l : List UInt8} {c : UInt8} {p k : Nat} (hpk : p ≤ k) (hn : ∀ j, p ≤ j → j < k → l[j]? ≠ some c) (hk : l[k]? = some c) : Lib.indexByte (l.drop p) c = ((k - p : Nat) : Int) := by
  have hge := Lib.indexByte_ge (l.drop p) c
  by_cases h : Lib.indexByte (l.drop p) c = -1
  · exact absurd (by rw [List.getElem?_drop, show p + (k - p) = k by omega]; exact hk) (Lib.indexByte_none h (k - p))
  · obtain ⟨o, ho⟩ : ∃ o : Nat, Lib.indexByte (l.drop p) c = o := ⟨(Lib.indexByte (l.drop p) c).toNat, by omega⟩
    obtain ⟨h1, h2⟩ := Lib.indexByte_some ho
    rw [List.getElem?_drop] at h1
    rw [ho]
    have h3 : ¬ p + o < k := fun hlt => hn _ (by omega) hlt h1
    have h4 : ¬ k - p < o := fun hlt => h2 _ hlt (by rw [List.getElem?_drop, show p + (k - p) = k by omega]; exact hk)
    omega
theorem idx_no {l : List UInt8} {c : UInt8} {p : Nat} (hn : ∀ j, p ≤ j → j < l.length → l[j]? ≠ some c) : Lib.indexByte (l.drop p) c = -1 := by
  have hge := Lib.indexByte_ge (l.drop p) c
  by_cases h : Lib.indexByte (l.drop p) c = -1
  · exact h
  · obtain ⟨o, ho⟩ : ∃ o : Nat, Lib.indexByte (l.drop p) c = o := ⟨(Lib.indexByte (l.drop p) c).toNat, by omega⟩
    obtain ⟨h1, _⟩ := Lib.indexByte_some ho
    rw [List.getElem?_drop] at h1
    exact absurd h1 (hn _ (by omega) (List.getElem?_eq_some_iff.1 h1).1)
theorem stands_at {s : ByteArray} {p : Nat} {t : List UInt8} (h : stands s p t = true) {j : Nat} (hj : j < t.length) : s.data.toList[p + j]? = some t[j] := by
  unfold stands Lib.hasPrefix at h
  obtain ⟨r, hr⟩ := List.isPrefixOf_iff_prefix.1 h
  rw [← List.getElem?_drop, ← hr, List.getElem?_append_left hj, List.getElem?_eq_getElem hj]
/-- Where a '>' stands behind a beginning, it stands behind all of it. -/
theorem stands_far {s : ByteArray} {p k : Nat} {t : List UInt8} (h : stands s p t = true) (ht : ∀ x ∈ t, x ≠ 62) (hpk : p ≤ k) (hk : s.data.toList[k]? = some 62) : p + t.length ≤ k := by
  by_cases hlt : p + t.length ≤ k
  · exact hlt
  · have := stands_at h (j := k - p) (by omega)
    rw [show p + (k - p) = k by omega, hk] at this
    exact absurd (Option.some.inj this).symm (ht _ (List.getElem_mem _))

def noGt (s : ByteArray) (p k : Nat) : Prop := ∀ j, p ≤ j → j < k → s.data.toList[j]? ≠ some 62
theorem noGt_succ {s : ByteArray} {p k : Nat} (h : noGt s p k) (hk : k < s.size) (hc : (s[k]'hk) ≠ 62) : noGt s p (k + 1) := by
  intro j h1 h2
  by_cases e : j = k
  · subst e
    rw [getElem_toList s j hk]; intro h; exact hc (Option.some.inj h)
  · exact h j h1 (by omega)

theorem endP_at {s : ByteArray} {p k : Nat} (hpk : p ≤ k) (hn : noGt s p k) (hk : s.data.toList[k]? = some 62) : endP s p = k + 1 := by
  unfold endP; rw [idx_at hpk hn hk, if_pos (by omega)]; simp; omega
theorem endP_no {s : ByteArray} {p : Nat} (hn : noGt s p s.size) : endP s p = s.size := by
  unfold endP; rw [idx_no (fun j h1 h2 => hn j h1 (by simpa using h2)), if_neg (by decide)]
theorem nameP_0 {s : ByteArray} {p : Nat} (h4 : stands s p [40, 63, 80, 60] = false) (h3 : stands s p [40, 63, 60] = false) : nameP s p = .error (endP s p) := by
  unfold nameP fromP; rw [h4, h3]; rfl
theorem nameP_4 {s : ByteArray} {p : Nat} (h4 : stands s p [40, 63, 80, 60] = true) : nameP s p = if 0 ≤ Lib.indexByte (s.data.toList.drop (p + 4)) 62 ∧ nameB (s.extract (p + 4) (p + 4 + (Lib.indexByte (s.data.toList.drop (p + 4)) 62).toNat)) = true then
      .ok (s.extract (p + 4) (p + 4 + (Lib.indexByte (s.data.toList.drop (p + 4)) 62).toNat), p + 4 + (Lib.indexByte (s.data.toList.drop (p + 4)) 62).toNat + 1) else .error (endP s p) := by
  unfold nameP fromP; rw [h4]; rfl
theorem nameP_3 {s : ByteArray} {p : Nat} (h4 : stands s p [40, 63, 80, 60] = false) (h3 : stands s p [40, 63, 60] = true) : nameP s p = if 0 ≤ Lib.indexByte (s.data.toList.drop (p + 3)) 62 ∧ nameB (s.extract (p + 3) (p + 3 + (Lib.indexByte (s.data.toList.drop (p + 3)) 62).toNat)) = true then
      .ok (s.extract (p + 3) (p + 3 + (Lib.indexByte (s.data.toList.drop (p + 3)) 62).toNat), p + 3 + (Lib.indexByte (s.data.toList.drop (p + 3)) 62).toNat + 1) else .error (endP s p) := by
  unfold nameP fromP; rw [h4, h3]; rfl
theorem nameP_far {s : ByteArray} {p q k : Nat} (hpq : p ≤ q) (hqk : q ≤ k) (hn : noGt s p k) (hk : s.data.toList[k]? = some 62) : Lib.indexByte (s.data.toList.drop q) 62 = ((k - q : Nat) : Int) :=
  idx_at hqk (fun j h1 h2 => hn j (by omega) h2) hk
theorem nameP_off {s : ByteArray} {p q : Nat} (hpq : p ≤ q) (hn : noGt s p s.size) : Lib.indexByte (s.data.toList.drop q) 62 = -1 :=
  idx_no (fun j h1 h2 => hn j (by omega) (by simpa using h2))

set_option maxRecDepth 100000 in
set_option maxHeartbeats 4000000 in
theorem ref06_Name (s : ByteArray) (p : Nat) (w : World) (hp : p ≤ s.size) (hs : s.size ≤ 140737488355328) :
    Calls Tryz.prog 21 #[.string s, .int .i64 (p : Int)] w fun e w' => e = .returned (nameV p (nameP s p)) ∧ Below w.heap.size w w' := by
  obtain ⟨W, hW⟩ : ∃ W, W = w.alloc (.cells #[.int .i64 0, .int .i64 0, .int .i64 0] 30) := ⟨_, rfl⟩
  have X0 := Lib.hid (show Blk W w.heap.size [.int .i64 0, .int .i64 0, .int .i64 0] 30 by rw [hW]; exact Blk.new w [.int .i64 0, .int .i64 0, .int .i64 0] 30)
  have B0 := Lib.hid (show Below w.heap.size w W by rw [hW]; exact (Below.refl _ w).alloc (Nat.le_refl _) _)
  go_enter Tryz.func21, Tryz.ntmps21
  go_wp2_with fail
  rw [← hW]
  have HW := Lib.hid hW; clear hW
  go_loop [7] (fun i => ∃ k : Nat, p ≤ k ∧ k ≤ s.size ∧ i = .int .i64 k ∧ noGt s p k) (fun i => s.size - (intOf i).toNat)
  case atStart => exact ⟨p, Nat.le_refl _, hp, rfl, fun j h1 h2 => by omega⟩
  case round =>
    obtain ⟨k, hpk, hk, rfl, hn⟩ := hrel
    have HN := Lib.hid hn; clear hn
    by_cases hlt : k < s.size
    · by_cases hc : (s[k]'hlt) = 62
      · have hk62 : s.data.toList[k]? = some 62 := by rw [getElem_toList s k hlt, hc]
        have HK := Lib.hid hk62; clear hk62
        have hc2 : ((((s[k]'hlt).toNat : Int)) != 62) = false := by rw [hc]; rfl
        have HEnd := Lib.hid (endP_at hpk HN.out HK.out)
        have hk1 : k + 1 ≤ s.size := hlt
        clear hc
        go_wp2_with fail
        by_cases h4 : stands s p [40, 63, 80, 60] = true
        · have hf := stands_far h4 (by decide) hpk HK.out
          have H4 := Lib.hid h4; clear h4
          have hfar := nameP_far (q := p + 4) (by omega) hf HN.out HK.out
          have HFar := Lib.hid hfar; clear hfar
          have hf4 : p + 4 ≤ k := hf
          clear hf
          have i1 : ¬ (k : Int) < (p : Int) + 4 := by omega
          refine (ref06_has s ⟨#[40, 63, 80, 60]⟩ p _ hp hs (by decide)).mono ?_
          rintro e w1 ⟨rfl, rfl⟩
          rw [show stands s p (⟨#[40, 63, 80, 60]⟩ : ByteArray).data.toList = true from H4.out]
          go_wp2_with fail
          refine (ref05_Name _ _).mono ?_
          rintro e w2 ⟨rfl, rfl⟩
          have he : k - (p + 4) + (p + 4) = k := by omega
          cases hb : nameB (s.extract (p + 4) k) with
          | true =>
            have HP := Lib.hid (show nameP s p = .ok (s.extract (p + 4) k, k + 1) by
              rw [nameP_4 H4.out, HFar.out]; simp only [Int.toNat_natCast]; rw [Nat.add_comm (p + 4), he, if_pos ⟨by omega, hb⟩])
            have a0 := Blk.cell X0.out (j := 0) rfl; have a1 := Blk.cell X0.out (j := 1) rfl; have a2 := Blk.cell X0.out (j := 2) rfl
            have b0 := Blk.frozen X0.out 0; have b1 := Blk.frozen X0.out 1; have b2 := Blk.frozen X0.out 2
            clear hb he
            go_wp2_with fail
            refine bodyPost_ret (v := .tuple #[.string (s.extract (p + 4) k), .int .i64 ((k : Int) + 1), .agg #[.int .i64 0, .int .i64 0, .int .i64 0]]) ?_ rfl ⟨by rw [HP.out]; rfl, ?_⟩
            · simp [results, Tryz.results21, go_sem, a0, a1, a2]
            · exact ((B0.out.setCell (by simp) _).setCell (by simp) _).setCell (by simp) _
          | false =>
            have HP := Lib.hid (show nameP s p = .error (endP s p) by
              rw [nameP_4 H4.out, HFar.out]; simp only [Int.toNat_natCast]; rw [Nat.add_comm (p + 4), he, if_neg (by rw [hb]; simp)])
            clear hb he
            go_wp2_with fail
            have hmin : min ((k : Int) + 1) (s.size : Int) = ((k + 1 : Nat) : Int) := by omega
            rw [hmin]
            clear hmin
            refine (ref06_wrong _ _ _ _).mono ?_
            rintro e w5 ⟨rfl, hB5⟩
            have X5 := X0.out.below hB5 X0.out.lt
            have a0 := Blk.cell X5 (j := 0) rfl; have a1 := Blk.cell X5 (j := 1) rfl; have a2 := Blk.cell X5 (j := 2) rfl
            have b0 := Blk.frozen X5 0; have b1 := Blk.frozen X5 1; have b2 := Blk.frozen X5 2
            have B5 := Lib.hid (below_then B0.out hB5 : Below w.heap.size w w5)
            clear hB5 X5
            go_wp2_with fail
            refine bodyPost_ret (v := .tuple #[.string ⟨#[]⟩, .int .i64 0, .agg #[.int .i64 64, .int .i64 (p : Int), .int .i64 (((k + 1 : Nat) : Int))]]) ?_ rfl ⟨?_, ?_⟩
            · simp [results, Tryz.results21, go_sem, a0, a1, a2]
            · rw [HP.out, HEnd.out]; rfl
            · exact ((B5.out.setCell (by simp) _).setCell (by simp) _).setCell (by simp) _
        · have h4' : stands s p [40, 63, 80, 60] = false := by simpa using h4
          have H4 := Lib.hid h4'; clear h4 h4'
          by_cases h3 : stands s p [40, 63, 60] = true
          · have hf := stands_far h3 (by decide) hpk HK.out
            have H3 := Lib.hid h3; clear h3
            have hfar := nameP_far (q := p + 3) (by omega) hf HN.out HK.out
            have HFar := Lib.hid hfar; clear hfar
            have hf4 : p + 3 ≤ k := hf
            clear hf
            have i1 : ¬ (k : Int) < (p : Int) + 3 := by omega
            refine (ref06_has s ⟨#[40, 63, 80, 60]⟩ p _ hp hs (by decide)).mono ?_
            rintro e w1 ⟨rfl, rfl⟩
            rw [show stands s p (⟨#[40, 63, 80, 60]⟩ : ByteArray).data.toList = false from H4.out]
            go_wp2_with fail
            refine (ref06_has s ⟨#[40, 63, 60]⟩ p _ hp hs (by decide)).mono ?_
            rintro e w3 ⟨rfl, rfl⟩
            rw [show stands s p (⟨#[40, 63, 60]⟩ : ByteArray).data.toList = true from H3.out]
            go_wp2_with fail
            refine (ref05_Name _ _).mono ?_
            rintro e w2 ⟨rfl, rfl⟩
            have he : k - (p + 3) + (p + 3) = k := by omega
            cases hb : nameB (s.extract (p + 3) k) with
            | true =>
              have HP := Lib.hid (show nameP s p = .ok (s.extract (p + 3) k, k + 1) by
                rw [nameP_3 H4.out H3.out, HFar.out]; simp only [Int.toNat_natCast]; rw [Nat.add_comm (p + 3), he, if_pos ⟨by omega, hb⟩])
              have a0 := Blk.cell X0.out (j := 0) rfl; have a1 := Blk.cell X0.out (j := 1) rfl; have a2 := Blk.cell X0.out (j := 2) rfl
              have b0 := Blk.frozen X0.out 0; have b1 := Blk.frozen X0.out 1; have b2 := Blk.frozen X0.out 2
              clear hb he
              go_wp2_with fail
              refine bodyPost_ret (v := .tuple #[.string (s.extract (p + 3) k), .int .i64 ((k : Int) + 1), .agg #[.int .i64 0, .int .i64 0, .int .i64 0]]) ?_ rfl ⟨by rw [HP.out]; rfl, ?_⟩
              · simp [results, Tryz.results21, go_sem, a0, a1, a2]
              · exact ((B0.out.setCell (by simp) _).setCell (by simp) _).setCell (by simp) _
            | false =>
              have HP := Lib.hid (show nameP s p = .error (endP s p) by
                rw [nameP_3 H4.out H3.out, HFar.out]; simp only [Int.toNat_natCast]; rw [Nat.add_comm (p + 3), he, if_neg (by rw [hb]; simp)])
              clear hb he
              go_wp2_with fail
              have hmin : min ((k : Int) + 1) (s.size : Int) = ((k + 1 : Nat) : Int) := by omega
              rw [hmin]
              clear hmin
              refine (ref06_wrong _ _ _ _).mono ?_
              rintro e w5 ⟨rfl, hB5⟩
              have X5 := X0.out.below hB5 X0.out.lt
              have a0 := Blk.cell X5 (j := 0) rfl; have a1 := Blk.cell X5 (j := 1) rfl; have a2 := Blk.cell X5 (j := 2) rfl
              have b0 := Blk.frozen X5 0; have b1 := Blk.frozen X5 1; have b2 := Blk.frozen X5 2
              have B5 := Lib.hid (below_then B0.out hB5 : Below w.heap.size w w5)
              clear hB5 X5
              go_wp2_with fail
              refine bodyPost_ret (v := .tuple #[.string ⟨#[]⟩, .int .i64 0, .agg #[.int .i64 64, .int .i64 (p : Int), .int .i64 (((k + 1 : Nat) : Int))]]) ?_ rfl ⟨?_, ?_⟩
              · simp [results, Tryz.results21, go_sem, a0, a1, a2]
              · rw [HP.out, HEnd.out]; rfl
              · exact ((B5.out.setCell (by simp) _).setCell (by simp) _).setCell (by simp) _
          · have h3' : stands s p [40, 63, 60] = false := by simpa using h3
            have H3 := Lib.hid h3'; clear h3 h3'
            have HP := Lib.hid (nameP_0 H4.out H3.out)
            refine (ref06_has s ⟨#[40, 63, 80, 60]⟩ p _ hp hs (by decide)).mono ?_
            rintro e w1 ⟨rfl, rfl⟩
            rw [show stands s p (⟨#[40, 63, 80, 60]⟩ : ByteArray).data.toList = false from H4.out]
            go_wp2_with fail
            refine (ref06_has s ⟨#[40, 63, 60]⟩ p _ hp hs (by decide)).mono ?_
            rintro e w3 ⟨rfl, rfl⟩
            rw [show stands s p (⟨#[40, 63, 60]⟩ : ByteArray).data.toList = false from H3.out]
            go_wp2_with fail
            have hmin : min ((k : Int) + 1) (s.size : Int) = ((k + 1 : Nat) : Int) := by omega
            rw [hmin]
            clear hmin
            refine (ref06_wrong _ _ _ _).mono ?_
            rintro e w5 ⟨rfl, hB5⟩
            have X5 := X0.out.below hB5 X0.out.lt
            have a0 := Blk.cell X5 (j := 0) rfl; have a1 := Blk.cell X5 (j := 1) rfl; have a2 := Blk.cell X5 (j := 2) rfl
            have b0 := Blk.frozen X5 0; have b1 := Blk.frozen X5 1; have b2 := Blk.frozen X5 2
            have B5 := Lib.hid (below_then B0.out hB5 : Below w.heap.size w w5)
            clear hB5 X5
            go_wp2_with fail
            refine bodyPost_ret (v := .tuple #[.string ⟨#[]⟩, .int .i64 0, .agg #[.int .i64 64, .int .i64 (p : Int), .int .i64 (((k + 1 : Nat) : Int))]]) ?_ rfl ⟨?_, ?_⟩
            · simp [results, Tryz.results21, go_sem, a0, a1, a2]
            · rw [HP.out, HEnd.out]; rfl
            · exact ((B5.out.setCell (by simp) _).setCell (by simp) _).setCell (by simp) _
      · have hc2 : ((((s[k]'hlt).toNat : Int)) != 62) = true := by
          have : (s[k]'hlt).toNat ≠ 62 := fun h => hc (UInt8.toNat_inj.1 h)
          simp; omega
        have HX := Lib.hid (noGt_succ HN.out hlt hc)
        have HL := Lib.hid hlt
        clear hc
        go_wp2_with fail
        go_round
        case rel => exact ⟨k + 1, by omega, HL.out, by go_num, HX.out⟩
        case measure => have := HL.out; simp [intOf]; omega
    · have hke : k = s.size := by omega
      have HE0 := Lib.hid hke
      have HEnd := Lib.hid (endP_no (by rw [← hke]; exact HN.out))
      clear hke
      go_wp2_with fail
      by_cases h4 : stands s p [40, 63, 80, 60] = true
      · have H4 := Lib.hid h4; clear h4
        have HP := Lib.hid (show nameP s p = .error (endP s p) by rw [nameP_4 H4.out, nameP_off (p := p) (q := p + 4) (by omega) (by rw [← HE0.out]; exact HN.out)]; rfl)
        refine (ref06_has s ⟨#[40, 63, 80, 60]⟩ p _ hp hs (by decide)).mono ?_
        rintro e w1 ⟨rfl, rfl⟩
        rw [show stands s p (⟨#[40, 63, 80, 60]⟩ : ByteArray).data.toList = true from H4.out]
        go_wp2_with fail
        have hmin : min ((k : Int) + 1) (s.size : Int) = ((s.size : Nat) : Int) := by omega
        rw [hmin]
        clear hmin
        refine (ref06_wrong _ _ _ _).mono ?_
        rintro e w5 ⟨rfl, hB5⟩
        have X5 := X0.out.below hB5 X0.out.lt
        have a0 := Blk.cell X5 (j := 0) rfl; have a1 := Blk.cell X5 (j := 1) rfl; have a2 := Blk.cell X5 (j := 2) rfl
        have b0 := Blk.frozen X5 0; have b1 := Blk.frozen X5 1; have b2 := Blk.frozen X5 2
        have B5 := Lib.hid (below_then B0.out hB5 : Below w.heap.size w w5)
        clear hB5 X5
        go_wp2_with fail
        refine bodyPost_ret (v := .tuple #[.string ⟨#[]⟩, .int .i64 0, .agg #[.int .i64 64, .int .i64 (p : Int), .int .i64 ((s.size : Int))]]) ?_ rfl ⟨?_, ?_⟩
        · simp [results, Tryz.results21, go_sem, a0, a1, a2]
        · rw [HP.out, HEnd.out]; rfl
        · exact ((B5.out.setCell (by simp) _).setCell (by simp) _).setCell (by simp) _
      · have h4' : stands s p [40, 63, 80, 60] = false := by simpa using h4
        have H4 := Lib.hid h4'; clear h4 h4'
        by_cases h3 : stands s p [40, 63, 60] = true
        · have H3 := Lib.hid h3; clear h3
          have HP := Lib.hid (show nameP s p = .error (endP s p) by rw [nameP_3 H4.out H3.out, nameP_off (p := p) (q := p + 3) (by omega) (by rw [← HE0.out]; exact HN.out)]; rfl)
          refine (ref06_has s ⟨#[40, 63, 80, 60]⟩ p _ hp hs (by decide)).mono ?_
          rintro e w1 ⟨rfl, rfl⟩
          rw [show stands s p (⟨#[40, 63, 80, 60]⟩ : ByteArray).data.toList = false from H4.out]
          go_wp2_with fail
          refine (ref06_has s ⟨#[40, 63, 60]⟩ p _ hp hs (by decide)).mono ?_
          rintro e w3 ⟨rfl, rfl⟩
          rw [show stands s p (⟨#[40, 63, 60]⟩ : ByteArray).data.toList = true from H3.out]
          go_wp2_with fail
          have hmin : min ((k : Int) + 1) (s.size : Int) = ((s.size : Nat) : Int) := by omega
          rw [hmin]
          clear hmin
          refine (ref06_wrong _ _ _ _).mono ?_
          rintro e w5 ⟨rfl, hB5⟩
          have X5 := X0.out.below hB5 X0.out.lt
          have a0 := Blk.cell X5 (j := 0) rfl; have a1 := Blk.cell X5 (j := 1) rfl; have a2 := Blk.cell X5 (j := 2) rfl
          have b0 := Blk.frozen X5 0; have b1 := Blk.frozen X5 1; have b2 := Blk.frozen X5 2
          have B5 := Lib.hid (below_then B0.out hB5 : Below w.heap.size w w5)
          clear hB5 X5
          go_wp2_with fail
          refine bodyPost_ret (v := .tuple #[.string ⟨#[]⟩, .int .i64 0, .agg #[.int .i64 64, .int .i64 (p : Int), .int .i64 ((s.size : Int))]]) ?_ rfl ⟨?_, ?_⟩
          · simp [results, Tryz.results21, go_sem, a0, a1, a2]
          · rw [HP.out, HEnd.out]; rfl
          · exact ((B5.out.setCell (by simp) _).setCell (by simp) _).setCell (by simp) _
        · have h3' : stands s p [40, 63, 60] = false := by simpa using h3
          have H3 := Lib.hid h3'; clear h3 h3'
          have HP := Lib.hid (nameP_0 H4.out H3.out)
          refine (ref06_has s ⟨#[40, 63, 80, 60]⟩ p _ hp hs (by decide)).mono ?_
          rintro e w1 ⟨rfl, rfl⟩
          rw [show stands s p (⟨#[40, 63, 80, 60]⟩ : ByteArray).data.toList = false from H4.out]
          go_wp2_with fail
          refine (ref06_has s ⟨#[40, 63, 60]⟩ p _ hp hs (by decide)).mono ?_
          rintro e w3 ⟨rfl, rfl⟩
          rw [show stands s p (⟨#[40, 63, 60]⟩ : ByteArray).data.toList = false from H3.out]
          go_wp2_with fail
          have hmin : min ((k : Int) + 1) (s.size : Int) = ((s.size : Nat) : Int) := by omega
          rw [hmin]
          clear hmin
          refine (ref06_wrong _ _ _ _).mono ?_
          rintro e w5 ⟨rfl, hB5⟩
          have X5 := X0.out.below hB5 X0.out.lt
          have a0 := Blk.cell X5 (j := 0) rfl; have a1 := Blk.cell X5 (j := 1) rfl; have a2 := Blk.cell X5 (j := 2) rfl
          have b0 := Blk.frozen X5 0; have b1 := Blk.frozen X5 1; have b2 := Blk.frozen X5 2
          have B5 := Lib.hid (below_then B0.out hB5 : Below w.heap.size w w5)
          clear hB5 X5
          go_wp2_with fail
          refine bodyPost_ret (v := .tuple #[.string ⟨#[]⟩, .int .i64 0, .agg #[.int .i64 64, .int .i64 (p : Int), .int .i64 ((s.size : Int))]]) ?_ rfl ⟨?_, ?_⟩
          · simp [results, Tryz.results21, go_sem, a0, a1, a2]
          · rw [HP.out, HEnd.out]; rfl
          · exact ((B5.out.setCell (by simp) _).setCell (by simp) _).setCell (by simp) _
end Go.Proofs.YtjmgboegipeijaaGreatDoor
