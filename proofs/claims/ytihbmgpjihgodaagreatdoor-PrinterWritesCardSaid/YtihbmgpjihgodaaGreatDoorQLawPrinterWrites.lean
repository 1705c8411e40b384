/- PrinterWrites' law: any tree's text, or that it has none, is the document's. The library's table of powers of ten, off what a row lists. The library's table for trailing zeros, off what a row lists: the one cell that is read. -/
import Derived.Test.YtihbmgpjihgodaaGreatDoorQTextG
import Derived.Test.YtihbmgpjihgodaaGreatDoorQPrintR
import Derived.Test.YtihbmgpjihgodaaGreatDoorProg
import Derived.Lib.LaidU8
import Derived.Lib.LaidTab
import Derived.Lib.ItoaNum
import Derived.KernelRfl
import Derived.Test.YtihbmgpjihgodaaGreatDoorQPrintSpec
namespace Go.Proofs.YtihbmgpjihgodaaGreatDoor
open Go Go.RowKit Go.Proofs Go.Shelf

theorem tok_sets (t : T) : TOk t → ∀ p ∈ parts t, p.set.length ≤ 17592186044000 := by
  induction t using T.ind with
  | h op kids rune set pl cap name mn mx lz ih =>
    intro h p hp
    obtain ⟨_, _, _, _, _, _, _, _, h9, _, h11⟩ := h.open
    simp only [parts, List.mem_cons] at hp
    rcases hp with rfl | hp
    · simp only [T.set]; omega
    · have : ∀ l : List T, (∀ k ∈ l, k ∈ kids) → p ∈ partsL l → p.set.length ≤ 17592186044000 := by
        intro l
        induction l with
        | nil => intro _ h; simp [partsL] at h
        | cons a l ihl =>
          intro hl h
          simp only [partsL, List.mem_append] at h
          rcases h with h | h
          · exact ih a (hl a (List.mem_cons_self ..)) (h11 a (hl a (List.mem_cons_self ..))) p h
          · exact ihl (fun k hk => hl k (List.mem_cons_of_mem _ hk)) h
      exact this kids (fun _ h => h) hp

set_option maxHeartbeats 1000000 in
theorem law_printerWrites (t : T) (cs : List Value) (B : Nat) (w : World) (h : TreeV w B t cs) (hB : B ≤ w.heap.size) (hk : TOk t) (hT : Tb w) :
    Calls Tryz.prog 3 #[.agg cs.toArray] w fun e w' => e = .returned (.bool true) ∧ Below w.heap.size w w' := by
  have HT := Lib.hid (fun W (hW : Below w.heap.size w W) => hT.below hW)
  have HB0 := Lib.hid (fun o => (Below.refl _ w).alloc (Nat.le_refl _) o)
  have HH := Lib.hid (fun W (hW : Below w.heap.size w W) => head09 W (hT.below hW))
  have hset := tok_sets t hk
  have HP := Lib.hid (fun W (hW : Below w.heap.size w W) => ref05_Parts t cs B W 20000 (h.below (hW.mono hB)) (Nat.le_trans hB hW.size) hset (by omega) (by omega))
  have HG := Lib.hid (fun (hpc : pcT t ≤ 1000000) W (hW : Below w.heap.size w W) => printer_Print t cs B W (h.below (hW.mono hB)) (Nat.le_trans hB hW.size) hpc (hT.below hW))
  have HR := Lib.hid (fun (hpc : pcT t ≤ 1000000) W (hW : Below w.heap.size w W) => ref09_Print t cs B W (h.below (hW.mono hB)) (Nat.le_trans hB hW.size) hpc (hT.below hW))
  have HPA := Lib.hid (partsN_all t 20000)
  have hz := Lib.hid (Blk.new w cs 27)
  obtain ⟨op, ka, kn, kc, rune, sa, sn, sc, pl, cap, name, mn, mx, lz, rfl⟩ := h.form
  clear h hT hset
  go_enter Tryz.func3, Tryz.ntmps3
  go_wp2_with fail
  refine (HH.out _ (HB0.out _)).mono ?_
  rintro e w1 ⟨rfl, hb1⟩
  have HB1 := Lib.hid ((HB0.out _).trans (hb1.mono (by simp)))
  have HZ1 := Lib.hid (hz.out.below hb1 (by simp))
  have z0 := HZ1.out.cell (j := 0) rfl; have z1 := HZ1.out.cell (j := 1) rfl; have z2 := HZ1.out.cell (j := 2) rfl; have z3 := HZ1.out.cell (j := 3) rfl; have z4 := HZ1.out.cell (j := 4) rfl
  have z5 := HZ1.out.cell (j := 5) rfl; have z6 := HZ1.out.cell (j := 6) rfl; have z7 := HZ1.out.cell (j := 7) rfl; have z8 := HZ1.out.cell (j := 8) rfl; have z9 := HZ1.out.cell (j := 9) rfl
  clear hb1
  go_wp2_with fail
  refine (HP.out _ HB1.out).mono ?_
  rintro e w2 ⟨rfl, hb2⟩
  have HB2 := Lib.hid (HB1.out.trans (hb2.mono HB1.out.size))
  have HZ2 := Lib.hid (HZ1.out.below hb2 HZ1.out.lt)
  obtain ⟨N, hN⟩ : ∃ N, N = partsN t 20000 := ⟨_, rfl⟩
  rw [← hN]
  have HN := Lib.hid hN
  clear hb2 hN z0 z1 z2 z3 z4 z5 z6 z7 z8 z9
  by_cases hgt : N > 20000
  · have d1 : decide (20000 < N) = true := decide_eq_true hgt
    go_wp2_with fail
    go_ret
    exact ⟨rfl, HB2.out⟩
  · have d1 : decide (20000 < N) = false := decide_eq_false hgt
    have hpc : pcT t ≤ 1000000 := by have := HPA.out (by rw [← HN.out]; omega); rw [← HN.out] at this; omega
    have HPC := Lib.hid hpc
    have z0 := HZ2.out.cell (j := 0) rfl; have z1 := HZ2.out.cell (j := 1) rfl; have z2 := HZ2.out.cell (j := 2) rfl; have z3 := HZ2.out.cell (j := 3) rfl; have z4 := HZ2.out.cell (j := 4) rfl
    have z5 := HZ2.out.cell (j := 5) rfl; have z6 := HZ2.out.cell (j := 6) rfl; have z7 := HZ2.out.cell (j := 7) rfl; have z8 := HZ2.out.cell (j := 8) rfl; have z9 := HZ2.out.cell (j := 9) rfl
    clear hgt hpc
    go_wp2_with fail
    refine (HG.out HPC.out _ HB2.out).mono ?_
    rintro e w3 ⟨rfl, hb3⟩
    have HB3 := Lib.hid (HB2.out.trans (hb3.mono HB2.out.size))
    have HZ3 := Lib.hid (HZ2.out.below hb3 HZ2.out.lt)
    clear hb3 z0 z1 z2 z3 z4 z5 z6 z7 z8 z9
    have z0 := HZ3.out.cell (j := 0) rfl; have z1 := HZ3.out.cell (j := 1) rfl; have z2 := HZ3.out.cell (j := 2) rfl; have z3 := HZ3.out.cell (j := 3) rfl; have z4 := HZ3.out.cell (j := 4) rfl
    have z5 := HZ3.out.cell (j := 5) rfl; have z6 := HZ3.out.cell (j := 6) rfl; have z7 := HZ3.out.cell (j := 7) rfl; have z8 := HZ3.out.cell (j := 8) rfl; have z9 := HZ3.out.cell (j := 9) rfl
    generalize hS : (⟨(printTx t).toArray⟩ : ByteArray) = S at HR ⊢
    generalize hE : printE t = E at HR ⊢
    go_wp2_with fail
    refine (HR.out HPC.out _ HB3.out).mono ?_
    rintro e w4 ⟨rfl, hb4⟩
    have HB4 := Lib.hid (HB3.out.trans (hb4.mono HB3.out.size))
    clear hb4 hS hE z0 z1 z2 z3 z4 z5 z6 z7 z8 z9
    go_wp2_with fail
    go_ret
    exact ⟨by simp, HB4.out⟩
end Go.Proofs.YtihbmgpjihgodaaGreatDoor

namespace Go.Proofs.YtihbmgpjihgodaaGreatDoor
open Go Go.RowKit Go.Proofs

theorem tabIs_of_reads {P : Program} {W : World} {name : String} {k : IntKind} {zs : List Int} {g : Nat} {t e : TypeId} {n : Nat}
    (hg : P.globalNamed name = some g) (hty : (P.globals[g]?).map (·.type) = some t) (ht : P.underlying t = some (.array n e)) (he : P.underlying e = some (.int k)) (hce : P.cellsOf e = 1) (hct : P.cellsOf t = n)
    (h : Lib.VarReads P W name (Lib.tabData k zs)) : Lib.TabIs P W name k zs := by
  obtain ⟨g', t', cs, fuel, p, hg', ht', hvar, hd⟩ := h
  obtain rfl := Option.some.inj (hg.symm.trans hg')
  obtain rfl := Option.some.inj (hty.symm.trans ht')
  unfold Lib.TabIs
  rw [hvar, ← Lib.cells_of_tab ht he hce hct hd]

theorem pow_of_laid {w : World} {d : DataW Unit} (hd : d = Lib.tabData .u64 Lib.pow10Tab) (h : Lib.VarReads Tryz.prog w "internal/strconv.uint64pow10" d) : Lib.TabIs Tryz.prog w "internal/strconv.uint64pow10" .u64 Lib.pow10Tab := by
  subst hd
  exact tabIs_of_reads (g := 1) (t := 99) (e := 84) (n := 20) (by kernel_rfl) (by kernel_rfl) (by kernel_rfl) (by kernel_rfl) (by kernel_rfl) (by kernel_rfl) h
end Go.Proofs.YtihbmgpjihgodaaGreatDoor

namespace Go.Proofs.YtihbmgpjihgodaaGreatDoor
open Go Go.RowKit Go.Proofs

def bruTab : List Int := [0, 1, 56, 2, 57, 49, 28, 3, 61, 58, 42, 50, 38, 29, 17, 4, 62, 47, 59, 36, 45, 43, 51, 22, 53, 39, 33, 30, 24, 18, 12, 5, 63, 55, 48, 27, 60, 41, 37, 16, 46, 35, 44, 21, 52, 32, 23, 11, 54, 26, 40, 15, 34, 20, 31, 10, 25, 14, 19, 9, 13, 8, 7, 6]
theorem bru_of_laid {w : World} {d : DataW Unit} (hd : d = Lib.tabData .u8 bruTab) (h : Lib.VarReads Tryz.prog w "math/bits.deBruijn64tab" d) : Bru w := by
  subst hd
  have ht := tabIs_of_reads (g := 3) (t := 117) (e := 5) (n := 64) (by kernel_rfl) (by kernel_rfl) (by kernel_rfl) (by kernel_rfl) (by kernel_rfl) (by kernel_rfl) h
  exact ht.cell (g := 3) (by kernel_rfl) 15 (by decide)
end Go.Proofs.YtihbmgpjihgodaaGreatDoor
