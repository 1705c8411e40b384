/- What is said of a place: printer.place and the document's. A set's text: printer.set, over a strings.Builder of its own. -/
import Derived.Test.YtihbmgpjihgodaaGreatDoorQPrintSpec
import Derived.Test.YtihbmgpjihgodaaGreatDoorProg
import Derived.WalkKit
import Derived.Lib.Hide
import Derived.WalkSpells
import Derived.WalkLawsBesides
import Derived.LoopTactic
import Derived.Test.YtihbmgpjihgodaaGreatDoorQPrintAid
import Derived.Shelf.Strings.BuilderK
import Derived.Lib.OthersKept
namespace Go.Proofs.YtihbmgpjihgodaaGreatDoor
open Go Go.RowKit Go.Proofs

set_option maxHeartbeats 2000000 in
theorem printer_place (a : Int) (w : World) : Calls Tryz.prog 20 #[.int .i64 a] w fun e w' => e = .returned (.string ⟨(placeTx a).toArray⟩) ∧ w' = w := by
  by_cases h1 : a = 1
  · subst h1; go_enter Tryz.func20, Tryz.ntmps20; go_wp2_with fail; go_ret; exact ⟨rfl, rfl⟩
  by_cases h2 : a = 2
  · subst h2; go_enter Tryz.func20, Tryz.ntmps20; go_wp2_with fail; go_ret; exact ⟨rfl, rfl⟩
  by_cases h3 : a = 4
  · subst h3; go_enter Tryz.func20, Tryz.ntmps20; go_wp2_with fail; go_ret; exact ⟨rfl, rfl⟩
  by_cases h4 : a = 8
  · subst h4; go_enter Tryz.func20, Tryz.ntmps20; go_wp2_with fail; go_ret; exact ⟨rfl, rfl⟩
  by_cases h5 : a = 16
  · subst h5; go_enter Tryz.func20, Tryz.ntmps20; go_wp2_with fail; go_ret; exact ⟨rfl, rfl⟩
  have HP := Lib.hid (show placeTx a = [92, 66] by unfold placeTx; rw [if_neg h1, if_neg h2, if_neg h3, if_neg h4, if_neg h5])
  have e1 : (a == 1) = false := by simpa using h1
  have e2 : (a == 2) = false := by simpa using h2
  have e3 : (a == 4) = false := by simpa using h3
  have e4 : (a == 8) = false := by simpa using h4
  have e5 : (a == 16) = false := by simpa using h5
  clear h1 h2 h3 h4 h5
  go_enter Tryz.func20, Tryz.ntmps20
  go_wp2_with fail
  go_ret
  exact ⟨by rw [HP.out]; rfl, rfl⟩
end Go.Proofs.YtihbmgpjihgodaaGreatDoor

namespace Go.Proofs.YtihbmgpjihgodaaGreatDoor
open Go Go.RowKit Go.Proofs Go.Shelf

theorem bytes_cells (l : List UInt8) : Lib.strCells ⟨l.toArray⟩ = Lib.byteCells l := rfl
theorem sb_write (B b : Nat) (l m : List UInt8) (w : World) (h : Lib.IsBuilderF 58 5 B b (Lib.byteCells l) w) (hlen : l.length + m.length ≤ 140737488355328) (hBw : B ≤ w.heap.size) :
    Calls Tryz.prog 42 #[.pointer (some ⟨b, 0, none⟩), .string ⟨m.toArray⟩] w fun e w' => e = .returned (.tuple #[.int .i64 m.length, .nilIface]) ∧ (Lib.IsBuilderF 58 5 B b (Lib.byteCells (l ++ m)) w' ∧ Below B w w' ∧ Lib.OthersKept 5 (some b) w w') := by
  refine (Any.Builder_WriteString_k (ρ := Tryz.lays156_ren) { Tryz.lays156 with } Tryz.Builder_Extra_156 B b (Lib.byteCells l) ⟨m.toArray⟩ w h (by rw [Lib.byteCells_length]; exact hlen) hBw).mono ?_
  rintro e w' ⟨rfl, h1, h2, h3⟩
  refine ⟨rfl, .inr ?_, h2, h3⟩
  have : Lib.byteCells (l ++ m) = Lib.byteCells l ++ Lib.strCells ⟨m.toArray⟩ := by rw [bytes_cells]; simp [Lib.byteCells]
  rw [this]; exact h1
theorem builder_kept {T e : TypeId} {B b : Nat} {p : Value} {bs : List Value} {w w' : World} (h : Lib.BuilderAtF T e B b p bs w) (hg : Below w.heap.size w w') : Lib.BuilderAtF T e B b p bs w' := by
  have hlt := h.lt
  obtain ⟨hB, v, hb, hown, hne⟩ := h
  exact ⟨hB, v, (hg.block b hlt).trans hb, hown.kept (grownBy_below hg none) (by cases v.ownBlock <;> simp), hne⟩
theorem isBuilder_kept {T e : TypeId} {B b : Nat} {bs : List Value} {w w' : World} (h : Lib.IsBuilderF T e B b bs w) (hg : Below w.heap.size w w') : Lib.IsBuilderF T e B b bs w' :=
  h.elim (fun x => .inl (builder_kept x hg)) (fun x => .inr (builder_kept x hg))
theorem isBuilder_lt {T e : TypeId} {B b : Nat} {bs : List Value} {w : World} (h : Lib.IsBuilderF T e B b bs w) : b < w.heap.size := h.elim (fun x => x.lt) (fun x => x.lt)
theorem isBuilder_new (w : World) (T e : TypeId) : Lib.IsBuilderF T e w.heap.size w.heap.size [] (w.alloc (.cells #[.pointer none, .slice none 0 0] T)) :=
  .inl ⟨Nat.le_refl _, _, by show (w.heap.push _)[w.heap.size]? = _; simp, World.ownsRowF_nil _ _ _ _, by simp [Value.ownBlock]⟩
theorem Blk.others {w w' : World} {X b : Nat} {cs : List Value} {t e : TypeId} (h : Blk w X cs t) (ho : Lib.OthersKept e (some b) w w') (hne : X ≠ b) (hte : t ≠ e) : Blk w' X cs t :=
  ho X _ h (fun e => hne (Option.some.inj e)) (fun c fz e => by cases e; exact hte rfl)

set_option maxRecDepth 100000 in
set_option maxHeartbeats 4000000 in
theorem printer_set (rs : List (Int × Int)) (sa : Option Addr) (sn sc B : Nat) (w : World) (h : RangesV w B rs sa sn sc) (hB : B ≤ w.heap.size) (hf : SetFine rs) (hN : rs.length ≤ 1000000) (hT : Bru w) :
    Calls Tryz.prog 19 #[.slice sa sn sc] w fun e w' => e = .returned (.string ⟨(setTx rs).toArray⟩) ∧ Below w.heap.size w w' := by
  obtain ⟨rfl, h2, h3⟩ := h
  have H3 := Lib.hid h3; have HF := Lib.hid hf; have HT := Lib.hid hT
  have HNW := Lib.hid (isBuilder_new w 58 5)
  clear h3 hf hT
  go_enter Tryz.func19, Tryz.ntmps19
  go_wp2_with fail
  go_loopw [8] (fun iv wr => ∃ (k : Nat) (l : List UInt8), k ≤ rs.length ∧ iv = .int .i64 k ∧ l = (rs.take k).flatMap rangeTx ∧ l.length ≤ 25 * k ∧ Lib.IsBuilderF 58 5 w.heap.size w.heap.size (Lib.byteCells l) wr ∧ Below w.heap.size w wr) (fun iv _ => rs.length - (intOf iv).toNat)
  case atStart => exact ⟨0, [], Nat.zero_le _, rfl, rfl, by decide, HNW.out, (Below.refl _ _).alloc (Nat.le_refl _) _⟩
  case round =>
    obtain ⟨k, l, hk, rfl, hl, hz, hbu, hb⟩ := hrel
    have HL := Lib.hid hl; have HB := Lib.hid hb; have HBU := Lib.hid hbu
    clear hl hb hbu
    by_cases hlt : k < rs.length
    · obtain ⟨b, o, rfl, hb, hr⟩ : ∃ b o, sa = some ⟨b, o, none⟩ ∧ b < B ∧ RangesAt w rs b o := by
        rcases H3.out with h0 | h0
        · omega
        · exact h0
      obtain ⟨g1, g2⟩ := (hr.below HB.out (by omega)).get k hlt
      have hfk := HF.out rs[k] (List.getElem_mem hlt)
      have HT1 := Lib.hid (rangesTx_take k hlt)
      have hlen := rangeTx_len hfk
      obtain ⟨lo, hlo⟩ : ∃ lo, rs[k].1 = lo := ⟨_, rfl⟩
      obtain ⟨hi, hhi⟩ : ∃ hi, rs[k].2 = hi := ⟨_, rfl⟩
      have HR := Lib.hid (show rangeTx rs[k] = codeTx lo ++ if lo < hi then [45] ++ codeTx hi else [] by rw [← hlo, ← hhi]; rfl)
      rw [hlo] at g1 hfk; rw [hhi] at g2 hfk
      obtain ⟨f1, f2, f3⟩ := hfk
      have hblt := cell_lt16 g1
      have g1a := cell_lift (Below.alloc (Below.refl wr.heap.size wr) (Nat.le_refl _) (.cells #[.int .i32 0, .int .i32 0] 60)) hblt g1
      have g2a := cell_lift (Below.alloc (Below.refl wr.heap.size wr) (Nat.le_refl _) (.cells #[.int .i32 0, .int .i32 0] 60)) hblt g2
      have hcl := codeTx_len lo (by omega)
      have hch := codeTx_len hi (by omega)
      have hx := Lib.hid (Blk.new wr [.int .i32 lo, .int .i32 hi] 60)
      have hne : w.heap.size < wr.heap.size := isBuilder_lt HBU.out
      clear hlo hhi hr hlen
      go_wp2_with fail
      refine (printer_code lo _ f1 (by omega) (HT.out.below (HB.out.alloc HB.out.size _) HT.out.lt)).mono ?_
      rintro e w1 ⟨rfl, hB1⟩
      have HB1 := Lib.hid ((HB.out.alloc HB.out.size _).trans (hB1.mono (by simp; omega)))
      have HX1 := Lib.hid (hx.out.below hB1 (by simp))
      have HBU1 := Lib.hid (isBuilder_kept (HBU.out.alloc _) hB1)
      clear hB1 g1 g2 g1a g2a
      go_wp2_with fail
      refine (sb_write w.heap.size w.heap.size l (codeTx lo) w1 HBU1.out (by omega) HB1.out.size).mono ?_
      rintro e w2 ⟨rfl, hbu2, hb2, ho2⟩
      have HB2 := Lib.hid (HB1.out.trans hb2)
      have HX2 := Lib.hid (HX1.out.others ho2 (by omega) (by decide))
      have HBU2 := Lib.hid hbu2
      have x0 := HX2.out.cell (j := 0) rfl; have x1 := HX2.out.cell (j := 1) rfl
      clear hbu2 hb2 ho2
      by_cases hlh : lo < hi
      · have HL2 := Lib.hid hlh
        go_wp2_with fail
        refine (printer_code hi _ (by omega) (by omega) (HT.out.below HB2.out HT.out.lt)).mono ?_
        rintro e w3 ⟨rfl, hB3⟩
        have HB3 := Lib.hid (HB2.out.trans (hB3.mono HB2.out.size))
        have HBU3 := Lib.hid (isBuilder_kept HBU2.out hB3)
        have hsz : (⟨(codeTx hi).toArray⟩ : ByteArray).size ≤ 12 := hch
        generalize hA : (⟨(codeTx hi).toArray⟩ : ByteArray) = A at hsz ⊢
        have HA := Lib.hid hA
        clear hB3 x0 x1 hA
        go_wp2_with fail
        rw [show (⟨#[45]⟩ : ByteArray) ++ A = ⟨([45] ++ codeTx hi).toArray⟩ by rw [← HA.out, show (⟨#[45]⟩ : ByteArray) = ⟨[45].toArray⟩ from rfl, ba_app]]
        refine (sb_write w.heap.size w.heap.size (l ++ codeTx lo) ([45] ++ codeTx hi) w3 HBU3.out (by simp; omega) HB3.out.size).mono ?_
        rintro e w4 ⟨rfl, hbu4, hb4, ho4⟩
        have HB4 := Lib.hid (HB3.out.trans hb4)
        have HBU4 := Lib.hid hbu4
        clear hbu4 hb4 ho4
        go_wp2_with fail
        go_roundw
        case rel =>
          refine ⟨k + 1, l ++ codeTx lo ++ ([45] ++ codeTx hi), hlt, by go_num, ?_, ?_, HBU4.out, HB4.out⟩
          · rw [HT1.out, HR.out, if_pos HL2.out, HL.out, List.append_assoc]
          · simp; omega
        case measure => simp [intOf]; omega
      · have HL2 := Lib.hid hlh
        go_wp2_with fail
        go_roundw
        case rel =>
          refine ⟨k + 1, l ++ codeTx lo, hlt, by go_num, ?_, ?_, HBU2.out, HB2.out⟩
          · rw [HT1.out, HR.out, if_neg (by have := HL2.out; omega), HL.out, List.append_nil]
          · simp; omega
        case measure => simp [intOf]; omega
    · have hke : k = rs.length := by omega
      have HK := Lib.hid hke
      clear hke
      go_wp2_with fail
      refine (Tryz.Builder_String_any_k w.heap.size w.heap.size l wr HBU.out HB.out.size).mono ?_
      rintro e w1 ⟨rfl, hbu1, hb1, ho1⟩
      have HB1 := Lib.hid (HB.out.trans hb1)
      clear hbu1 hb1 ho1
      go_wp2_with fail
      refine (joined_new [[91], l, [93]] 9 w1 (by simp) (by simp; omega)).mono ?_
      rintro e w2 ⟨rfl, hB2⟩
      have HB2 := Lib.hid (HB1.out.trans (hB2.mono HB1.out.size))
      clear hB2
      go_wp2_with fail
      go_ret
      refine ⟨?_, HB2.out⟩
      rw [setTx_eq, HL.out, HK.out, List.take_length]
      simp
end Go.Proofs.YtihbmgpjihgodaaGreatDoor
