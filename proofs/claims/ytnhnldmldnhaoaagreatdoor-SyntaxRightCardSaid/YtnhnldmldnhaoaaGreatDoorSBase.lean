/- Plain data of the program and how they lie in memory: ranges, trees, slices of structs. -/
import Derived.Below
import Derived.OneCell
import Derived.Deep.Draws
import Derived.Lib.ConvBytes
namespace Go.Proofs.YtnhnldmldnhaoaaGreatDoor
open Go Go.RowKit
theorem cell_lift {B:Nat} {w w':World} (h:Below B w w') {b o:Nat} (hb:b < B) {v:Value} (hc:w.cell? ⟨b,o,none⟩=some v):w'.cell? ⟨b,o,none⟩=some v:=by
  rw [h.cell (p:=⟨b,o,none⟩) hb];exact hc
def RowAt (w:World) (b o:Nat) (cs:List Value):Prop:=∀ j,j < cs.length→w.cell? ⟨b,o+j,none⟩=cs[j]?
theorem RowAt.below {B:Nat} {w w':World} {b o:Nat} {cs:List Value} (h:RowAt w b o cs) (hb:Below B w w') (hlt:b < B):RowAt w' b o cs:=by
  intro j hj
  rw [hb.cell (p:=⟨b,o+j,none⟩) hlt];exact h j hj
theorem RowAt.ten {w:World} {b o:Nat} {c0 c1 c2 c3 c4 c5 c6 c7 c8 c9:Value} (h:RowAt w b o [c0,c1,c2,c3,c4,c5,c6,c7,c8,c9]) :
    w.cell? ⟨b,o,none⟩=some c0∧w.cell? ⟨b,o+1,none⟩=some c1∧w.cell? ⟨b,o+2,none⟩=some c2∧w.cell? ⟨b,o+3,none⟩=some c3∧w.cell? ⟨b,o+4,none⟩=some c4∧
    w.cell? ⟨b,o+5,none⟩=some c5∧w.cell? ⟨b,o+6,none⟩=some c6∧w.cell? ⟨b,o+7,none⟩=some c7∧w.cell? ⟨b,o+8,none⟩=some c8∧w.cell? ⟨b,o+9,none⟩=some c9:=
  ⟨h 0 (by simp),h 1 (by simp),h 2 (by simp),h 3 (by simp),h 4 (by simp),h 5 (by simp),h 6 (by simp),h 7 (by simp),h 8 (by simp),h 9 (by simp)⟩
inductive T where
  | mk (op:Int) (kids:List T) (rune:Int) (set:List (Int × Int)) (pl cap:Int) (name:ByteArray) (mn mx:Int) (lz:Bool)
namespace T
def op:T→Int | mk a _ _ _ _ _ _ _ _ _=>a
def kids:T→List T | mk _ a _ _ _ _ _ _ _ _=>a
def rune:T→Int | mk _ _ a _ _ _ _ _ _ _=>a
def set:T→List (Int × Int) | mk _ _ _ a _ _ _ _ _ _=>a
def pl:T→Int | mk _ _ _ _ a _ _ _ _ _=>a
def cap:T→Int | mk _ _ _ _ _ a _ _ _ _=>a
def name:T→ByteArray | mk _ _ _ _ _ _ a _ _ _=>a
def mn:T→Int | mk _ _ _ _ _ _ _ a _ _=>a
def mx:T→Int | mk _ _ _ _ _ _ _ _ a _=>a
def lz:T→Bool | mk _ _ _ _ _ _ _ _ _ a=>a
theorem ind {P:T→Prop} (h:∀ op kids rune set pl cap name mn mx lz,(∀ k ∈ kids,P k)→P (.mk op kids rune set pl cap name mn mx lz)):∀ t,P t
  | .mk op kids rune set pl cap name mn mx lz=>h _ _ _ _ _ _ _ _ _ _ (fun k _=>T.ind h k)
end T
def RangesAt (w:World):List (Int × Int)→Nat→Nat→Prop
  | [],_,_=>True
  | (l,h) :: rs,b,o=>w.cell? ⟨b,o,none⟩=some (.int .i32 l)∧w.cell? ⟨b,o+1,none⟩=some (.int .i32 h)∧RangesAt w rs b (o+2)
def RangesV (w:World) (B:Nat) (rs:List (Int × Int)) (a:Option Addr) (n c:Nat):Prop:=
  n=rs.length∧(n≤c∧n≤140737488351232)∧(n=0∨∃ b o,a=some ⟨b,o,none⟩∧b < B∧RangesAt w rs b o)
theorem RangesAt.below {B:Nat} {w w':World} (hb:Below B w w') {b:Nat} (hlt:b < B):∀ {rs:List (Int × Int)} {o:Nat},RangesAt w rs b o→RangesAt w' rs b o
  | [],_,_=>trivial
  | (_,_) :: _,_,h=>⟨cell_lift hb hlt h.1,cell_lift hb hlt h.2.1,RangesAt.below hb hlt h.2.2⟩
theorem RangesV.below {B:Nat} {w w':World} {rs:List (Int × Int)} {a:Option Addr} {n c:Nat} (h:RangesV w B rs a n c) (hb:Below B w w'):RangesV w' B rs a n c:=by
  obtain ⟨h1,h2,h3⟩:=h
  refine ⟨h1,h2,?_⟩
  rcases h3 with h3 | ⟨b,o,ha,hlt,hr⟩
  · exact .inl h3
  · exact .inr ⟨b,o,ha,hlt,hr.below hb hlt⟩
theorem RangesAt.get {w:World} {b:Nat}:∀ {rs:List (Int × Int)} {o:Nat},RangesAt w rs b o→∀ k (hk:k < rs.length),w.cell? ⟨b,o+k * 2,none⟩=some (.int .i32 rs[k].1)∧w.cell? ⟨b,o+k * 2+1,none⟩=some (.int .i32 rs[k].2)
  | [],_,_,k,hk=>absurd hk (Nat.not_lt_zero _)
  | (_,_) :: _,_,h,0,_=>⟨h.1,h.2.1⟩
  | (_,_) :: rs,o,h,k+1,hk=>by
    have:=RangesAt.get h.2.2 k (by simpa using hk)
    have e1:o+2+k * 2=o+(k+1) * 2:=by omega
    rw [e1] at this
    simpa using this
mutual
def TreeV (w:World) (B:Nat):T→List Value→Prop
  | .mk op kids rune set pl cap name mn mx lz,cs=>∃ (ka:Option Addr) (kn kc:Nat) (sa:Option Addr) (sn sc:Nat),
      cs=[.int .i64 op,.slice ka kn kc,.int .i32 rune,.slice sa sn sc,.int .i64 pl,.int .i64 cap,.string name,.int .i64 mn,.int .i64 mx,.bool lz]∧
      kn=kids.length∧(kn≤kc∧kn≤140737488351232)∧(kn=0∨∃ b o,ka=some ⟨b,o,none⟩∧b < B∧KidsAt w B kids b o)∧RangesV w B set sa sn sc
def KidsAt (w:World) (B:Nat):List T→Nat→Nat→Prop
  | [],_,_=>True
  | t :: ts,b,o=>(∃ cs,TreeV w B t cs∧RowAt w b o cs)∧KidsAt w B ts b (o+10)
end
def KidsV (w:World) (B:Nat) (kids:List T) (a:Option Addr) (n c:Nat):Prop:=
  n=kids.length∧(n≤c∧n≤140737488351232)∧(n=0∨∃ b o,a=some ⟨b,o,none⟩∧b < B∧KidsAt w B kids b o)
theorem TreeV.open {w:World} {B:Nat} {op:Int} {kids:List T} {rune:Int} {set:List (Int × Int)} {pl cap:Int} {name:ByteArray} {mn mx:Int} {lz:Bool} {cs:List Value}
    (h:TreeV w B (.mk op kids rune set pl cap name mn mx lz) cs):∃ (ka:Option Addr) (kn kc:Nat) (sa:Option Addr) (sn sc:Nat),
      cs=[.int .i64 op,.slice ka kn kc,.int .i32 rune,.slice sa sn sc,.int .i64 pl,.int .i64 cap,.string name,.int .i64 mn,.int .i64 mx,.bool lz]∧
      KidsV w B kids ka kn kc∧RangesV w B set sa sn sc:=by
  unfold TreeV at h
  obtain ⟨ka,kn,kc,sa,sn,sc,h1,h2,h3,h4,h5⟩:=h
  exact ⟨ka,kn,kc,sa,sn,sc,h1,⟨h2,h3,h4⟩,h5⟩
theorem TreeV.mk {w:World} {B:Nat} {op:Int} {kids:List T} {rune:Int} {set:List (Int × Int)} {pl cap:Int} {name:ByteArray} {mn mx:Int} {lz:Bool}
    {ka:Option Addr} {kn kc:Nat} {sa:Option Addr} {sn sc:Nat} (h1:KidsV w B kids ka kn kc) (h2:RangesV w B set sa sn sc) :
    TreeV w B (.mk op kids rune set pl cap name mn mx lz) [.int .i64 op,.slice ka kn kc,.int .i32 rune,.slice sa sn sc,.int .i64 pl,.int .i64 cap,.string name,.int .i64 mn,.int .i64 mx,.bool lz]:=by
  unfold TreeV
  exact ⟨ka,kn,kc,sa,sn,sc,rfl,h1.1,h1.2.1,h1.2.2,h2⟩
theorem TreeV.length {w:World} {B:Nat} {t:T} {cs:List Value} (h:TreeV w B t cs):cs.length=10:=by
  cases t
  obtain ⟨ka,kn,kc,sa,sn,sc,rfl,_⟩:=h.open
  rfl
theorem TreeV.form {w:World} {B:Nat} {t:T} {cs:List Value} (h:TreeV w B t cs):∃ (op:Int) (ka:Option Addr) (kn kc:Nat) (rune:Int) (sa:Option Addr) (sn sc:Nat) (pl cap:Int) (name:ByteArray) (mn mx:Int) (lz:Bool),
    cs=[.int .i64 op,.slice ka kn kc,.int .i32 rune,.slice sa sn sc,.int .i64 pl,.int .i64 cap,.string name,.int .i64 mn,.int .i64 mx,.bool lz]:=by
  cases t
  obtain ⟨ka,kn,kc,sa,sn,sc,rfl,_⟩:=h.open
  exact ⟨_,_,_,_,_,_,_,_,_,_,_,_,_,_,rfl⟩
theorem KidsAt.nil {w:World} {B b o:Nat}:KidsAt w B [] b o:=by unfold KidsAt;trivial
theorem KidsAt.cons {w:World} {B b o:Nat} {t:T} {ts:List T}:KidsAt w B (t :: ts) b o↔(∃ cs,TreeV w B t cs∧RowAt w b o cs)∧KidsAt w B ts b (o+10):=by
  constructor
  · intro h;unfold KidsAt at h;exact h
  · intro h;unfold KidsAt;exact h
theorem KidsAt.get {w:World} {B b:Nat}:∀ {ts:List T} {o:Nat},KidsAt w B ts b o→∀ k (hk:k < ts.length),∃ cs,TreeV w B ts[k] cs∧RowAt w b (o+k * 10) cs
  | [],_,_,k,hk=>absurd hk (Nat.not_lt_zero _)
  | t :: ts,o,h,0,_=>by simpa using (KidsAt.cons.1 h).1
  | t :: ts,o,h,k+1,hk=>by
    obtain ⟨cs,h1,h2⟩:=KidsAt.get (KidsAt.cons.1 h).2 k (by simpa using hk)
    refine ⟨cs,by simpa using h1,?_⟩
    have e1:o+10+k * 10=o+(k+1) * 10:=by omega
    rw [e1] at h2;exact h2
theorem KidsAt.of {w:World} {B b:Nat}:∀ {ts:List T} {o:Nat},(∀ k (hk:k < ts.length),∃ cs,TreeV w B ts[k] cs∧RowAt w b (o+k * 10) cs)→KidsAt w B ts b o
  | [],_,_=>KidsAt.nil
  | t :: ts,o,h=>KidsAt.cons.2 ⟨(by have h0:=h 0 (by simp);simp only [List.getElem_cons_zero,Nat.zero_mul,Nat.add_zero] at h0;exact h0),KidsAt.of fun k hk=>by
      obtain ⟨cs,h1,h2⟩:=h (k+1) (by simpa using hk)
      refine ⟨cs,by simpa using h1,?_⟩
      have e1:o+(k+1) * 10=o+10+k * 10:=by omega
      rw [e1] at h2;exact h2⟩
theorem TreeV.below {B:Nat} {w w':World} (hb:Below B w w') (t:T):∀ {cs:List Value},TreeV w B t cs→TreeV w' B t cs:=by
  induction t using T.ind with
  | h op kids rune set pl cap name mn mx lz ih=>
    intro cs h
    obtain ⟨ka,kn,kc,sa,sn,sc,rfl,⟨h1,h2,h3⟩,h4⟩:=h.open
    refine TreeV.mk ⟨h1,h2,?_⟩ (h4.below hb)
    rcases h3 with h3 | ⟨b,o,ha,hlt,hk⟩
    · exact .inl h3
    · refine .inr ⟨b,o,ha,hlt,KidsAt.of fun k hk'=>?_⟩
      obtain ⟨cs,hc,hr⟩:=hk.get k hk'
      exact ⟨cs,ih _ (List.getElem_mem hk') hc,hr.below hb hlt⟩
theorem KidsAt.below {B:Nat} {w w':World} (hb:Below B w w') {ts:List T} {b o:Nat} (hlt:b < B) (h:KidsAt w B ts b o):KidsAt w' B ts b o:=
  KidsAt.of fun k hk=>by
    obtain ⟨cs,hc,hr⟩:=h.get k hk
    exact ⟨cs,hc.below hb,hr.below hb hlt⟩
theorem KidsV.below {B:Nat} {w w':World} {kids:List T} {a:Option Addr} {n c:Nat} (h:KidsV w B kids a n c) (hb:Below B w w'):KidsV w' B kids a n c:=by
  obtain ⟨h1,h2,h3⟩:=h
  refine ⟨h1,h2,?_⟩
  rcases h3 with h3 | ⟨b,o,ha,hlt,hr⟩
  · exact .inl h3
  · exact .inr ⟨b,o,ha,hlt,hr.below hb hlt⟩
theorem RangesV.mono {B B':Nat} {w:World} {rs:List (Int × Int)} {a:Option Addr} {n c:Nat} (h:RangesV w B rs a n c) (hB:B≤B'):RangesV w B' rs a n c:=by
  obtain ⟨h1,h2,h3⟩:=h
  exact ⟨h1,h2,h3.imp_right fun ⟨b,o,ha,hlt,hr⟩=>⟨b,o,ha,by omega,hr⟩⟩
theorem TreeV.mono {B B':Nat} {w:World} (hB:B≤B') (t:T):∀ {cs:List Value},TreeV w B t cs→TreeV w B' t cs:=by
  induction t using T.ind with
  | h op kids rune set pl cap name mn mx lz ih=>
    intro cs h
    obtain ⟨ka,kn,kc,sa,sn,sc,rfl,⟨h1,h2,h3⟩,h4⟩:=h.open
    refine TreeV.mk ⟨h1,h2,?_⟩ (h4.mono hB)
    rcases h3 with h3 | ⟨b,o,ha,hlt,hk⟩
    · exact .inl h3
    · refine .inr ⟨b,o,ha,by omega,KidsAt.of fun k hk'=>?_⟩
      obtain ⟨cs,hc,hr⟩:=hk.get k hk'
      exact ⟨cs,ih _ (List.getElem_mem hk') hc,hr⟩
end Go.Proofs.YtnhnldmldnhaoaaGreatDoor
namespace Go.Proofs.YtnhnldmldnhaoaaGreatDoor
open Go Go.RowKit
def Blk (w:World) (b:Nat) (cs:List Value) (t:TypeId):Prop:=w.heap[b]? = some (.cells cs.toArray t (0,0))
theorem Blk.lt {w:World} {b:Nat} {cs:List Value} {t:TypeId} (h:Blk w b cs t):b < w.heap.size:=by
  unfold Blk at h
  rcases Nat.lt_or_ge b w.heap.size with h' | h'
  · exact h'
  · rw [Array.getElem?_eq_none h'] at h;cases h
theorem Blk.cell {w:World} {b:Nat} {cs:List Value} {t:TypeId} (h:Blk w b cs t) {j:Nat} {v:Value} (hj:cs[j]? = some v):w.cell? ⟨b,j,none⟩=some v:=by
  unfold Blk at h
  simp [World.cell?,h,hj]
theorem Blk.frozen {w:World} {b:Nat} {cs:List Value} {t:TypeId} (h:Blk w b cs t) (j:Nat):w.frozen? ⟨b,j,none⟩=false:=by
  unfold Blk at h
  simp [World.frozen?,h]
theorem Blk.of_block {w w':World} {b:Nat} {cs:List Value} {t:TypeId} (h:Blk w b cs t) (he:w'.heap[b]? = w.heap[b]?):Blk w' b cs t:=by
  unfold Blk at h ⊢;rw [he];exact h
theorem Blk.below {B:Nat} {w w':World} {b:Nat} {cs:List Value} {t:TypeId} (h:Blk w b cs t) (hb:Below B w w') (hlt:b < B):Blk w' b cs t:=
  h.of_block (hb.block b hlt)
theorem Blk.grown {w w':World} {b:Nat} {cs:List Value} {t:TypeId} {row:Option Nat} (h:Blk w b cs t) (hg:w.grownBy w' row) (hne:some b≠row):Blk w' b cs t:=
  h.of_block (hg.block b h.lt hne)
theorem Blk.new (w:World) (cs:List Value) (t:TypeId):Blk (w.alloc (.cells cs.toArray t)) w.heap.size cs t:=by
  unfold Blk
  show (w.heap.push _)[w.heap.size]? = _
  simp
theorem Blk.alloc {w:World} {b:Nat} {cs:List Value} {t:TypeId} (h:Blk w b cs t) (o:Obj):Blk (w.alloc o) b cs t:=
  h.of_block (Below.heap_alloc w o b h.lt)
theorem Blk.drew {w:World} {b:Nat} {cs:List Value} {t:TypeId} (h:Blk w b cs t):Blk w.drew b cs t:=h
theorem Blk.set {w:World} {b:Nat} {cs:List Value} {t:TypeId} (h:Blk w b cs t) (j:Nat) (v:Value):Blk (w.setCell ⟨b,j,none⟩ v) b (cs.set j v) t:=by
  unfold Blk at h ⊢
  simp [World.setCell,Array.getElem?_modify,h]
theorem Blk.setCell_other {w:World} {b:Nat} {cs:List Value} {t:TypeId} (h:Blk w b cs t) {a:Addr} (hne:b≠a.block) (v:Value):Blk (w.setCell a v) b cs t:=
  h.of_block (Below.heap_setCell w a v b hne)
theorem grownBy_refl (w:World) (row:Option Nat):w.grownBy w row:=⟨rfl,rfl,rfl,Nat.le_refl _,fun _ _ _=>rfl⟩
theorem grownBy_trans {a b c:World} {row:Option Nat} (h:a.grownBy b row) (k:b.grownBy c row):a.grownBy c row:=
  ⟨k.os.trans h.os,k.tape.trans h.tape,k.output.trans h.output,Nat.le_trans h.size k.size,fun i hi hne=>(k.block i (Nat.lt_of_lt_of_le hi h.size) hne).trans (h.block i hi hne)⟩
theorem grownBy_below {a b:World} (h:Below a.heap.size a b) (row:Option Nat):a.grownBy b row:=⟨h.os,h.tape,h.output,h.size,fun k hk _=>h.block k hk⟩
theorem below_grownBy {a b:World} (h:a.grownBy b none):Below a.heap.size a b:=⟨h.os,h.tape,h.output,h.size,fun k hk=>h.block k hk (by simp)⟩
theorem grownBy_alloc (w:World) (o:Obj) (row:Option Nat):w.grownBy (w.alloc o) row:=grownBy_below ((Below.refl _ _).alloc (Nat.le_refl _) _) row
theorem grownBy_drew (w:World) (row:Option Nat):w.grownBy w.drew row:=⟨rfl,rfl,rfl,Nat.le_refl _,fun _ _ _=>rfl⟩
theorem grownBy_setCell (w:World) (b j:Nat) (v:Value):w.grownBy (w.setCell ⟨b,j,none⟩ v) (some b):=
  ⟨rfl,rfl,rfl,by simp [World.setCell],fun k _ hne=>Below.heap_setCell w ⟨b,j,none⟩ v k (fun e=>hne (by rw [e]))⟩
theorem below_of_grownBy {B:Nat} {a b:World} {row:Option Nat} (h:a.grownBy b row) (hB:B≤a.heap.size) (hr:∀ k,row=some k→B≤k):Below B a b:=
  (Below.refl B a).grown h hB hr
theorem below_drewN {B:Nat} {a w:World} (h:Below B a w) (n:Nat):Below B a (w.drewN n):=⟨h.os,h.tape,h.output,h.size,h.block⟩
theorem Blk.drewN {w:World} {b:Nat} {cs:List Value} {t:TypeId} (h:Blk w b cs t) (n:Nat):Blk (w.drewN n) b cs t:=h
theorem grownBy_drewN (w:World) (n:Nat) (row:Option Nat):w.grownBy (w.drewN n) row:=⟨rfl,rfl,rfl,Nat.le_refl _,fun _ _ _=>rfl⟩
theorem conv_bytes {P:Program} (w:World) (src dst e:TypeId) (s:ByteArray) {u:TypeDesc} (hs:P.underlying src=some u) (hd:P.underlying dst=some (.slice e)) (he:P.underlying e=some (.int .u8)) :
    ∃ (cap:Nat) (w2:World),(convert src dst (.string s)).run P w = .ok (.slice (some ⟨w.heap.size,0,none⟩) s.size cap) w2∧
      (∀ j,j < s.size→w2.cell? ⟨w.heap.size,j,none⟩=some (.int .u8 ((s.data.toList.getD j 0).toNat:Int)))∧Below w.heap.size w w2∧w2.heap.size=w.heap.size+1:=
  ⟨_,_,Lib.run_convert_string_bytes w src dst e s hs hd he,fun j hj=>Lib.bytesWorld_cell w e s j hj,
    ⟨by simp [Lib.bytesWorld,World.freeze,World.alloc,World.drew,-World.alloc_eq,-World.drew_eq],by simp [Lib.bytesWorld,World.freeze,World.alloc,World.drew,-World.alloc_eq,-World.drew_eq],by simp [Lib.bytesWorld,World.freeze,World.alloc,World.drew,-World.alloc_eq,-World.drew_eq],by rw [Lib.bytesWorld_size];omega,fun k hk=>Lib.bytesWorld_at_old w e s k hk⟩,Lib.bytesWorld_size w e s⟩
def World.set4 (w:World) (b:Nat) (v0 v1 v2 v3:Value):World:=(((w.setCell ⟨b,0,none⟩ v0).setCell ⟨b,1,none⟩ v1).setCell ⟨b,2,none⟩ v2).setCell ⟨b,3,none⟩ v3
theorem Blk.set4 {w:World} {b:Nat} {c0 c1 c2 c3:Value} {t:TypeId} (h:Blk w b [c0,c1,c2,c3] t) (v0 v1 v2 v3:Value):Blk (World.set4 w b v0 v1 v2 v3) b [v0,v1,v2,v3] t:=
  (((h.set 0 v0).set 1 v1).set 2 v2).set 3 v3
theorem Blk.set4_other {w:World} {b b':Nat} {cs:List Value} {t:TypeId} (h:Blk w b' cs t) (hne:b'≠b) (v0 v1 v2 v3:Value):Blk (World.set4 w b v0 v1 v2 v3) b' cs t:=
  (((h.setCell_other (a:=⟨b,0,none⟩) hne v0).setCell_other (a:=⟨b,1,none⟩) hne v1).setCell_other (a:=⟨b,2,none⟩) hne v2).setCell_other (a:=⟨b,3,none⟩) hne v3
theorem grownBy_set4 (w:World) (b:Nat) (v0 v1 v2 v3:Value):w.grownBy (World.set4 w b v0 v1 v2 v3) (some b):=
  grownBy_trans (grownBy_trans (grownBy_trans (grownBy_setCell w b 0 v0) (grownBy_setCell _ b 1 v1)) (grownBy_setCell _ b 2 v2)) (grownBy_setCell _ b 3 v3)
theorem ne_some {a b:Nat} (h:a≠b):some a≠some b:=fun e=>h (Option.some.inj e)
theorem below_then {a b c:World} (h:Below a.heap.size a b) (k:Below b.heap.size b c):Below a.heap.size a c:=h.trans (k.mono h.size)
theorem below_local {w w':World} {o:Obj} (h:(w.alloc o).grownBy w' (some w.heap.size)):Below w.heap.size w w':=
  ((Below.refl _ w).alloc (Nat.le_refl _) o).trans (below_of_grownBy h (by simp) (fun k e=>by cases e;exact Nat.le_refl _))
theorem below_next {B:Nat} {w a b:World} {row:Option Nat} (h:Below B w a) (hB:B≤w.heap.size) (g:a.grownBy b row) (hr:∀ k,row=some k→B≤k):Below B w b:=
  h.trans (below_of_grownBy g (Nat.le_trans hB h.size) hr)
end Go.Proofs.YtnhnldmldnhaoaaGreatDoor
namespace Go.Proofs.YtnhnldmldnhaoaaGreatDoor
def setFrom (last:Int):List (Int × Int)→Bool
  | []=>true
  | (l,h) :: r=>decide (last+2≤l) && decide (l≤h) && decide (h≤1114111) && setFrom h r
def setRight (l:List (Int × Int)):Bool:=setFrom (-2) l
def memR (rs:List (Int × Int)) (c:Int):Bool:=rs.any fun r=>decide (r.1≤c) && decide (c≤r.2)
def lastH (l0:Int):List (Int × Int)→Int
  | []=>l0
  | (_,h) :: r=>lastH h r
theorem setFrom_snoc (x:Int × Int):∀ (a:List (Int × Int)) (l0:Int),setFrom l0 (a ++ [x])=(setFrom l0 a && (decide (lastH l0 a+2≤x.1) && decide (x.1≤x.2) && decide (x.2≤1114111)))
  | [],l0=>by
    obtain ⟨p,q⟩:=x
    simp only [List.nil_append,setFrom,lastH,Bool.and_true,Bool.true_and]
    rfl
  | (l,h) :: a,l0=>by
    have ih:=setFrom_snoc x a h
    obtain ⟨p,q⟩:=x
    simp only [List.cons_append,setFrom,lastH] at ih ⊢
    rw [ih]
    simp only [Bool.and_assoc]
    rfl
theorem lastH_snoc (x:Int × Int):∀ (a:List (Int × Int)) (l0:Int),lastH l0 (a ++ [x])=x.2
  | [],l0=>rfl
  | (_,h) :: a,l0=>by simp only [List.cons_append,lastH];exact lastH_snoc x a h
theorem memR_append (a b:List (Int × Int)) (c:Int):memR (a ++ b) c=(memR a c || memR b c):=by simp [memR]
theorem memR_one (x:Int × Int) (c:Int):memR [x] c=(decide (x.1≤c) && decide (c≤x.2)):=by simp [memR]
theorem memR_cons (x:Int × Int) (r:List (Int × Int)) (c:Int):memR (x :: r) c=((decide (x.1≤c) && decide (c≤x.2)) || memR r c):=by simp [memR]
theorem memR_bound:∀ {a:List (Int × Int)} {l0 c:Int},setFrom l0 a=true→memR a c=true→l0+2≤c∧c≤1114111
  | [],_,_,_,h=>by simp [memR] at h
  | (l,h) :: a,l0,c,hs,hm=>by
    simp only [setFrom,Bool.and_eq_true,decide_eq_true_eq] at hs
    rw [memR_cons,Bool.or_eq_true,Bool.and_eq_true,decide_eq_true_eq,decide_eq_true_eq] at hm
    rcases hm with hm | hm
    · have h1:=hm.1;have h2:=hm.2;dsimp only at h1 h2;omega
    · have:=memR_bound hs.2 hm;omega
theorem set_unique:∀ {a b:List (Int × Int)} {l0:Int},setFrom l0 a=true→setFrom l0 b=true→(∀ c,memR a c=memR b c)→a=b
  | [],[],_,_,_,_=>rfl
  | [],(l,h) :: b,l0,_,hb,hm=>by
    simp only [setFrom,Bool.and_eq_true,decide_eq_true_eq] at hb
    have h1:=hm l
    rw [memR_cons,decide_eq_true (show l≤l by omega),decide_eq_true (show l≤h by omega)] at h1
    simp [memR] at h1
  | (l,h) :: a,[],l0,ha,_,hm=>by
    simp only [setFrom,Bool.and_eq_true,decide_eq_true_eq] at ha
    have h1:=hm l
    rw [memR_cons,decide_eq_true (show l≤l by omega),decide_eq_true (show l≤h by omega)] at h1
    simp [memR] at h1
  | (l,h) :: a,(l',h') :: b,l0,ha,hb,hm=>by
    have ha0:=ha;have hb0:=hb
    simp only [setFrom,Bool.and_eq_true,decide_eq_true_eq] at ha hb
    have in1:∀ c,memR ((l,h) :: a) c=true↔(l≤c∧c≤h)∨memR a c=true:=fun c=>by rw [memR_cons];simp
    have in2:∀ c,memR ((l',h') :: b) c=true↔(l'≤c∧c≤h')∨memR b c=true:=fun c=>by rw [memR_cons];simp
    have q1:l'≤l:=by
      have:=(in2 l).1 (by rw [← hm];exact (in1 l).2 (.inl ⟨by omega,by omega⟩))
      rcases this with h1 | h1
      · exact h1.1
      · have:=memR_bound hb.2 h1;omega
    have q2:l≤l':=by
      have:=(in1 l').1 (by rw [hm];exact (in2 l').2 (.inl ⟨by omega,by omega⟩))
      rcases this with h1 | h1
      · exact h1.1
      · have:=memR_bound ha.2 h1;omega
    have e1:l=l':=by omega
    have q3:h'≤h:=by
      refine Int.not_lt.1 fun hlt=>?_
      have:=(in1 (h+1)).1 (by rw [hm];exact (in2 (h+1)).2 (.inl ⟨by omega,by omega⟩))
      rcases this with h1 | h1
      · omega
      · have:=memR_bound ha.2 h1;omega
    have q4:h≤h':=by
      refine Int.not_lt.1 fun hlt=>?_
      have:=(in2 (h'+1)).1 (by rw [← hm];exact (in1 (h'+1)).2 (.inl ⟨by omega,by omega⟩))
      rcases this with h1 | h1
      · omega
      · have:=memR_bound hb.2 h1;omega
    have e2:h=h':=by omega
    subst e1 e2
    have:=set_unique ha.2 hb.2 fun c=>by
      have h1:=hm c
      rw [memR_cons,memR_cons] at h1
      by_cases hc:l≤c∧c≤h
      · have n1:memR a c=false:=by
          cases hx:memR a c with
          | false=>rfl
          | true=>have:=memR_bound ha.2 hx;omega
        have n2:memR b c=false:=by
          cases hx:memR b c with
          | false=>rfl
          | true=>have:=memR_bound hb.2 hx;omega
        rw [n1,n2]
      · have:(decide (l≤c) && decide (c≤h))=false:=by
          rw [Bool.and_eq_false_iff,decide_eq_false_iff_not,decide_eq_false_iff_not];omega
        simpa [this] using h1
    rw [this]
/-! ### The edges -/
def edgesL:List (Int × Int)→List (Int × Int)
  | []=>[]
  | (l,h) :: rs=>(if max l 0≤min h 1114111 then [(max l 0,1),(min h 1114111+1,-1)] else []) ++ edgesL rs
def sumTo (c:Int):List (Int × Int)→Int
  | []=>0
  | (a,m) :: l=>(if a≤c then m else 0)+sumTo c l
def coverN (c:Int):List (Int × Int)→Int
  | []=>0
  | (l,h) :: rs=>(if l≤c∧c≤h then 1 else 0)+coverN c rs
theorem sumTo_append (c:Int) (a b:List (Int × Int)):sumTo c (a ++ b)=sumTo c a+sumTo c b:=by
  induction a with
  | nil=>simp [sumTo]
  | cons x a ih=>obtain ⟨p,q⟩:=x;simp only [List.cons_append,sumTo,ih];omega
theorem sumTo_perm (c:Int) {a b:List (Int × Int)} (h:a.Perm b):sumTo c a=sumTo c b:=by
  induction h with
  | nil=>rfl
  | cons x _ ih=>obtain ⟨p,q⟩:=x;simp only [sumTo,ih]
  | swap x y l=>obtain ⟨p,q⟩:=x;obtain ⟨p',q'⟩:=y;simp only [sumTo];omega
  | trans _ _ h1 h2=>exact h1.trans h2
theorem sumTo_edges {c:Int} (h0:0≤c) (h1:c≤1114111):∀ rs:List (Int × Int),sumTo c (edgesL rs)=coverN c rs
  | []=>rfl
  | (l,h) :: rs=>by
    simp only [edgesL,coverN]
    rw [sumTo_append,sumTo_edges h0 h1 rs]
    by_cases hx:max l 0≤min h 1114111
    · rw [if_pos hx]
      simp only [sumTo]
      by_cases hc:l≤c∧c≤h
      · rw [if_pos hc,if_pos (by omega),if_neg (by omega)];omega
      · rw [if_neg hc]
        by_cases hl:max l 0≤c
        · rw [if_pos hl,if_pos (by omega)];omega
        · rw [if_neg hl,if_neg (by omega)];omega
    · rw [if_neg hx]
      simp only [sumTo]
      rw [if_neg (by omega)]
theorem coverN_ge (c:Int):∀ rs:List (Int × Int),0≤coverN c rs
  | []=>Int.le_refl _
  | (l,h) :: rs=>by have:=coverN_ge c rs;simp only [coverN];split <;> omega
theorem coverN_iff (c:Int):∀ rs:List (Int × Int),0 < coverN c rs↔memR rs c=true
  | []=>by simp [coverN,memR]
  | (l,h) :: rs=>by
    have h1:=coverN_ge c rs
    have h2:=coverN_iff c rs
    rw [memR_cons,Bool.or_eq_true,Bool.and_eq_true,decide_eq_true_eq,decide_eq_true_eq,← h2]
    simp only [coverN]
    by_cases hc:l≤c∧c≤h
    · rw [if_pos hc];constructor
      · intro _;exact .inl hc
      · intro _;omega
    · rw [if_neg hc];constructor
      · intro h;exact .inr (by omega)
      · rintro (h | h)
        · exact absurd h hc
        · omega
theorem coverN_pos (c:Int) (rs:List (Int × Int)):decide (0 < coverN c rs)=memR rs c:=by
  rw [Bool.eq_iff_iff,decide_eq_true_eq];exact coverN_iff c rs
theorem coverN_zero (c:Int) (rs:List (Int × Int)):decide (coverN c rs=0) = !memR rs c:=by
  rw [← coverN_pos]
  have:=coverN_ge c rs
  by_cases h:coverN c rs=0
  · rw [decide_eq_true h,decide_eq_false (by omega)];rfl
  · rw [decide_eq_false h,decide_eq_true (by omega)];rfl
theorem edges_bound:∀ (rs:List (Int × Int)),∀ e ∈ edgesL rs,0≤e.1∧e.1≤1114112∧(e.2=1∨e.2 = -1)
  | [],e,he=>by simp [edgesL] at he
  | (l,h) :: rs,e,he=>by
    simp only [edgesL] at he
    rcases List.mem_append.1 he with h1 | h1
    · by_cases hx:max l 0≤min h 1114111
      · rw [if_pos hx] at h1
        simp only [List.mem_cons,List.not_mem_nil,or_false] at h1
        rcases h1 with rfl | rfl
        · exact ⟨by dsimp only;omega,by dsimp only;omega,.inl rfl⟩
        · exact ⟨by dsimp only;omega,by dsimp only;omega,.inr rfl⟩
      · rw [if_neg hx] at h1;simp at h1
    · exact edges_bound rs e h1
theorem edges_append (a b:List (Int × Int)):edgesL (a ++ b)=edgesL a ++ edgesL b:=by
  induction a with
  | nil=>rfl
  | cons x a ih=>obtain ⟨l,h⟩:=x;simp only [List.cons_append,edgesL,ih,List.append_assoc]
theorem edges_length:∀ (rs:List (Int × Int)),(edgesL rs).length≤2 * rs.length
  | []=>Nat.le_refl _
  | (l,h) :: rs=>by
    have:=edges_length rs
    simp only [edgesL,List.length_append,List.length_cons]
    split <;> simp <;> omega
/-! ### The stretches between them, and what is kept of them -/
def spansL (frm n:Int):List (Int × Int)→List ((Int × Int) × Int)
  | []=>if frm≤1114111 then [((frm,1114111),n)] else []
  | (a,m) :: l=>if frm < a then ((frm,a - 1),n) :: spansL a (n+m) l else spansL frm (n+m) l
def pushT (out:List (Int × Int)) (x:Int × Int):List (Int × Int):=
  match out.getLast? with
  | none=>out ++ [x]
  | some y=>if y.2+1=x.1 then out.dropLast ++ [(y.1,x.2)] else out ++ [x]
def stepT (is:Int→Bool) (out:List (Int × Int)) (x:(Int × Int) × Int):List (Int × Int):=if is x.2 then pushT out x.1 else out
def thoseL (is:Int→Bool) (sp:List ((Int × Int) × Int)):List (Int × Int):=sp.foldl (stepT is) []
theorem snoc_cases {α:Type} (l:List α):l=[]∨∃ b y,l=b ++ [y]:=by
  rcases List.eq_nil_or_concat l with h | ⟨b,y,h⟩
  · exact .inl h
  · exact .inr ⟨b,y,by rw [h];simp⟩
theorem pushT_right {out:List (Int × Int)} {x:Int × Int} (h:setRight out=true) (h0:0≤x.1) (h1:x.1≤x.2) (h2:x.2≤1114111) (hl:lastH (-2) out < x.1) :
    setRight (pushT out x)=true∧(∀ c,memR (pushT out x) c=(memR out c || (decide (x.1≤c) && decide (c≤x.2))))∧lastH (-2) (pushT out x)=x.2:=by
  rcases snoc_cases out with rfl | ⟨b,y,rfl⟩
  · have e:pushT [] x=[x]:=rfl
    rw [e]
    refine ⟨?_,fun c=>by rw [memR_one];simp [memR],rfl⟩
    simp [setRight,setFrom];omega
  · have e:pushT (b ++ [y]) x=if y.2+1=x.1 then b ++ [(y.1,x.2)] else b ++ [y] ++ [x]:=by unfold pushT;simp
    rw [e]
    rw [lastH_snoc] at hl
    unfold setRight at h ⊢
    have h':=h
    rw [setFrom_snoc] at h
    simp only [Bool.and_eq_true,decide_eq_true_eq] at h
    by_cases hy:y.2+1=x.1
    · rw [if_pos hy]
      refine ⟨?_,fun c=>?_,lastH_snoc _ _ _⟩
      · rw [setFrom_snoc,h.1];simp;omega
      · rw [memR_append,memR_append,memR_one,memR_one,Bool.or_assoc]
        congr 1
        rw [Bool.eq_iff_iff]
        simp only [Bool.or_eq_true,Bool.and_eq_true,decide_eq_true_eq]
        omega
    · rw [if_neg hy]
      refine ⟨?_,fun c=>by rw [memR_append,memR_one],lastH_snoc _ _ _⟩
      rw [setFrom_snoc,h',lastH_snoc];simp;omega
theorem sumTo_none {c:Int}:∀ {l:List (Int × Int)},(∀ e ∈ l,c < e.1)→sumTo c l=0
  | [],_=>rfl
  | (a,m) :: l,h=>by
    have h1:=h (a,m) (by simp)
    dsimp only at h1
    simp only [sumTo]
    rw [if_neg (by omega),sumTo_none fun e he=>h e (by simp [he])];rfl
theorem those_spans (is:Int→Bool):∀ (es:List (Int × Int)) (frm n:Int) (out:List (Int × Int)),0≤frm→(∀ e ∈ es,frm≤e.1∧e.1≤1114112)→es.Pairwise (fun a b=>a.1≤b.1)→
    setRight out=true→lastH (-2) out < frm→
    setRight ((spansL frm n es).foldl (stepT is) out)=true∧
      ∀ c,memR ((spansL frm n es).foldl (stepT is) out) c=(memR out c || (decide (frm≤c) && decide (c≤1114111) && is (n+sumTo c es)))
  | [],frm,n,out,h0,_,_,hr,hl=>by
    simp only [spansL]
    by_cases hf:frm≤1114111
    · rw [if_pos hf]
      simp only [List.foldl_cons,List.foldl_nil,stepT]
      by_cases hi:is n=true
      · rw [if_pos hi]
        obtain ⟨p1,p2,_⟩:=pushT_right (x:=(frm,1114111)) hr h0 hf (Int.le_refl _) hl
        exact ⟨p1,fun c=>by rw [p2];simp [sumTo,hi]⟩
      · rw [if_neg hi]
        exact ⟨hr,fun c=>by simp [sumTo,hi]⟩
    · rw [if_neg hf]
      refine ⟨hr,fun c=>?_⟩
      have:(decide (frm≤c) && decide (c≤1114111))=false:=by
        rw [Bool.and_eq_false_iff,decide_eq_false_iff_not,decide_eq_false_iff_not];omega
      simp [this]
  | (a,m) :: l,frm,n,out,h0,hb,hs,hr,hl=>by
    have ha:=hb (a,m) (by simp)
    dsimp only at ha
    have hl':∀ e ∈ l,a≤e.1:=fun e he=>List.rel_of_pairwise_cons hs he
    have hb':∀ e ∈ l,a≤e.1∧e.1≤1114112:=fun e he=>⟨hl' e he,(hb e (by simp [he])).2⟩
    have hs':=hs.of_cons
    simp only [spansL]
    by_cases hf:frm < a
    · rw [if_pos hf,List.foldl_cons]
      have key:setRight (stepT is out ((frm,a - 1),n))=true∧(∀ c,memR (stepT is out ((frm,a - 1),n)) c=(memR out c || (decide (frm≤c) && decide (c≤a - 1) && is n)))∧lastH (-2) (stepT is out ((frm,a - 1),n)) < a:=by
        simp only [stepT]
        by_cases hi:is n=true
        · rw [if_pos hi]
          obtain ⟨p1,p2,p3⟩:=pushT_right (x:=(frm,a - 1)) hr h0 (by dsimp only;omega) (by dsimp only;omega) hl
          refine ⟨p1,fun c=>by rw [p2,hi];simp,by rw [p3];dsimp only;omega⟩
        · rw [if_neg hi]
          exact ⟨hr,fun c=>by simp [hi],by omega⟩
      obtain ⟨k1,k2,k3⟩:=key
      obtain ⟨i1,i2⟩:=those_spans is l a (n+m) _ (by omega) hb' hs' k1 k3
      refine ⟨i1,fun c=>?_⟩
      rw [i2,k2,Bool.or_assoc]
      congr 1
      by_cases hc:c < a
      · have e:sumTo c ((a,m) :: l)=0:=sumTo_none fun e he=>by
          rcases List.mem_cons.1 he with rfl | he
          · exact hc
          · have:=hl' e he;omega
        rw [e,decide_eq_false (show ¬ a≤c by omega),Int.add_zero]
        by_cases hq:frm≤c
        · rw [decide_eq_true hq,decide_eq_true (show c≤a - 1 by omega),decide_eq_true (show c≤1114111 by omega)];simp
        · rw [decide_eq_false hq];simp
      · have e:sumTo c ((a,m) :: l)=m+sumTo c l:=by simp only [sumTo];rw [if_pos (by omega)]
        rw [e,decide_eq_false (show ¬ c≤a - 1 by omega),decide_eq_true (show a≤c by omega),decide_eq_true (show frm≤c by omega),Int.add_assoc];simp
    · rw [if_neg hf]
      obtain rfl:a=frm:=by omega
      obtain ⟨i1,i2⟩:=those_spans is l a (n+m) out h0 hb' hs' hr hl
      refine ⟨i1,fun c=>?_⟩
      rw [i2]
      congr 1
      by_cases hq:a≤c
      · have e:sumTo c ((a,m) :: l)=m+sumTo c l:=by simp only [sumTo];rw [if_pos hq]
        rw [e,Int.add_assoc]
      · rw [decide_eq_false hq];simp
theorem sweep (is:Int→Bool) (rs es:List (Int × Int)) (hp:es.Perm (edgesL rs)) (hs:es.Pairwise (fun a b=>a.1≤b.1)) :
    setRight (thoseL is (spansL 0 0 es))=true∧∀ c,memR (thoseL is (spansL 0 0 es)) c=(decide (0≤c) && decide (c≤1114111) && is (coverN c rs)):=by
  obtain ⟨h1,h2⟩:=those_spans is es 0 0 [] (Int.le_refl _) (fun e he=>by have:=edges_bound rs e (hp.mem_iff.1 he);omega) hs rfl (by decide)
  refine ⟨h1,fun c=>?_⟩
  rw [thoseL,h2,Int.zero_add,sumTo_perm c hp]
  by_cases hc:0≤c∧c≤1114111
  · rw [sumTo_edges hc.1 hc.2];simp [memR]
  · have:(decide (0≤c) && decide (c≤1114111))=false:=by
      rw [Bool.and_eq_false_iff,decide_eq_false_iff_not,decide_eq_false_iff_not];omega
    simp [this,memR]
end Go.Proofs.YtnhnldmldnhaoaaGreatDoor
