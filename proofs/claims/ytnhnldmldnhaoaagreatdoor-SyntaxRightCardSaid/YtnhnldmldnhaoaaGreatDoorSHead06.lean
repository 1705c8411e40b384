/- The live question of layer 6. An escape by a braced number, at any place; an escape of a sign. -/
import Derived.Test.YtnhnldmldnhaoaaGreatDoorSScan1
import Derived.BigRegion
namespace Go.Proofs.YtnhnldmldnhaoaaGreatDoor
open Go Go.RowKit Go.Proofs
def esc0:List Value:=[.int .i64 0,.int .i32 0,.slice none 0 0,.int .i64 0]
def wrong0:List Value:=[.int .i64 0,.int .i64 0,.int .i64 0]
theorem esc_blocks (w:World) (s:ByteArray) (p:Int) (te tw tr:TypeId) :
    let W:=(((w.alloc (.cells #[.int .i64 0,.int .i32 0,.slice none 0 0,.int .i64 0] te)).alloc (.cells #[.int .i64 0,.int .i64 0,.int .i64 0] tw)).alloc (.cells #[.string s,.int .i64 p,.int .i64 p] tr)).alloc (.cells #[.int .i64 0,.int .i32 0,.slice none 0 0,.int .i64 0] te)
    Blk W w.heap.size esc0 te∧Blk W (w.heap.size+1) wrong0 tw∧Blk W (w.heap.size+1+1) [.string s,.int .i64 p,.int .i64 p] tr∧Blk W (w.heap.size+1+1+1) esc0 te:=by
  have a:=Blk.new w esc0 te
  have b:=Blk.new (w.alloc (.cells esc0.toArray te)) wrong0 tw
  have c:=Blk.new ((w.alloc (.cells esc0.toArray te)).alloc (.cells wrong0.toArray tw)) [.string s,.int .i64 p,.int .i64 p] tr
  have d:=Blk.new (((w.alloc (.cells esc0.toArray te)).alloc (.cells wrong0.toArray tw)).alloc (.cells [Value.string s,.int .i64 p,.int .i64 p].toArray tr)) esc0 te
  simp only [World.size_alloc] at b c d
  exact ⟨((a.alloc _).alloc _).alloc _,(b.alloc _).alloc _,c.alloc _,d⟩
end Go.Proofs.YtnhnldmldnhaoaaGreatDoor
namespace Go.Proofs.YtnhnldmldnhaoaaGreatDoor
open Go Go.RowKit Go.Proofs
end Go.Proofs.YtnhnldmldnhaoaaGreatDoor
