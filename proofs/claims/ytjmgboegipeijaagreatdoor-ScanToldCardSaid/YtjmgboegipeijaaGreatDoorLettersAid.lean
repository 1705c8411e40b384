/- Strings by their lists of bytes. -/
namespace Go.Proofs.YtjmgboegipeijaaGreatDoor

theorem size_of_list {S : ByteArray} {l : List UInt8} (h : S.data.toList = l) : S.size = l.length := by rw [← h]; simp
theorem append_list {S T : ByteArray} {l m : List UInt8} (h : S.data.toList = l) (k : T.data.toList = m) : (S ++ T).data.toList = l ++ m := by
  rw [← h, ← k]; simp

end Go.Proofs.YtjmgboegipeijaaGreatDoor
