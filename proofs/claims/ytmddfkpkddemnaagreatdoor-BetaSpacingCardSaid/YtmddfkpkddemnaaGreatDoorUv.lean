/- The walks of the laws ScanDecimals and ScanConcat. No condition. -/
import Derived.Test.YtmddfkpkddemnaaGreatDoorUh
import Derived.Test.YtmddfkpkddemnaaGreatDoorUc
namespace Go.Proofs.YtmddfkpkddemnaaGreatDoor
open Go.RowKit
end Go.Proofs.YtmddfkpkddemnaaGreatDoor
namespace Go.Proofs.YtmddfkpkddemnaaGreatDoor
open Go.RowKit
theorem lines_known (s : ByteArray) (w : World) (k : Int) (xs : List (List UInt8)) (he : linesErr (bytes s) = k) (hx : linesRes (bytes s) = xs) : Calls Tryz.prog 32 #[.string s] w fun e w' =>
    ∃ v, e = .returned (.tuple #[v, .int .i64 k]) ∧ w'.ownsRow w.heap.size 9 1 v xs.length (xs.map strV) ∧ Below w.heap.size w w' := by
  subst he hx
  exact lines_any s w
theorem lines_count (s : ByteArray) : (linesOf (bytes s)).length ≤ s.size + 1 := by
  have := linesGo_len (bytes s) []
  rw [bytes_len] at this
  exact this
end Go.Proofs.YtmddfkpkddemnaaGreatDoor
