/- The walk of the reference's Tokens, and of the comparison of two lists of tokens. No condition. -/
import Derived.Test.YtdlgnhefpoalnaaGreatDoorHu
namespace Go.Proofs.YtdlgnhefpoalnaaGreatDoor
open Lib (hid)
open Go.RowKit
theorem zNj(s:ByteArray)(w:World)(k:Int)(xs:List (List UInt8))(he:zAu (bytes s)=k)(hx:zEb (bytes s)=xs):Calls Tryz.prog 17 #[.string s] w fun e w' =>
  ∃v,e=.returned (.tuple #[v,.int .i64 k])∧w'.ownsRow w.heap.size 9 1 v xs.length (xs.map strV)∧Below w.heap.size w w' := by
 subst he hx;exact rlines_any s w
end Go.Proofs.YtdlgnhefpoalnaaGreatDoor
