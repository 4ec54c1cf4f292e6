/- The walks of the laws ScanDecimals and ScanConcat. No condition. -/
import Derived.Test.YtdlgnhefpoalnaaGreatDoorLk
namespace Go.Proofs.YtdlgnhefpoalnaaGreatDoor
open Lib (hid)
open Go.RowKit
theorem lines_known(s:ByteArray)(w:World)(k:Int)(xs:List (List UInt8))(he:zBr (bytes s)=k)(hx:zFu (bytes s)=xs):Calls Tryz.prog 62 #[.string s] w fun e w' =>
  ∃v,e=.returned (.tuple #[v,.int .i64 k])∧w'.ownsRow w.heap.size 9 1 v xs.length (xs.map strV)∧Below w.heap.size w w' := by
 subst he hx;exact lines_any s w
theorem lines_count(s:ByteArray):(zCs (bytes s)).length≤s.size+1:=by
 have:=linesGo_len (bytes s) [];rw[zBz]at this;exact this
end Go.Proofs.YtdlgnhefpoalnaaGreatDoor
