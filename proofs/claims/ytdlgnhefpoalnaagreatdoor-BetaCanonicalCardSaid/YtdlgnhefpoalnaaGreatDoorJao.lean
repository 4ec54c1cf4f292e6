/- beta's Parse with the program's own CheckRouter. Condition: Go's own tables lie in memory (EnvA). -/
import Derived.Test.YtdlgnhefpoalnaaGreatDoorJal
import Derived.Test.YtdlgnhefpoalnaaGreatDoorJan
namespace Go.Proofs.YtdlgnhefpoalnaaGreatDoor
open Lib (hid)
open Go.RowKit
theorem bcheck_any:CRt zBq:=zJa
theorem bParse_any:PRt zBq:=bParse_gen zBq bcheck_any zGp form_any
end Go.Proofs.YtdlgnhefpoalnaaGreatDoor
