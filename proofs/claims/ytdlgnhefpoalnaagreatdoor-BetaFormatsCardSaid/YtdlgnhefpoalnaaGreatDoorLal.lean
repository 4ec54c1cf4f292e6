/- beta's Parse with the program's own CheckRouter. Condition: Go's own tables lie in memory (EnvA). -/
import Derived.Test.YtdlgnhefpoalnaaGreatDoorLai
import Derived.Test.YtdlgnhefpoalnaaGreatDoorLak
namespace Go.Proofs.YtdlgnhefpoalnaaGreatDoor
open Lib (hid)
open Go.RowKit
theorem bcheck_any:CRt zBw:=zIr
theorem bParse_any:PRt zBw:=bParse_gen zBw bcheck_any routerE_plain form_any
end Go.Proofs.YtdlgnhefpoalnaaGreatDoor
