/- beta's Parse with the program's own CheckRouter. Condition: Go's own tables lie in memory (EnvA). -/
import Derived.Test.YtdlgnhefpoalnaaGreatDoorHaf
import Derived.Test.YtdlgnhefpoalnaaGreatDoorHah
namespace Go.Proofs.YtdlgnhefpoalnaaGreatDoor
open Lib (hid)
open Go.RowKit
theorem bcheck_any:CRt zBl:=zJj
theorem zJr:PRt zBl:=bParse_gen zBl bcheck_any zMj form_any
end Go.Proofs.YtdlgnhefpoalnaaGreatDoor
