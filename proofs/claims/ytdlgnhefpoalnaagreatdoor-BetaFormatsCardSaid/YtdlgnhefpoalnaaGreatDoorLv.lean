/- Dialect Beta, plain: what tokens mean depends on their texts alone, not on their lines. No condition. -/
import Derived.Test.YtdlgnhefpoalnaaGreatDoorLt
namespace Go.Proofs.YtdlgnhefpoalnaaGreatDoor
open Lib (hid)
open Go.RowKit
end Go.Proofs.YtdlgnhefpoalnaaGreatDoor
