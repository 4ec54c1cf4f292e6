/- Plain: a text's tokens, written anew with any of four gaps behind each, are the same tokens. No condition. -/
import Derived.Test.YtdlgnhefpoalnaaGreatDoorLd
namespace Go.Proofs.YtdlgnhefpoalnaaGreatDoor
open Lib (hid)
open Go.RowKit
end Go.Proofs.YtdlgnhefpoalnaaGreatDoor
