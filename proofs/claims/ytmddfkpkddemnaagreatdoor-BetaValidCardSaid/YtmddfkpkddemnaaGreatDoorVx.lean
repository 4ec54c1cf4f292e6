/- Plain: a text's tokens, written anew with any of four gaps behind each, are the same tokens. No condition. -/
import Derived.Test.YtmddfkpkddemnaaGreatDoorVa
namespace Go.Proofs.YtmddfkpkddemnaaGreatDoor
open Go.RowKit
end Go.Proofs.YtmddfkpkddemnaaGreatDoor
