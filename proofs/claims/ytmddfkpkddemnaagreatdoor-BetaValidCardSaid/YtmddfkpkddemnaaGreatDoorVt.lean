/- Dialect Beta, plain: what tokens mean depends on their texts alone, not on their lines. No condition. -/
import Derived.Test.YtmddfkpkddemnaaGreatDoorVq
namespace Go.Proofs.YtmddfkpkddemnaaGreatDoor
open Go.RowKit
end Go.Proofs.YtmddfkpkddemnaaGreatDoor
