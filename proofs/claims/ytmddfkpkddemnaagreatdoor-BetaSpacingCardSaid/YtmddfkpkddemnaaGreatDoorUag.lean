/- The walks of Valid, of package query and of the reference. Condition: addresses are numbers below 2^32. -/
import Derived.Test.YtmddfkpkddemnaaGreatDoorUl
namespace Go.Proofs.YtmddfkpkddemnaaGreatDoor
open Go.RowKit
theorem nameL (l : List UInt8) (w : World) : Calls Tryz.prog 88 #[.string (str l)] w fun e w' => e = .returned (.bool (nameB l)) ∧ w = w' := by
  have := name_any (str l) w; rwa [bytes_str] at this
end Go.Proofs.YtmddfkpkddemnaaGreatDoor
namespace Go.Proofs.YtmddfkpkddemnaaGreatDoor
open Go.RowKit
end Go.Proofs.YtmddfkpkddemnaaGreatDoor
