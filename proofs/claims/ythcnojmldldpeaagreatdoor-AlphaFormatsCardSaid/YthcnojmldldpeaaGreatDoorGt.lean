/- The built-in copy at rows of several cells; an element set into an owned slice (plain). No condition. -/
import Derived.Test.YthcnojmldldpeaaGreatDoorGs
import Derived.Lib.AppendZerosOnto
import Derived.Lib.Overlaps
namespace Go.Proofs.YthcnojmldldpeaaGreatDoor
open Lib (hid)
open Go.RowKit
end Go.Proofs.YthcnojmldldpeaaGreatDoor
