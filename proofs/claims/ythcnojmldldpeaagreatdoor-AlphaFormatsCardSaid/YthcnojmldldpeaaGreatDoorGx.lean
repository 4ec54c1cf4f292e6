/- The walks of Valid, of package query and of the reference. Condition: addresses are numbers below 2^32. -/
import Derived.Test.YthcnojmldldpeaaGreatDoorGn
namespace Go.Proofs.YthcnojmldldpeaaGreatDoor
open Lib (hid)
open Go.RowKit
theorem nameL(l:List UInt8)(w:World):Calls Tryz.prog 26 #[.string (str l)] w fun e w' => e=.returned (.bool (nameB l))∧w=w' := by
 have:=name_any (str l) w;rwa [zBq]at this
theorem rnameL(l:List UInt8)(w:World):Calls Tryz.prog 52 #[.string (str l)] w fun e w' => e=.returned (.bool (nameB l))∧w=w' := by
 have:=rname_any (str l) w;rwa [zBq]at this
end Go.Proofs.YthcnojmldldpeaaGreatDoor
