/- The walks of Valid, of package query and of the reference. Condition: addresses are numbers below 2^32. -/
import Derived.Test.YtdlgnhefpoalnaaGreatDoorLo
namespace Go.Proofs.YtdlgnhefpoalnaaGreatDoor
open Lib (hid)
open Go.RowKit
theorem nameL(l:List UInt8)(w:World):Calls Tryz.prog 87 #[.string (str l)] w fun e w' => e=.returned (.bool (nameB l))∧w=w' := by
 have:=name_any (str l) w;rwa [zBk]at this
theorem rnameL(l:List UInt8)(w:World):Calls Tryz.prog 50 #[.string (str l)] w fun e w' => e=.returned (.bool (nameB l))∧w=w' := by
 have:=rname_any (str l) w;rwa [zBk]at this
end Go.Proofs.YtdlgnhefpoalnaaGreatDoor
