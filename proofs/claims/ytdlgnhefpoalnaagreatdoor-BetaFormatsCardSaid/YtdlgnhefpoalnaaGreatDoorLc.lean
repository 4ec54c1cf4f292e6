/- The closed facts of the card BetaFormats. No condition. -/
import Derived.Test.YtdlgnhefpoalnaaGreatDoorCards
import Derived.Test.YtdlgnhefpoalnaaGreatDoorLa
import Derived.SevenTiedAt
namespace Go.Proofs.YtdlgnhefpoalnaaGreatDoor.betaFormats
open Go.ChangeShapes Go.WideShapes Go.RowKit
theorem cWf:Rows.betaFormatsRow.wfByText (OpenSpec.ofChange Rows.betaFormatsSpec)=true:=by kernel_rfl
theorem cMain:Tryz.pinned.checked.prog.mainIs=some (true, "2cdd519f57e647b5003858c1760181b5014727e80b5dccbd369870e40bd14aab".toList):=by kernel_rfl
theorem cLooks:false=Tryz.pinned.checked.prog.looks []:=by kernel_rfl
theorem cGoes:false=Rows.betaFormatsRow.goesBy Tryz.pinned.checked.prog:=by kernel_rfl
theorem cFn:Tryz.prog.funcNamed "netverify/netverifylaw10.BetaFormats" = some 4:=by kernel_rfl
theorem cStand:(([41]:List TypeId).all fun u => !Tryz.prog.wantsStandIn u)=true:=by kernel_rfl
end Go.Proofs.YtdlgnhefpoalnaaGreatDoor.betaFormats
