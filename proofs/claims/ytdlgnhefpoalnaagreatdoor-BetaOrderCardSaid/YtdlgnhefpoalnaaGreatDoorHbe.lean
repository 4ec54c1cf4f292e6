/- The closed facts of the card BetaOrder. No condition. -/
import Derived.Test.YtdlgnhefpoalnaaGreatDoorCards
import Derived.Test.YtdlgnhefpoalnaaGreatDoorHa
import Derived.SevenTiedAt
namespace Go.Proofs.YtdlgnhefpoalnaaGreatDoor.betaOrder
open Go.ChangeShapes Go.WideShapes Go.RowKit
theorem cWf:Rows.betaOrderRow.wfByText (OpenSpec.ofChange Rows.betaOrderSpec)=true:=by kernel_rfl
theorem cMain:Tryz.pinned.checked.prog.mainIs=some (true, "2cdd519f57e647b5003858c1760181b5014727e80b5dccbd369870e40bd14aab".toList):=by kernel_rfl
theorem cLooks:false=Tryz.pinned.checked.prog.looks []:=by kernel_rfl
theorem cGoes:false=Rows.betaOrderRow.goesBy Tryz.pinned.checked.prog:=by kernel_rfl
theorem cFn:Tryz.prog.funcNamed "netverify/netverifylaw10.BetaOrder" = some 7:=by kernel_rfl
theorem cStand:(([41,3]:List TypeId).all fun u => !Tryz.prog.wantsStandIn u)=true:=by kernel_rfl
end Go.Proofs.YtdlgnhefpoalnaaGreatDoor.betaOrder
