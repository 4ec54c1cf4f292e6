/- The closed facts of the card AlphaFormats. No condition. -/
import Derived.Test.YthcnojmldldpeaaGreatDoorCards
import Derived.Test.YthcnojmldldpeaaGreatDoorGa
import Derived.SevenTiedAt
namespace Go.Proofs.YthcnojmldldpeaaGreatDoor.alphaFormats
open Go.ChangeShapes Go.WideShapes Go.RowKit
theorem cWf:Rows.alphaFormatsRow.wfByText (OpenSpec.ofChange Rows.alphaFormatsSpec)=true:=by kernel_rfl
theorem cMain:Tryz.pinned.checked.prog.mainIs=some (true, "fed5dd2439e2e935d544e45de4448d498b40734a81ba22b2b1576cbd1fb1fe73".toList):=by kernel_rfl
theorem cLooks:false=Tryz.pinned.checked.prog.looks []:=by kernel_rfl
theorem cGoes:false=Rows.alphaFormatsRow.goesBy Tryz.pinned.checked.prog:=by kernel_rfl
theorem cFn:Tryz.prog.funcNamed "netverify/netverifylaw9.AlphaFormats" = some 3:=by kernel_rfl
theorem cStand:(([41]:List TypeId).all fun u => !Tryz.prog.wantsStandIn u)=true:=by kernel_rfl
end Go.Proofs.YthcnojmldldpeaaGreatDoor.alphaFormats
