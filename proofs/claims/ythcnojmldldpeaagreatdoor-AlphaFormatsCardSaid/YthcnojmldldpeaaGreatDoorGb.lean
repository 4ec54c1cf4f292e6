/- The closed facts of the row AlphaFormats. No condition. -/
import Derived.Test.YthcnojmldldpeaaGreatDoorCards
import Derived.Test.YthcnojmldldpeaaGreatDoorGa
import Derived.Conc.Holds
namespace Go.Proofs.YthcnojmldldpeaaGreatDoor.alphaFormats
open Go.ChangeShapes Go.WideShapes Go.RowKit
theorem laidOut:laidOutB Tryz.prog=true:=by kernel_rfl
theorem cPlace:(Rows.alphaFormatsRow.inPlace==Tryz.prog.inPlace 3)=true:=by kernel_rfl
theorem cUnf:(Rows.alphaFormatsRow.unfollowed==Tryz.prog.unfollowed 3)=true:=by kernel_rfl
theorem cRec:(Rows.alphaFormatsRow.recurses==Tryz.prog.recurses 3)=true:=by kernel_rfl
theorem cNamed:(Rows.alphaFormatsRow.named==Tryz.prog.varsNamed 3)=true:=by kernel_rfl
theorem closed:joinedFacts Tryz.prog 3 Tryz.f3 Rows.alphaFormatsSpec Rows.alphaFormatsRow=true:=by
 unfold joinedFacts;simp only[Bool.and_eq_true]
 repeat' apply And.intro
 all_goals first|with_reducible exact cPlace|with_reducible exact cUnf|with_reducible exact cRec|with_reducible exact cNamed|with_reducible exact laidOut|kernel_rfl
theorem cName:Tryz.pinned.checked.prog.funcNamed Rows.alphaFormatsRow.func=some 3:=by kernel_rfl
theorem cInst:Tryz.f3.isInstance Tryz.pinned.checked.prog Rows.alphaFormatsRow.origin Rows.alphaFormatsRow.targs:=of_decide_eq_true (by kernel_rfl)
theorem cWrap:Tryz.f3.isWrapper Tryz.pinned.checked.prog Rows.alphaFormatsRow.wrapper Rows.alphaFormatsRow.mainSum:=by unfold Func.isWrapper;first|(rw[if_pos (by decide +kernel)];kernel_rfl)|(rw[if_neg (by decide +kernel)];exact⟨rfl,rfl⟩)
end Go.Proofs.YthcnojmldldpeaaGreatDoor.alphaFormats
