/- The closed facts of the row BetaOrder. No condition. -/
import Derived.Test.YtdlgnhefpoalnaaGreatDoorCards
import Derived.Test.YtdlgnhefpoalnaaGreatDoorHa
import Derived.Conc.Holds
namespace Go.Proofs.YtdlgnhefpoalnaaGreatDoor.betaOrder
open Go.ChangeShapes Go.WideShapes Go.RowKit
theorem laidOut:laidOutB Tryz.prog=true:=by kernel_rfl
theorem cPlace:(Rows.betaOrderRow.inPlace==Tryz.prog.inPlace 7)=true:=by kernel_rfl
theorem cUnf:(Rows.betaOrderRow.unfollowed==Tryz.prog.unfollowed 7)=true:=by kernel_rfl
theorem cRec:(Rows.betaOrderRow.recurses==Tryz.prog.recurses 7)=true:=by kernel_rfl
theorem cNamed:(Rows.betaOrderRow.named==Tryz.prog.varsNamed 7)=true:=by kernel_rfl
theorem closed:joinedFacts Tryz.prog 7 Tryz.f7 Rows.betaOrderSpec Rows.betaOrderRow=true:=by
 unfold joinedFacts;simp only[Bool.and_eq_true]
 repeat' apply And.intro
 all_goals first|with_reducible exact cPlace|with_reducible exact cUnf|with_reducible exact cRec|with_reducible exact cNamed|with_reducible exact laidOut|kernel_rfl
theorem cName:Tryz.pinned.checked.prog.funcNamed Rows.betaOrderRow.func=some 7:=by kernel_rfl
theorem cInst:Tryz.f7.isInstance Tryz.pinned.checked.prog Rows.betaOrderRow.origin Rows.betaOrderRow.targs:=of_decide_eq_true (by kernel_rfl)
theorem cWrap:Tryz.f7.isWrapper Tryz.pinned.checked.prog Rows.betaOrderRow.wrapper Rows.betaOrderRow.mainSum:=by unfold Func.isWrapper;first|(rw[if_pos (by decide +kernel)];kernel_rfl)|(rw[if_neg (by decide +kernel)];exact⟨rfl,rfl⟩)
end Go.Proofs.YtdlgnhefpoalnaaGreatDoor.betaOrder
