/- The closed facts of the row BetaFormats. No condition. -/
import Derived.Test.YtdlgnhefpoalnaaGreatDoorCards
import Derived.Test.YtdlgnhefpoalnaaGreatDoorLa
import Derived.Conc.Holds
namespace Go.Proofs.YtdlgnhefpoalnaaGreatDoor.betaFormats
open Go.ChangeShapes Go.WideShapes Go.RowKit
theorem laidOut:laidOutB Tryz.prog=true:=by kernel_rfl
theorem cPlace:(Rows.betaFormatsRow.inPlace==Tryz.prog.inPlace 4)=true:=by kernel_rfl
theorem cUnf:(Rows.betaFormatsRow.unfollowed==Tryz.prog.unfollowed 4)=true:=by kernel_rfl
theorem cRec:(Rows.betaFormatsRow.recurses==Tryz.prog.recurses 4)=true:=by kernel_rfl
theorem cNamed:(Rows.betaFormatsRow.named==Tryz.prog.varsNamed 4)=true:=by kernel_rfl
theorem closed:joinedFacts Tryz.prog 4 Tryz.f4 Rows.betaFormatsSpec Rows.betaFormatsRow=true:=by
 unfold joinedFacts;simp only[Bool.and_eq_true]
 repeat' apply And.intro
 all_goals first|with_reducible exact cPlace|with_reducible exact cUnf|with_reducible exact cRec|with_reducible exact cNamed|with_reducible exact laidOut|kernel_rfl
theorem cName:Tryz.pinned.checked.prog.funcNamed Rows.betaFormatsRow.func=some 4:=by kernel_rfl
theorem cInst:Tryz.f4.isInstance Tryz.pinned.checked.prog Rows.betaFormatsRow.origin Rows.betaFormatsRow.targs:=of_decide_eq_true (by kernel_rfl)
theorem cWrap:Tryz.f4.isWrapper Tryz.pinned.checked.prog Rows.betaFormatsRow.wrapper Rows.betaFormatsRow.mainSum:=by unfold Func.isWrapper;first|(rw[if_pos (by decide +kernel)];kernel_rfl)|(rw[if_neg (by decide +kernel)];exact⟨rfl,rfl⟩)
end Go.Proofs.YtdlgnhefpoalnaaGreatDoor.betaFormats
