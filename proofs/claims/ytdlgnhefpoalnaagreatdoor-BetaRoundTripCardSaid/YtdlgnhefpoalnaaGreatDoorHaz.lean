/- The closed facts of the row BetaRoundTrip. No condition. -/
import Derived.Test.YtdlgnhefpoalnaaGreatDoorCards
import Derived.Test.YtdlgnhefpoalnaaGreatDoorHa
import Derived.Conc.Holds
namespace Go.Proofs.YtdlgnhefpoalnaaGreatDoor.betaRoundTrip
open Go.ChangeShapes Go.WideShapes Go.RowKit
theorem laidOut:laidOutB Tryz.prog=true:=by kernel_rfl
theorem cPlace:(Rows.betaRoundTripRow.inPlace==Tryz.prog.inPlace 5)=true:=by kernel_rfl
theorem cUnf:(Rows.betaRoundTripRow.unfollowed==Tryz.prog.unfollowed 5)=true:=by kernel_rfl
theorem cRec:(Rows.betaRoundTripRow.recurses==Tryz.prog.recurses 5)=true:=by kernel_rfl
theorem cNamed:(Rows.betaRoundTripRow.named==Tryz.prog.varsNamed 5)=true:=by kernel_rfl
theorem closed:joinedFacts Tryz.prog 5 Tryz.f5 Rows.betaRoundTripSpec Rows.betaRoundTripRow=true:=by
 unfold joinedFacts;simp only[Bool.and_eq_true]
 repeat' apply And.intro
 all_goals first|with_reducible exact cPlace|with_reducible exact cUnf|with_reducible exact cRec|with_reducible exact cNamed|with_reducible exact laidOut|kernel_rfl
theorem cName:Tryz.pinned.checked.prog.funcNamed Rows.betaRoundTripRow.func=some 5:=by kernel_rfl
theorem cInst:Tryz.f5.isInstance Tryz.pinned.checked.prog Rows.betaRoundTripRow.origin Rows.betaRoundTripRow.targs:=of_decide_eq_true (by kernel_rfl)
theorem cWrap:Tryz.f5.isWrapper Tryz.pinned.checked.prog Rows.betaRoundTripRow.wrapper Rows.betaRoundTripRow.mainSum:=by unfold Func.isWrapper;first|(rw[if_pos (by decide +kernel)];kernel_rfl)|(rw[if_neg (by decide +kernel)];exact⟨rfl,rfl⟩)
end Go.Proofs.YtdlgnhefpoalnaaGreatDoor.betaRoundTrip
