/- The closed facts of the row BetaDuplicate. No condition. -/
import Derived.Test.YtdlgnhefpoalnaaGreatDoorCards
import Derived.Test.YtdlgnhefpoalnaaGreatDoorHa
import Derived.Conc.Holds
namespace Go.Proofs.YtdlgnhefpoalnaaGreatDoor.betaDuplicate
open Go.ChangeShapes Go.WideShapes Go.RowKit
theorem laidOut:laidOutB Tryz.prog=true:=by kernel_rfl
theorem cPlace:(Rows.betaDuplicateRow.inPlace==Tryz.prog.inPlace 8)=true:=by kernel_rfl
theorem cUnf:(Rows.betaDuplicateRow.unfollowed==Tryz.prog.unfollowed 8)=true:=by kernel_rfl
theorem cRec:(Rows.betaDuplicateRow.recurses==Tryz.prog.recurses 8)=true:=by kernel_rfl
theorem cNamed:(Rows.betaDuplicateRow.named==Tryz.prog.varsNamed 8)=true:=by kernel_rfl
theorem closed:joinedFacts Tryz.prog 8 Tryz.f8 Rows.betaDuplicateSpec Rows.betaDuplicateRow=true:=by
 unfold joinedFacts;simp only[Bool.and_eq_true]
 repeat' apply And.intro
 all_goals first|with_reducible exact cPlace|with_reducible exact cUnf|with_reducible exact cRec|with_reducible exact cNamed|with_reducible exact laidOut|kernel_rfl
theorem cName:Tryz.pinned.checked.prog.funcNamed Rows.betaDuplicateRow.func=some 8:=by kernel_rfl
theorem cInst:Tryz.f8.isInstance Tryz.pinned.checked.prog Rows.betaDuplicateRow.origin Rows.betaDuplicateRow.targs:=of_decide_eq_true (by kernel_rfl)
theorem cWrap:Tryz.f8.isWrapper Tryz.pinned.checked.prog Rows.betaDuplicateRow.wrapper Rows.betaDuplicateRow.mainSum:=by unfold Func.isWrapper;first|(rw[if_pos (by decide +kernel)];kernel_rfl)|(rw[if_neg (by decide +kernel)];exact⟨rfl,rfl⟩)
end Go.Proofs.YtdlgnhefpoalnaaGreatDoor.betaDuplicate
