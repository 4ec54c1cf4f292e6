/- The closed facts of the row BetaCanonical. No condition. -/
import Derived.Test.YtdlgnhefpoalnaaGreatDoorCards
import Derived.Test.YtdlgnhefpoalnaaGreatDoorJa
import Derived.Conc.Holds
namespace Go.Proofs.YtdlgnhefpoalnaaGreatDoor.betaCanonical
open Go.ChangeShapes Go.WideShapes Go.RowKit
theorem laidOut:laidOutB Tryz.prog = true:=by kernel_rfl
theorem cPlace:(Rows.betaCanonicalRow.inPlace == Tryz.prog.inPlace 6) = true:=by kernel_rfl
theorem cUnf:(Rows.betaCanonicalRow.unfollowed == Tryz.prog.unfollowed 6) = true:=by kernel_rfl
theorem cRec:(Rows.betaCanonicalRow.recurses == Tryz.prog.recurses 6) = true:=by kernel_rfl
theorem cNamed:(Rows.betaCanonicalRow.named == Tryz.prog.varsNamed 6) = true:=by kernel_rfl
theorem closed:joinedFacts Tryz.prog 6 Tryz.f6 Rows.betaCanonicalSpec Rows.betaCanonicalRow = true:=by
 unfold joinedFacts
 simp only [Bool.and_eq_true]
 repeat' apply And.intro
 all_goals first | with_reducible exact cPlace | with_reducible exact cUnf | with_reducible exact cRec | with_reducible exact cNamed | with_reducible exact laidOut | kernel_rfl
theorem cName:Tryz.pinned.checked.prog.funcNamed Rows.betaCanonicalRow.func = some 6:=by kernel_rfl
theorem cInst:Tryz.f6.isInstance Tryz.pinned.checked.prog Rows.betaCanonicalRow.origin Rows.betaCanonicalRow.targs:=of_decide_eq_true (by kernel_rfl)
theorem cWrap:Tryz.f6.isWrapper Tryz.pinned.checked.prog Rows.betaCanonicalRow.wrapper Rows.betaCanonicalRow.mainSum:=by unfold Func.isWrapper; first | (rw [if_pos (by decide +kernel)]; kernel_rfl) | (rw [if_neg (by decide +kernel)]; exact ⟨rfl,rfl⟩)
end Go.Proofs.YtdlgnhefpoalnaaGreatDoor.betaCanonical
