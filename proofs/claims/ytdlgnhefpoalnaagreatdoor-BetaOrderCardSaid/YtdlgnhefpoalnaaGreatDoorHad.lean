/- The text of a query in plain Lean; the walks of place and ports. Conditions: the texts are short; Go's own tables are laid (EnvB). -/
import Derived.Test.YtdlgnhefpoalnaaGreatDoorHac
import Derived.Great.Walk
namespace Go.Proofs.YtdlgnhefpoalnaaGreatDoor
open Lib (hid)
open Go.RowKit
theorem Tryz.rngGuard:Tryz.prog.eqGuardType Tryz.prog.depth 142=false:=by kernel_rfl
theorem Tryz.rngStood:Tryz.prog.stoodInHeld 142=false:=by kernel_rfl
theorem rng_eql(a b c d:Int)(w:World):(binOp .eql 142 (.agg #[.int .i64 a,.int .i64 b]) (.agg #[.int .i64 c,.int .i64 d])).run Tryz.prog w=.ok (.bool (decide (a=c∧b=d))) w:=by
 have hp:=Tryz.rngStood;by_cases h1:a=c
 ·subst h1
  by_cases h2:b=d
  ·subst h2
   simp[go_sem,hp]
  ·have h3:(b==d)=false:=by simp[h2]
   simp[go_sem,hp,h2,h3]
 ·have h2:(a==c)=false:=by simp[h1]
  simp[go_sem,hp,h1,h2]
theorem zAl(w:World):Below w.heap.size w w.drew:=(Below.refl _ _).drew
end Go.Proofs.YtdlgnhefpoalnaaGreatDoor
