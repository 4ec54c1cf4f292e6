/- The text of a query in plain Lean; the walks of place and ports. Conditions: the texts are short; Go's own tables are laid (EnvB). -/
import Derived.Test.YthcnojmldldpeaaGreatDoorGx
import Derived.Great.Walk
namespace Go.Proofs.YthcnojmldldpeaaGreatDoor
open Lib (hid)
open Go.RowKit
def cat(l m:List UInt8):List UInt8:=l++m
theorem cat_len(l m:List UInt8):(cat l m).length=l.length+m.length:=List.length_append
theorem run_cat{l m:List UInt8}(hl:l.length+m.length≤9223372036854775807):Op.stringOp .add (str l) (str m)=pure (.string (str (cat l m))):=by
 have h:¬((9223372036854775807:Int)<((str l).size:Int)+((str m).size:Int)):=by rw[zBx,zBx];omega
 have e:str (cat l m)=str l++str m:=(zGr l m).symm;rw[e];simp[Op.stringOp,h]
theorem Tryz.rngGuard:Tryz.prog.eqGuardType Tryz.prog.depth 101=false:=by kernel_rfl
theorem Tryz.rngStood:Tryz.prog.stoodInHeld 101=false:=by kernel_rfl
theorem rng_eql(a b c d:Int)(w:World):(binOp .eql 101 (.agg #[.int .i64 a,.int .i64 b]) (.agg #[.int .i64 c,.int .i64 d])).run Tryz.prog w=.ok (.bool (decide (a=c∧b=d))) w:=by
 have hp:=Tryz.rngStood;by_cases h1:a=c
 ·subst h1
  by_cases h2:b=d
  ·subst h2
   simp[go_sem,hp]
  ·have h3:(b==d)=false:=by simp[h2]
   simp[go_sem,hp,h2,h3]
 ·have h2:(a==c)=false:=by simp[h1]
  simp[go_sem,hp,h1,h2]
theorem zAs(w:World):Below w.heap.size w w.drew:=(Below.refl _ _).drew
end Go.Proofs.YthcnojmldldpeaaGreatDoor
