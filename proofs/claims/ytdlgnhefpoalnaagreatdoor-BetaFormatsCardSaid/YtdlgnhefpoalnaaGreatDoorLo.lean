/- A query as a whole, out of and into a block: the laws of the operations load and store at its type; the result that lies in a block. No condition. -/
import Derived.Test.YtdlgnhefpoalnaaGreatDoorLn
namespace Go.Proofs.YtdlgnhefpoalnaaGreatDoor
open Lib (hid)
open Go.RowKit
theorem row_of{P:Program}{t:TypeId}(h:(P.underlying t).map TypeDesc.isRow=some true):∃d,P.underlying t=some d∧d.isRow=true:=by
 cases hu:P.underlying t with
 |none=>rw[hu]at h;cases h
 |some d=>exact⟨d,rfl,by rw[hu]at h;simpa using h⟩
def zGk(cs:Array Value):Nat→List Value→Array Value
 |_,[]=>cs
 |o,v :: r=>zGk (cs.setIfInBounds o v) (o+1) r
theorem zHg{g:Nat}{T:TypeId}{fz:Nat × Nat}:∀(vs:List Value) (o:Nat) (cs:Array Value) (w:World),w.heap[g]? = some (.cells cs T fz)→(w.setCells g o vs).heap[g]? = some (.cells (zGk cs o vs) T fz)
 |[],_,_,_,h=>h
 |v :: r,o,cs,w,h=>by
  unfold World.setCells zGk;exact zHg r (o+1) _ _ (Lib.heap_setCell_same (i:=o) h v)
theorem zJh(g:Nat):∀(vs:List Value) (o:Nat) (w:World),w.grownBy (w.setCells g o vs) (some g)
 |[],_,_=>World.grownBy.refl _ _
 |v :: r,o,w=>by
  unfold World.setCells;exact(zBb w g o v).trans (zJh g r (o+1) _)
theorem zMk{P:Program}{fn:Func}{tmps:Array Value}{w:World}{k:Nat}{T:TypeId}{g:Addr}{v:Value}(hf:fn.results=#[.cell k T])(hk:tmps.getD k undef=.pointer (some g))
  (hl:(loadVar T g).run P w=.ok v w):(results fn tmps).run P w=.ok v w:=by
 rw[Array.getD_eq_getD_getElem?]at hk;unfold results;simp[hf,hk,asAddr,hl]
end Go.Proofs.YtdlgnhefpoalnaaGreatDoor
