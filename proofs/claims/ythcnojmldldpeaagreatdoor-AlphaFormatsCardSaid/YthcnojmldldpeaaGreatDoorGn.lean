/- A query as a whole, out of and into a block: the laws of the operations load and store at its type; the result that lies in a block. No condition. -/
import Derived.Test.YthcnojmldldpeaaGreatDoorGm
namespace Go.Proofs.YthcnojmldldpeaaGreatDoor
open Lib (hid)
open Go.RowKit
theorem row_of{P:Program}{t:TypeId}(h:(P.underlying t).map TypeDesc.isRow=some true):∃d,P.underlying t=some d∧d.isRow=true:=by
 cases hu:P.underlying t with
 |none=>rw[hu]at h;cases h
 |some d=>exact⟨d,rfl,by rw[hu]at h;simpa using h⟩
def zEh(cs:Array Value):Nat→List Value→Array Value
 |_,[]=>cs
 |o,v :: r=>zEh (cs.setIfInBounds o v) (o+1) r
theorem zEo{g:Nat}{T:TypeId}{fz:Nat × Nat}:∀(vs:List Value) (o:Nat) (cs:Array Value) (w:World),w.heap[g]? = some (.cells cs T fz)→(w.setCells g o vs).heap[g]? = some (.cells (zEh cs o vs) T fz)
 |[],_,_,_,h=>h
 |v :: r,o,cs,w,h=>by
  unfold World.setCells zEh;exact zEo r (o+1) _ _ (Lib.heap_setCell_same (i:=o) h v)
theorem zFy(g:Nat):∀(vs:List Value) (o:Nat) (w:World),w.grownBy (w.setCells g o vs) (some g)
 |[],_,_=>World.grownBy.refl _ _
 |v :: r,o,w=>by
  unfold World.setCells;exact(zDi w g o v).trans (zFy g r (o+1) _)
theorem results_cell{P:Program}{fn:Func}{tmps:Array Value}{w:World}{k:Nat}{T:TypeId}{g:Addr}{v:Value}(hf:fn.results=#[.cell k T])(hk:tmps.getD k undef=.pointer (some g))
  (hl:(loadVar T g).run P w=.ok v w):(results fn tmps).run P w=.ok v w:=by
 rw[Array.getD_eq_getD_getElem?]at hk;unfold results;simp[hf,hk,asAddr,hl]
end Go.Proofs.YthcnojmldldpeaaGreatDoor
