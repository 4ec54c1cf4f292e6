/- The walk of the fixed examples of netverifylaw1: they give the documented results. No condition. -/
import Derived.Test.YtdlgnhefpoalnaaGreatDoorLf
namespace Go.Proofs.YtdlgnhefpoalnaaGreatDoor
open Lib (hid)
open Go.RowKit
theorem own_form{w:World}{base:Nat}{e:TypeId}{size n:Nat}{v:Value}{xs:List Value}(h:w.ownsRow base e size v n xs)(hn:0<n) :
  ∃g cap,v=.slice (some ⟨g,0,none⟩) n cap∧base≤g∧g<w.heap.size∧∀j u,xs[j]? = some u→w.cell? ⟨g,j,none⟩=some u:=by
 obtain⟨A,c,e1,_,_,_,h2⟩:=Slc.of_own h;rcases h.2 with⟨_,h0⟩|⟨g,cap,cur,rfl,hb,hh,_⟩
 ·omega
 ·obtain⟨g', o', e2,hg,hc⟩:=h2 hn
  injection e1 with e1 _ _
  rw[←e1]at e2;injection e2 with e2
  injection e2 with e3 e4
  subst e3 e4;exact⟨g,cap,rfl,hb,hg,fun j u hu=>by simpa using hc j u hu⟩
end Go.Proofs.YtdlgnhefpoalnaaGreatDoor
