/- The walks of the parser's methods accept, expect, next, and of the reader's is, word, take. No condition. -/
import Derived.Test.YthcnojmldldpeaaGreatDoorGk
namespace Go.Proofs.YthcnojmldldpeaaGreatDoor
open Lib (hid)
open Go.RowKit
theorem zDi(w:World)(b j:Nat)(u:Value):w.grownBy (w.setCell ⟨b,j,none⟩ u) (some b) :=
 ⟨rfl,rfl,rfl,by simp[World.setCell],fun k _ hk=>Below.heap_setCell _ _ _ k (fun e=>hk (by rw[e]))⟩
theorem zFm{w w' : World}{B:Nat}(hB:w.heap.size≤B)(h:Below B w w')(row:Option Nat):w.grownBy w' row:=⟨h.os,h.tape,h.output,h.size,fun k hk _=>h.block k (by omega)⟩
theorem zCv{w:World}{b:Nat}{o:Obj}(h:w.heap[b]? = some o):b<w.heap.size:=by
 rcases Nat.lt_or_ge b w.heap.size with h' | h'
 ·exact h'
 ·rw[Array.getElem?_eq_none h']at h;cases h
theorem Slc.grown{w w' : World}{B size n:Nat}{v:Value}{xs:List Value}(h:Slc w B size v n xs){row:Option Nat}(hg:w.grownBy w' row)
  (hr:∀b,row=some b→∀g o c,v=.slice (some ⟨g,o,none⟩) n c→0<n→g≠b):Slc w' B size v n xs:=by
 obtain⟨A,c,rfl,hm,hl,hA,h⟩:=h;refine⟨A,c,rfl,hm,hl,hA,fun hn=>?_⟩;obtain⟨g,o,rfl,hgB,hc⟩:=h hn;refine⟨g,o,rfl,hgB,fun j u hu=>?_⟩;exact hg.cell (hc j u hu) (fun e=>hr g e.symm g o c rfl hn rfl)
end Go.Proofs.YthcnojmldldpeaaGreatDoor
