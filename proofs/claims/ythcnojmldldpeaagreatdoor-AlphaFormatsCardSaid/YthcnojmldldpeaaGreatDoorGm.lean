/- The state in the middle of the walk of the parser's method query: the query's own block, the result's, the parser. -/
import Derived.Test.YthcnojmldldpeaaGreatDoorGl
import Derived.Deep.AppendLies
namespace Go.Proofs.YthcnojmldldpeaaGreatDoor
open Lib (hid)
open Go.RowKit
theorem zBj{B b:Nat}{w w' : World}(h:w.grownBy w' (some b))(hB:B≤b)(hw:B≤w.heap.size):Below B w w' :=
 ⟨h.os,h.tape,h.output,h.size,fun k hk=>h.block k (by omega) (fun e=>by cases e;omega)⟩
theorem zEj{w w1 w2:World}{row:Option Nat}(h:w.grownBy w1 row)(hb:Below w.heap.size w1 w2):w.grownBy w2 row :=
 ⟨hb.os.trans h.os,hb.tape.trans h.tape,hb.output.trans h.output,Nat.le_trans h.size hb.size,fun k hk hr=>(hb.block k hk).trans (h.block k hk hr)⟩
theorem far_box{w w1:World}{b:Nat}{x y:Value}{t:TypeId}(h:(w.alloc (.cells #[x,y] t)).grownBy w1 (some b))(hb:b<w.heap.size) :
  w.heap.size+1≤w1.heap.size∧w1.cell? ⟨w.heap.size,0,none⟩=some x∧w1.cell? ⟨w.heap.size,1,none⟩=some y∧∀j,w1.frozen? ⟨w.heap.size,j,none⟩=false:=by
 have hne:some w.heap.size≠some b:=fun e=>by injection e;omega
 refine⟨by have:=h.size;simpa using this,?_,?_,fun j=>?_⟩
 ·rw[h.cell_far ⟨w.heap.size,0,none⟩ (by simp) hne,zDf];rfl
 ·rw[h.cell_far ⟨w.heap.size,1,none⟩ (by simp) hne,zDf];rfl
 ·rw[h.frozen_far ⟨w.heap.size,j,none⟩ (by simp) hne];exact World.frozen?_alloc_at _ _ _ _ rfl
theorem far_below{w1 w2:World}{g:Nat}{x y:Value}(hb:Below w1.heap.size w1 w2)(hz:g+1≤w1.heap.size)(c0:w1.cell? ⟨g,0,none⟩=some x)(c1:w1.cell? ⟨g,1,none⟩=some y)(f:∀j,w1.frozen? ⟨g,j,none⟩=false) :
  g+1≤w2.heap.size∧w2.cell? ⟨g,0,none⟩=some x∧w2.cell? ⟨g,1,none⟩=some y∧∀j,w2.frozen? ⟨g,j,none⟩=false :=
 ⟨Nat.le_trans hz hb.size,(hb.cell (p:=⟨g,0,none⟩) (by show g<_;omega)).trans c0,(hb.cell (p:=⟨g,1,none⟩) (by show g<_;omega)).trans c1,fun j=>(hb.frozen (p:=⟨g,j,none⟩) (by show g<_;omega)).trans (f j)⟩
theorem far_on{w1 w2:World}{g b:Nat}{x y:Value}(h:w1.grownBy w2 (some b))(hz:g+1≤w1.heap.size)(hne:g≠b)(c0:w1.cell? ⟨g,0,none⟩=some x)(c1:w1.cell? ⟨g,1,none⟩=some y)(f:∀j,w1.frozen? ⟨g,j,none⟩=false) :
  g+1≤w2.heap.size∧w2.cell? ⟨g,0,none⟩=some x∧w2.cell? ⟨g,1,none⟩=some y∧∀j,w2.frozen? ⟨g,j,none⟩=false:=by
 have hn:some g≠some b:=fun e=>hne (by injection e)
 exact⟨Nat.le_trans hz h.size,(h.cell_far ⟨g,0,none⟩ hz hn).trans c0,(h.cell_far ⟨g,1,none⟩ hz hn).trans c1,fun j=>(h.frozen_far ⟨g,j,none⟩ hz hn).trans (f j)⟩
end Go.Proofs.YthcnojmldldpeaaGreatDoor
namespace Go.Proofs.YthcnojmldldpeaaGreatDoor
open Lib (hid)
open Go.RowKit
end Go.Proofs.YthcnojmldldpeaaGreatDoor
