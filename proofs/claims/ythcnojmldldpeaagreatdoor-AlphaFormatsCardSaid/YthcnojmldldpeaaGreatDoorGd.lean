/- What the functions of package scan compute, as plain functions on lists of bytes; and plain laws on them. No condition. -/
import Derived.Test.YthcnojmldldpeaaGreatDoorGa
namespace Go.Proofs.YthcnojmldldpeaaGreatDoor
open Lib (hid)
open Go.RowKit
def zGt(c:Int):Bool:=c==9||c==32
def zFv(c:Int):Bool:=decide (48≤c)&&decide (c≤57)
def zGh(c:Int):Bool:=(decide (65≤c)&&decide (c≤90))||(decide (97≤c)&&decide (c≤122))
def nameC(c:Int):Bool:=zGh c||zFv c||c==45||c==95||c==47||c==46
def zHf(l:List UInt8):Bool:=l.all fun b=>nameC b.toNat
def nameB(l:List UInt8):Bool:=match l with
 |[]=>false
 |c :: r=>decide (r.length≤14)&&zGh c.toNat&&zHf r
def zJx(c:Int):Bool:=c==9||c==10||(decide (32≤c)&&decide (c≤126))
def zEe(l:List UInt8):Bool:=l.all fun b=>zJx b.toNat
def flush(cur:List UInt8):List (List UInt8):=if cur=[]then []else [cur]
def zDo:List UInt8→List UInt8→List (List UInt8)
 |cur,[]=>flush cur
 |cur,c :: r=>if(c.toNat:Int)=10 then cur :: zDo [] r else zDo (cur++[c]) r
def zFz(l:List UInt8):List (List UInt8):=zDo [] l
def zBs(l:List UInt8):Int:=if 65536<l.length then 7 else if zEe l then 0 else 2
def zBg(cm:Int):Option (List UInt8)→List UInt8→List (List UInt8)
 |none,[]=>[]
 |some x,[]=>[x]
 |none,b :: r=>if zGt b.toNat then zBg cm none r else if(b.toNat:Int)=cm then []else zBg cm (some [b]) r
 |some x,b :: r=>if zGt b.toNat then x :: zBg cm none r else zBg cm (some (x++[b])) r
def zDv(cm:Int)(l:List UInt8):List (List UInt8):=zBg cm none l
def numGo:Int→List UInt8→Option Int
 |v,[]=>some v
 |v,b :: r=>if zFv b.toNat then numGo (v*10+(b.toNat - 48)) r else none
def zJh(l:List UInt8):Bool:=match l with
 |[]=>false
 |[_]=>true
 |b :: _=>decide (l.length≤10) && !((b.toNat:Int)==48)
def numOf(l:List UInt8):Option Int:=if zJh l then numGo 0 l else none
def numIn(l:List UInt8)(least most:Int):Option Int:=match numOf l with
 |none=>none
 |some v=>if least≤v∧v≤most then some v else none
def numV(o:Option Int):Int:=o.getD 0
theorem linesGo_len(l:List UInt8):∀cur,(zDo cur l).length≤l.length+1:=by
 induction l with
 |nil=>intro cur;simp only[zDo,flush];split<;>simp
 |cons c r ih=>
  intro cur;simp only[zDo];split
  ·have:=ih [];simp;omega
  ·have:=ih (cur++[c]);simp;omega
end Go.Proofs.YthcnojmldldpeaaGreatDoor
