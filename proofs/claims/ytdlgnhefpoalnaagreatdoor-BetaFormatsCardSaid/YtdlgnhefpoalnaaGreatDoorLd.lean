/- What the functions of package scan compute, as plain functions on lists of bytes; and plain laws on them. No condition. -/
import Derived.Test.YtdlgnhefpoalnaaGreatDoorLa
namespace Go.Proofs.YtdlgnhefpoalnaaGreatDoor
open Lib (hid)
open Go.RowKit
def zIu(c:Int):Bool:=c==9||c==32
def zGv(c:Int):Bool:=decide (48≤c)&&decide (c≤57)
def zIg(c:Int):Bool:=(decide (65≤c)&&decide (c≤90))||(decide (97≤c)&&decide (c≤122))
def markB(c:Int):Bool:=c==123||c==125||c==59
def wordB(c:Int):Bool:=!zIu c && !markB c && !(c==35)
def nameC(c:Int):Bool:=zIg c||zGv c||c==45||c==95||c==47||c==46
def zJd(l:List UInt8):Bool:=l.all fun b=>nameC b.toNat
def nameB(l:List UInt8):Bool:=match l with
 |[]=>false
 |c :: r=>decide (r.length≤14)&&zIg c.toNat&&zJd r
def zMj(c:Int):Bool:=c==9||c==10||(decide (32≤c)&&decide (c≤126))
def zEv(l:List UInt8):Bool:=l.all fun b=>zMj b.toNat
def flush(cur:List UInt8):List (List UInt8):=if cur=[]then []else [cur]
def zEg:List UInt8→List UInt8→List (List UInt8)
 |cur,[]=>flush cur
 |cur,c :: r=>if(c.toNat:Int)=10 then cur :: zEg [] r else zEg (cur++[c]) r
def zCs(l:List UInt8):List (List UInt8):=zEg [] l
def zBr(l:List UInt8):Int:=if 65536<l.length then 7 else if zEv l then 0 else 2
def tokGo:List UInt8→List UInt8→List (List UInt8)
 |cur,[]=>flush cur
 |cur,b :: r=>if(b.toNat:Int)=35 then flush cur else if zIu b.toNat then flush cur++tokGo [] r
   else if markB b.toNat then flush cur++[b] :: tokGo [] r else tokGo (cur++[b]) r
def tokLine(l:List UInt8):List (List UInt8):=tokGo [] l
def zEo:Int→List (List UInt8)→List (Int × List UInt8)
 |_,[]=>[]
 |n,l :: r=>(tokLine l).map (fun t=>(n,t))++zEo (n+1) r
def zDq(l:List UInt8):List (Int × List UInt8):=zEo 1 (zCs l)
def numGo:Int→List UInt8→Option Int
 |v,[]=>some v
 |v,b :: r=>if zGv b.toNat then numGo (v*10+(b.toNat - 48)) r else none
def zIn(l:List UInt8):Bool:=match l with
 |[]=>false
 |[_]=>true
 |b :: _=>decide (l.length≤10) && !((b.toNat:Int)==48)
def numOf(l:List UInt8):Option Int:=if zIn l then numGo 0 l else none
def numIn(l:List UInt8)(least most:Int):Option Int:=match numOf l with
 |none=>none
 |some v=>if least≤v∧v≤most then some v else none
def numV(o:Option Int):Int:=o.getD 0
theorem linesGo_len(l:List UInt8):∀cur,(zEg cur l).length≤l.length+1:=by
 induction l with
 |nil=>intro cur;simp only[zEg,flush];split<;>simp
 |cons c r ih=>
  intro cur;simp only[zEg];split
  ·have:=ih [];simp;omega
  ·have:=ih (cur++[c]);simp;omega
end Go.Proofs.YtdlgnhefpoalnaaGreatDoor
