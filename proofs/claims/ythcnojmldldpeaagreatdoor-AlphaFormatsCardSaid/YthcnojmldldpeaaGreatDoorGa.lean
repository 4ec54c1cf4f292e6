/- Plain lemmas that the walks share: strings as lists of bytes, an owned row that grows by one element, endings. No condition. -/
import Derived.Test.YthcnojmldldpeaaGreatDoorProg
import Derived.WalkSpells
import Derived.WalkLawsBesides
import Derived.Lib.Hide
import Derived.BigQuiet
namespace Go.Proofs.YthcnojmldldpeaaGreatDoor
open Lib (hid)
open Go.RowKit
theorem zAg{a b:Bool}(h:a=b):Ending.returned (.bool a)=.returned (.bool b):=by rw[h]
theorem zAc{k:IntKind}{a b:Int}(h:a=b):Ending.returned (.int k a)=.returned (.int k b):=by rw[h]
def str(l:List UInt8):ByteArray:=⟨l.toArray⟩
def strV(l:List UInt8):Value:=.string (str l)
def bytes(s:ByteArray):List UInt8:=s.data.toList
theorem str_bytes(s:ByteArray):str (bytes s)=s:=rfl
theorem zBq(l:List UInt8):bytes (str l)=l:=by simp[bytes,str]
theorem zCl(s:ByteArray):(bytes s).length=s.size:=by simp[bytes]
theorem zBx(l:List UInt8):(str l).size=l.length:=by rw[←zCl,zBq]
theorem zCf(s:ByteArray)(k:Nat)(h:k<s.size):(bytes s).drop k=s[k] :: (bytes s).drop (k+1):=by
 unfold bytes;rw[List.drop_eq_getElem_cons (by simpa using h)];rfl
theorem zFs(s:ByteArray)(k:Nat)(h:¬k<s.size):(bytes s).drop k=[] :=
 List.drop_eq_nil_of_le (by rw[zCl];omega)
def sub(l:List UInt8)(a k:Nat):List UInt8:=(l.drop a).take (k - a)
theorem sub_len(l:List UInt8)(a k:Nat)(h:k≤l.length):(sub l a k).length=k - a:=by simp[sub];omega
theorem sub_self(l:List UInt8)(a:Nat):sub l a a=[]:=by simp[sub]
theorem sub_snoc(s:ByteArray)(a k:Nat)(ha:a≤k)(h:k<s.size):sub (bytes s) a (k+1)=sub (bytes s) a k++[s[k]]:=by
 unfold sub;have hl:k - a<((bytes s).drop a).length:=by rw[List.length_drop,zCl];omega
 rw[show k+1 - a=(k - a)+1 from by omega,List.take_succ_eq_append_getElem hl]
 congr 2
 rw[List.getElem_drop];have e:a+(k - a)=k:=by omega
 simp only[e];rfl
theorem ext_eq(s:ByteArray)(a k:Nat):s.extract a k=str (sub (bytes s) a k):=by
 apply ByteArray.ext;simp[str,sub,bytes,ByteArray.data_extract];apply Array.ext';simp[List.extract_eq_take_drop]
theorem ext_v(s:ByteArray)(a k:Nat):Value.string (s.extract a k)=strV (sub (bytes s) a k):=by rw[ext_eq];rfl
theorem zHz(w:World)(cs:Array Value)(e:TypeId)(j:Nat):(w.alloc (.cells cs e)).cell? ((⟨w.heap.size,0,none⟩:Addr).add j)=cs[j]?:=by
 have:((⟨w.heap.size,0,none⟩:Addr).add j)=⟨w.heap.size,j,none⟩:=by
  unfold Addr.add;split
  ·next h=>subst h;rfl
  ·simp
 rw[this,World.cell?_alloc_at _ _ _ _ rfl]
theorem zCq{P:Program}{ops:Array Oper}{rest:List Oper}{o:Oper}{a:Act}{Q:Exit→Act→World→Prop}(w:World)(hgd:o.guard=none)(s x:Operand)(t:TypeId)
  (ho:o.op=.call { callee:=.builtin .append,args:=#[s,x],argTypes:=#[t,t] })
  (base:Nat) (e:TypeId) (i:TypeInfo) (z:Value) (size bts:Nat) (ht:P.underlying t=some (.slice e)) (hi:P.info? e=some i) (hz:i.zero=some z)
  (hsize:i.size=size) (hby:i.bytes=bts) (hzs:z.cells.size=size) (hsz:0<size)
  (v:Value) (n:Nat) (xs:List Value) (hs:a.eval s=v) (hown:w.ownsRow base e size v n xs)
  (cs:Array Value) (hx:a.eval x=.slice (some ⟨w.heap.size,0,none⟩) 1 1) (hl:cs.size=size) (h1:∀u∈cs.toList,u.oneCell' = true)
  (hbytes:(n+1)*bts≤140737488355328) (hpos:1≤bts) (hbase:base≤w.heap.size)
  (h:∀v' w', w'.ownsRow base e size v' (n+1) (xs++cs.toList)→Below base w w' → wpList P ops Q rest (a.put o.dst v') w') :
  wpList P ops Q (o :: rest) a (w.alloc (.cells cs e)):=by
 refine wpList_append_own _ hgd s x t ho base e i z size bts ht hi hz hsize hby hzs hsz v n xs hs (hown.alloc _) ⟨w.heap.size,0,none⟩ 1 1 cs.toList hx (by simp[hl]) ?_ h1 ?_ hbytes (by simp;omega) ?_
 ·intro j u hu
  rw[zHz];simpa using hu
 ·have:=Nat.le_mul_of_pos_right (n+1) hpos
  simp only[maxLen];omega
 ·intro v' w' hown' hg _
  refine h v' w' hown' ?_;refine((Below.refl base w).alloc hbase _).grown hg (by simp;omega) ?_;intro k hk;exact(hown.lt k hk).1
def Slc(w:World)(B size:Nat)(v:Value)(n:Nat)(xs:List Value):Prop :=
 ∃A c,v=.slice A n c∧n≤maxLen∧xs.length=n*size∧(A=none→c=0)∧(0<n→∃g o,A=some ⟨g,o,none⟩∧g<B∧∀j u,xs[j]? = some u→w.cell? ⟨g,o+j,none⟩=some u)
theorem Slc.of_own{w:World}{base:Nat}{e:TypeId}{size n:Nat}{v:Value}{xs:List Value}(h:w.ownsRow base e size v n xs):Slc w w.heap.size size v n xs:=by
 obtain⟨hl,h⟩:=h;rcases h with⟨rfl,rfl⟩|⟨g,cap,cur,rfl,hb,hh,hn,hm,hc,ht⟩
 ·exact⟨none,0,rfl,Nat.zero_le _,hl,fun _=>rfl,fun h=>absurd h (by omega)⟩
 ·refine⟨_,cap,rfl,by omega,hl,fun h=>(by cases h),fun _=>⟨g,0,rfl,?_,fun j u hu=>?_⟩⟩
  ·rcases Nat.lt_or_ge g w.heap.size with h|h
   ·exact h
   ·rw[Array.getElem?_eq_none h]at hh;cases hh
  ·rw[←ht,List.getElem?_take]at hu
   split at hu
   ·simp[World.cell?,hh]at hu⊢;exact hu
   ·cases hu
theorem Slc.nil{w:World}{B size:Nat}:Slc w B size (.slice none 0 0) 0 []:=⟨none,0,rfl,Nat.zero_le _,by simp,fun _=>rfl,fun h=>absurd h (by omega)⟩
theorem Slc.below{w w' : World}{B size n:Nat}{v:Value}{xs:List Value}(h:Slc w B size v n xs)(hb:Below B w w'):Slc w' B size v n xs:=by
 obtain⟨A,c,rfl,hm,hl,hA,h⟩:=h;refine⟨A,c,rfl,hm,hl,hA,fun hn=>?_⟩;obtain⟨g,o,rfl,hg,hc⟩:=h hn;exact⟨g,o,rfl,hg,fun j u hu=>(hb.cell (p:=⟨g,o+j,none⟩) hg).trans (hc j u hu)⟩
theorem Slc.mono{w:World}{B B' size n:Nat}{v:Value}{xs:List Value}(h:Slc w B size v n xs)(hB:B≤B'):Slc w B' size v n xs:=by
 obtain⟨A,c,rfl,hm,hl,hA,h⟩:=h;refine⟨A,c,rfl,hm,hl,hA,fun hn=>?_⟩;obtain⟨g,o,rfl,hg,hc⟩:=h hn;exact⟨g,o,rfl,by omega,hc⟩
theorem slc_form{w:World}{B size n:Nat}{v:Value}{xs:List Value}(h:Slc w B size v n xs):∃A c,v=.slice A n c:=by
 obtain⟨A,c,e,_⟩:=h;exact⟨A,c,e⟩
theorem addr_add(g o j:Nat):(⟨g,o,none⟩:Addr).add j=⟨g,o+j,none⟩:=by
 unfold Addr.add;split
 ·next h=>subst h;rfl
 ·rfl
theorem zGq(w:World)(q:Nat):Below w.heap.size w (w.drewN q):=⟨rfl,rfl,rfl,Nat.le_refl _,fun _ _=>rfl⟩
end Go.Proofs.YthcnojmldldpeaaGreatDoor
