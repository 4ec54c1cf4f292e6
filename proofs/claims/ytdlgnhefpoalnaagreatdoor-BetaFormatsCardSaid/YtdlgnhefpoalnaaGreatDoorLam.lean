/- Beta, plain: what Format writes of numbers, names, addresses, prefixes, wildcards, ports, protocols is read back. No condition. -/
import Derived.Test.YtdlgnhefpoalnaaGreatDoorLaa
set_option maxHeartbeats 2000000
set_option maxRecDepth 100000
namespace Go.Proofs.YtdlgnhefpoalnaaGreatDoor
open Lib (hid)
open Go.RowKit
theorem Tryz.sizeBuilder:(Tryz.prog.info? 92).map (·.size)=some 2:=by kernel_rfl
theorem Tryz.infoByte:(Tryz.prog.info? 5).map (fun i=>(i.zero,i.size,i.bytes))=some (some (.int .u8 0),1,1):=by kernel_rfl
structure HoldsB (T:TypeId) (n:Nat):Prop where
 lies:liesAt Tryz.prog Tryz.prog.depth T (n / Tryz.prog.cellsOf T) 0 92 1=true
 ne:T≠5
theorem holdsT:HoldsB 94 3:=⟨by kernel_rfl,by decide⟩
structure FK (g:Nat) (w w' : World):Prop where
 os:w'.os=w.os
 tape:w'.tape=w.tape
 output:w'.output=w.output
 size:w.heap.size≤w'.heap.size
 low:∀k,k<w.heap.size→k<g→w'.heap[k]? = w.heap[k]?
 high:∀k,k<w.heap.size→k≠g→(∀cs fr,w.heap[k]?≠some (.cells cs 5 fr))→w'.heap[k]? = w.heap[k]?
section
variable {g : Nat} {w w' w'' : World}
theorem FK.refl(g:Nat)(w:World):FK g w w:=⟨rfl,rfl,rfl,yI _,fun _ _ _=>rfl,fun _ _ _ _=>rfl⟩
theorem FK.trans(h:FK g w w')(h' : FK g w' w''):FK g w w'' :=
 ⟨h'.os.trans h.os,h'.tape.trans h.tape,h'.output.trans h.output,yJ h.size h'.size,fun k hk hg=>(h'.low k (Nat.lt_of_lt_of_le hk h.size) hg).trans (h.low k hk hg),
  fun k hk hg hn=>(h'.high k (Nat.lt_of_lt_of_le hk h.size) hg (by rw[h.high k hk hg hn];exact hn)).trans (h.high k hk hg hn)⟩
theorem FK.of_below(h:Below w.heap.size w w'):FK g w w' := ⟨h.os,h.tape,h.output,h.size,fun k hk _=>h.block k hk,fun k hk _ _=>h.block k hk⟩
theorem FK.set(w:World)(g j:Nat)(v:Value):FK g w (w.setCell ⟨g,j,none⟩ v) :=
 have h:=zBb w g j v
 ⟨h.os,h.tape,h.output,h.size,fun k hk hg=>h.block k hk (fun e=>by cases e;exact absurd hg (Nat.lt_irrefl _)),fun k hk hg _=>h.block k hk (fun e=>hg (by cases e;rfl))⟩
theorem FK.row{v:Value}{n:Nat}{xs:List Value}(hown:w.ownsRow g 5 1 v n xs)(h:w.grownBy w' v.ownBlock):FK g w w' := by
 refine⟨h.os,h.tape,h.output,h.size,fun k hk hg=>h.block k hk fun e=>?_,fun k hk hg hn=>h.block k hk fun e=>?_⟩
 ·have:=(hown.lt k e.symm).1;omega
 ·rcases hown.2 with⟨rfl,_⟩|⟨b,cap,cur,rfl,_,hb,_⟩
  ·cases e
  ·simp only[Value.ownBlock,Option.some.injEq]at e
   subst e;exact hn _ _ hb
theorem FK.below(h:FK g w w')(hg:g≤w.heap.size):Below g w w' := ⟨h.os,h.tape,h.output,h.size,fun k hk=>h.low k (by omega) hk⟩
theorem HasC.fk{T:TypeId}{b:Nat}{cs:Array Value}(h:HasC T b cs w)(hf:FK g w w')(hb:b≠g)(hT:T≠5):HasC T b cs w' :=
 (hf.high b (zBj h) hb fun cs' fr e=>by rw[h]at e;injection e with e;injection e with _ e _;exact hT e).trans h
end
def FBx(T:TypeId)(rest:List Value)(g:Nat)(s:List UInt8)(w:World):Prop :=
 ∃p v,(p=.pointer none∨p=.pointer (some ⟨g,0,none⟩))∧HasC T g (p :: v :: rest).toArray w∧w.ownsRow g 5 1 v s.length (Lib.byteCells s)
def FBu(T:TypeId)(rest:List Value)(g:Nat)(s:List UInt8)(w:World):Prop :=
 ∃v,HasC T g (.pointer (some ⟨g,0,none⟩) :: v :: rest).toArray w∧w.ownsRow g 5 1 v s.length (Lib.byteCells s)
theorem FBu.x{T:TypeId}{rest:List Value}{g:Nat}{s:List UInt8}{w:World}(h:FBu T rest g s w):FBx T rest g s w:=by
 obtain⟨v,h1,h2⟩:=h;exact⟨_,v,.inr rfl,h1,h2⟩
theorem HasC.set{T:TypeId}{g:Nat}{cs:Array Value}{w:World}(h:HasC T g cs w)(j:Nat)(v:Value):HasC T g (cs.setIfInBounds j v) (w.setCell ⟨g,j,none⟩ v):=by
 unfold HasC at h⊢;simp[World.setCell,Array.getElem?_modify,h]
theorem row_set{T:TypeId}{g j n:Nat}{cs:Array Value}{w:World}{v u:Value}{xs:List Value}(h:HasC T g cs w)(hown:w.ownsRow g 5 1 v n xs)(hT:T≠5):(w.setCell ⟨g,j,none⟩ u).ownsRow g 5 1 v n xs :=
 hown.kept (row:=some g) ⟨rfl,rfl,rfl,by simp[World.setCell],fun k _ hk=>Below.heap_setCell _ _ _ _ (fun e=>hk (by simp[e]))⟩ (Or.inr (Lib.ownBlock_ne hown h hT))
theorem FBx.keep{T:TypeId}{rest:List Value}{g:Nat}{s:List UInt8}{w w' : World}(h:FBx T rest g s w)(hb:Below w.heap.size w w'):FBx T rest g s w' := by
 obtain⟨p,u,hp,hc,ho⟩:=h;refine⟨p,u,hp,hc.keep hb,ho.kept (row:=none) (zDf (yI _) hb none) ?_⟩;cases u.ownBlock with
 |none=>exact Or.inl rfl
 |some k=>exact Or.inr (fun h=>by cases h)
section
variable {T : TypeId} {rest : List Value} {g : Nat} {s : List UInt8} {w : World}
theorem bxCheck_any(hT:HoldsB T (rest.length+2))(h:FBx T rest g s w) :
  Calls Tryz.prog 239 #[.pointer (some ⟨g,0,none⟩)] w fun e w' => e=.returned (.tuple #[])∧FBu T rest g s w' ∧ FK g w w' := by
 obtain⟨j,hj,hjs⟩:=Option.map_eq_some_iff.1 Tryz.sizeBuilder;obtain⟨p,v,hp,hc,hown⟩:=h;rcases hp with rfl|rfl
 ·have h0:w.cell? ⟨g,0,none⟩=some (.pointer none):=by rw[hc.cell];rfl
  have hfz:w.frozen? ⟨g,0,none⟩=false:=hc.frz 0;have hsh:w.shape? g=some (T,rest.length+2):=by unfold World.shape?;rw[show w.heap[g]? = _ from hc];simp
  have HR:Hid (FBu T rest g s (w.setCell ⟨g,0,none⟩ (.pointer (some ⟨g,0,none⟩)))∧FK g w (w.setCell ⟨g,0,none⟩ (.pointer (some ⟨g,0,none⟩)))) :=
   hid ⟨⟨v,by simpa using hc.set 0 (.pointer (some ⟨g,0,none⟩)),row_set hc hown hT.ne⟩,FK.set w g 0 _⟩
  have HT:=hid hT;clear hc hown hT;go_enter Tryz.func239,Tryz.ntmps239;go_wp2;rw[Lib.run_to_unsafe w ⟨g,0,none⟩ Tryz.underlying89 Tryz.underlying305 hj (by rw[hjs];decide) hsh (Nat.zero_lt_succ _)];simp only[Result.andThen];rw[Oper.upon_value];go_wp2;rw[run_callFunc_extern Tryz.func263 (by kernel_rfl) (by kernel_rfl) (by kernel_rfl) (e:=Extern.AbiNoEscape.same) (by kernel_rfl)];rw[Lib.run_noEscape];simp only[Result.andThen];rw[Oper.upon_value];go_wp2;rw[Lib.run_from_unsafe w ⟨g,0,none⟩ Tryz.underlying305 Tryz.underlying89 hj hsh HT.out.lies];simp only[Result.andThen];rw[Oper.upon_value];go_wp2;go_end0;exact⟨rfl,HR.out⟩
 ·have h0:w.cell? ⟨g,0,none⟩=some (.pointer (some ⟨g,0,none⟩)):=by rw[hc.cell];rfl
  have HR:Hid (FBu T rest g s w):=hid ⟨v,hc,hown⟩;clear hc hown hT;go_enter Tryz.func239,Tryz.ntmps239;go_wp2;rw[Lib.run_neq_ptr_same w _ Tryz.underlying89 hj];go_wp2;go_end0;exact⟨rfl,HR.out,FK.refl _ _⟩
theorem bxByte_any(hT:HoldsB T (rest.length+2))(h:FBx T rest g s w)(c:UInt8)(hlen:s.length+1≤140737488355328)(hg:g≤w.heap.size) :
  Calls Tryz.prog 185 #[.pointer (some ⟨g,0,none⟩),.int .u8 c.toNat] w fun e w' => e=.returned .nilIface∧FBu T rest g (s++[c]) w' ∧ FK g w w' := by
 obtain⟨i0,hi,hz0,hz1,hz2⟩:=info_parts Tryz.infoByte;go_enter Tryz.func185,Tryz.ntmps185;go_wp2_with fail;refine(bxCheck_any hT h).mono ?_;rintro e w1 ⟨rfl,⟨v,hc,hown⟩,hk⟩;have c0:w1.cell? ⟨g,0,none⟩=some (.pointer (some ⟨g,0,none⟩)):=by rw[hc.cell];rfl
 have c1:w1.cell? ⟨g,1,none⟩=some v:=by rw[hc.cell];rfl
 have hs:=hk.size;go_wp2_with (at_builtin;refine wpList_append_own _ rfl _ _ 90 rfl g 5 i0 (.int .u8 0) 1 1 Tryz.underlying90 hi hz0 hz1 hz2 rfl (by decide) _ _ _ rfl (hown.alloc _) ⟨w1.heap.size,0,none⟩ 1 1 [.int .u8 c.toNat] rfl rfl ?c1 ?c2 ?c3 ?c4 ?c5 ?_);case c1=>
  intro j u hj
  match j,hj with
  |0,hj=>simp at hj;subst hj;simp[Addr.add]
 case c2=>intro u hu;simp at hu;subst hu;rfl
 case c3=>unfold maxLen;omega
 case c4=>omega
 case c5=>simp;omega
 intro v' w2 hown' hgrow _;have hk2:FK g (w1.alloc (.cells #[.int .u8 c.toNat] 5)) w2:=FK.row (hown.alloc _) hgrow
 have hc2:HasC T g (.pointer (some ⟨g,0,none⟩) :: v :: rest).toArray w2:=by
  refine(hgrow.block g (by have:=zBj hc;simp;omega) (fun e=>Lib.ownBlock_ne hown hc hT.ne e.symm)).trans ?_;rw[Lib.alloc_old w1 _ g (zBj hc)];exact hc
 have d1:w2.cell? ⟨g,1,none⟩=some v:=by rw[hc2.cell];rfl
 have f1:w2.frozen? ⟨g,1,none⟩=false:=hc2.frz 1
 obtain⟨b,cap,rfl⟩:∃b cap,v' = .slice (some ⟨b,0,none⟩) (s.length+1) cap:=by
  rcases hown'.2 with⟨_,h0⟩|⟨b,cap,cur,hv,_⟩
  ·omega
  ·exact⟨b,cap,hv⟩
 go_wp2;go_ret;refine⟨rfl,⟨_,by simpa using hc2.set 1 _,?_⟩,((hk.trans (FK.of_below ((Below.refl _ _).alloc (yI _) _))).trans hk2).trans (FK.set _ _ _ _)⟩;have:=row_set (j:=1) (u:=.slice (some ⟨b,0,none⟩) (s.length+1) cap) hc2 hown' hT.ne;simpa [Lib.byteCells] using this
theorem zIs(hT:HoldsB T (rest.length+2))(h:FBx T rest g s w)(l:List UInt8)(hlen:s.length+l.length≤140737488355328)(hg:g≤w.heap.size) :
  Calls Tryz.prog 183 #[.pointer (some ⟨g,0,none⟩),.string (str l)] w fun e w' => e=.returned (.tuple #[.int .i64 l.length,.nilIface])∧FBu T rest g (s++l) w' ∧ FK g w w' := by
 obtain⟨i0,hi,hz0,hz1,hz2⟩:=info_parts Tryz.infoByte;have hsz:(str l).size=l.length:=zBa l;go_enter Tryz.func183,Tryz.ntmps183;go_wp2_with fail;refine(bxCheck_any hT h).mono ?_;rintro e w1 ⟨rfl,⟨v,hc,hown⟩,hk⟩;have c0:w1.cell? ⟨g,0,none⟩=some (.pointer (some ⟨g,0,none⟩)):=by rw[hc.cell];rfl
 have c1:w1.cell? ⟨g,1,none⟩=some v:=by rw[hc.cell];rfl
 have hs:=hk.size;go_wp2_with (at_builtin;refine Lib.wpList_append_own_string _ rfl _ _ 90 9 rfl g 5 i0 Tryz.underlying90 Tryz.underlying9 hi hz0 hz1 hz2 _ _ _ rfl hown (str l) rfl ?c3 ?c4 ?c5 ?_);case c3=>unfold maxLen;omega
 case c4=>omega
 case c5=>omega
 intro v' w2 hown' hgrow _;have hk2:FK g w1 w2:=FK.row hown hgrow;have hc2:HasC T g (.pointer (some ⟨g,0,none⟩) :: v :: rest).toArray w2:=(hgrow.block g (zBj hc) (fun e=>Lib.ownBlock_ne hown hc hT.ne e.symm)).trans hc;have d1:w2.cell? ⟨g,1,none⟩=some v:=by rw[hc2.cell];rfl
 have f1:w2.frozen? ⟨g,1,none⟩=false:=hc2.frz 1
 obtain⟨ao,n', cap,rfl⟩:∃ao n' cap,v' = .slice ao n' cap:=by
  rcases hown'.2 with⟨hv,_⟩|⟨b,cap,cur,hv,_⟩
  ·exact⟨_,_,_,hv⟩
  ·exact⟨_,_,_,hv⟩
 go_wp2;go_ret2;refine⟨rfl,⟨_,by simpa using hc2.set 1 _,?_⟩,(hk.trans hk2).trans (FK.set _ _ _ _)⟩;have:=row_set (j:=1) (u:=.slice ao n' cap) hc2 hown' hT.ne;simpa [Lib.byteCells,Lib.strCells,str] using this
end
section
variable {T : TypeId} {rest : List Value} {g : Nat} {s : List UInt8} {w : World}
theorem bxLen_any(h:FBx T rest g s w):Calls Tryz.prog 38 #[.pointer (some ⟨g,0,none⟩)] w fun e w' => e=.returned (.int .i64 s.length)∧w' = w:=by
 obtain⟨p,v,-,hc,hown⟩:=h
 obtain⟨ao,cap,rfl⟩:∃ao cap,v=.slice ao s.length cap:=by
  rcases hown.2 with⟨hv,h0⟩|⟨b,cap,cur,hv,_⟩
  ·exact⟨none,0,by rw[hv,h0]⟩
  ·exact⟨_,_,hv⟩
 have c1:w.cell? ⟨g,1,none⟩=some (.slice ao s.length cap):=by rw[hc.cell];rfl
 clear hc hown;go_enter Tryz.func38,Tryz.ntmps38;go_wp2;go_ret;exact⟨rfl,rfl⟩
theorem bytePtr:Tryz.prog.underlying 164=some (.pointer 5):=by kernel_rfl
theorem byteCell:Tryz.prog.cellsOf 5=1:=by kernel_rfl
theorem bxStr_any(h:FBx T rest g s w)(h0:s≠[]):Calls Tryz.prog 39 #[.pointer (some ⟨g,0,none⟩)] w fun e w' => e=.returned (.string (str s))∧Below g w w' := by
 obtain⟨p,v,-,hc,hown⟩:=h;have hl0:s.length≠0:=by simpa using h0
 obtain⟨b,cap,cur,rfl,hgb,hb,hnc,hcm,hcs,htake⟩:∃b cap cur,v=.slice (some ⟨b,0,none⟩) s.length cap∧g≤b∧w.heap[b]? = some (.cells cur 5 (0,0))∧s.length≤cap∧cap≤maxLen∧cur.size=cap*1∧cur.toList.take (s.length*1)=Lib.byteCells s:=by
  rcases hown.2 with⟨_,hz⟩|⟨b,cap,cur,hv,r⟩
  ·exact absurd hz hl0
  ·exact⟨b,cap,cur,hv,r⟩
 have c1:w.drew.cell? ⟨g,1,none⟩=some (.slice (some ⟨b,0,none⟩) s.length cap):=by
  show w.cell? _=_;rw[hc.cell];rfl
 have hSD:(Builtin.unsafeSliceData_ #[90] 164 #[.slice (some ⟨b,0,none⟩) s.length cap]).run Tryz.prog w.drew=.ok (.pointer (some ⟨b,0,none⟩)) w.drew :=
  Lib.run_unsafeSliceData_row _ _ _ _ _ _ (by omega)
 have hUS:(Builtin.unsafeString_ #[164,3] 9 #[.pointer (some ⟨b,0,none⟩),.int .i64 s.length]).run Tryz.prog w.drew=.ok (.string (str s)) (w.drew.freeze ⟨b,0,none⟩ s.length):=by
  refine Lib.run_unsafeString_row w.drew 164 3 9 5 bytePtr byteCell b cur.size (by have hg' : w.drew.heap[b]? = some (.cells cur 5 (0,0)):=hb;simp[World.shape?,hg']) s h0 (by omega) (by unfold maxLen at hcm;omega) ?_;intro j x hx;have:=hown.cells (g:=b) rfl j (.int .u8 x.toNat) (by simp[Lib.byteCells,hx]);exact this
 clear hc hown hb htake;have mixed:Tryz.prog.follows .mixedOrders=true:=by kernel_rfl
 go_enter Tryz.func39,Tryz.ntmps39;go_wp2_with fail
 go_region_o
 all_goals (go_wp2_with fail;go_ret;exact⟨rfl,Lib.below_freeze (Below.drew (Below.refl g w)) (p:=⟨b,0,none⟩) hgb _⟩)
end
def stn(ws:List (List UInt8)):Nd:=.mk 0 ws false []
def bln(ws:List (List UInt8))(ks:List Nd):Nd:=.mk 0 ws true ks
def joinW:List (List UInt8)→List UInt8
 |[]=>[]
 |x :: r=>x++r.flatMap fun y=>32 :: y
def ind:Nat→List UInt8
 |0=>[]
 |d+1=>ind d++[32,32]
def lineW(d:Nat)(ws:List (List UInt8))(e:List UInt8):List UInt8:=ind d++joinW ws++e++[10]
mutual
def textL(d:Nat):List Nd→List UInt8
 |[]=>[]
 |n :: r=>textN d n++textL d r
def textN(d:Nat):Nd→List UInt8
 |.mk _ ws false _=>lineW d ws [59]
 |.mk _ ws true ks=>lineW d ws [32,123]++textL (d+1) ks++lineW d [] [125]
end
def decI(n:Int):List UInt8:=dec n.toNat
def optN(c:Bool)(n:Nd):List Nd:=if c then [n]else []
def nameN(w x:List UInt8):List Nd:=optN (!x.isEmpty) (stn [w,x])
def sysP(k:Nat)(r:Rt):List Nd:=match k with
 |0=>[stn [[104,111,115,116,45,110,97,109,101],r.name]]
 |_=>optN (!(r.asn==0)) (stn [[97,117,116,111,110,111,109,111,117,115,45,115,121,115,116,101,109],decI r.asn])
def sysN(r:Rt):List Nd:=[bln [[115,121,115,116,101,109]] (sysP 0 r++sysP 1 r)]
def sideN(n:Int):List Nd:=if n==1 then [stn [[115,105,100,101],[105,110,115,105,100,101]]]else optN (n==2) (stn [[115,105,100,101],[111,117,116,115,105,100,101]])
def ifP(k:Nat)(x:If):List Nd:=match k with
 |0=>optN (!(x.len==0)) (stn [[97,100,100,114,101,115,115],hostF x.addr x.len])
 |1=>optN (!(x.vlan==0)) (stn [[118,108,97,110],decI x.vlan])
 |2=>optN x.down (stn [[100,105,115,97,98,108,101]])
 |3=>optN x.ls (stn [[108,105,110,107,45,115,116,97,116,101],[97,114,101,97],decI x.area,[99,111,115,116],decI x.cost])
 |4=>optN x.dv (stn [[100,105,115,116,97,110,99,101,45,118,101,99,116,111,114]])
 |5=>nameN [105,110,112,117,116] x.inn
 |6=>nameN [111,117,116,112,117,116] x.out
 |_=>sideN x.side
def ifK(x:If):List Nd:=ifP 0 x++(ifP 1 x++(ifP 2 x++(ifP 3 x++(ifP 4 x++(ifP 5 x++(ifP 6 x++ifP 7 x))))))
def ifN(x:If):Nd:=bln [x.name] (ifK x)
def ifsN(l:List If):List Nd:=if l.isEmpty then []else [bln [[105,110,116,101,114,102,97,99,101,115]] (l.map ifN)]
def zDp(x:PRule):List (List UInt8):=if x.min==x.pl then(if x.max==x.pl then [[101,120,97,99,116]]else if x.max==32 then [[111,114,108,111,110,103,101,114]]else [[117,112,116,111],decI x.max])else [[114,97,110,103,101],decI x.min,decI x.max]
def prN(x:PRule):Nd:=stn ((if x.permit then [112,101,114,109,105,116]else [100,101,110,121]) :: pfxF x.pa x.pl :: zDp x)
def listN(l:PList):Nd:=bln [[112,114,101,102,105,120,45,108,105,115,116],l.name] (l.rules.map prN)
def clP(k:Nat)(c:Cl):List Nd:=match k with
 |0=>optN (!c.list.isEmpty) (stn [[102,114,111,109],[108,105,115,116],c.list])
 |1=>optN (!(c.tag == -1)) (stn [[102,114,111,109],[116,97,103],decI c.tag])
 |2=>optN (!(c.setM == -1)) (stn [[116,104,101,110],[109,101,116,114,105,99],decI c.setM])
 |3=>optN (!(c.setT == -1)) (stn [[116,104,101,110],[116,97,103],decI c.setT])
 |4=>optN (!(c.setP == -1)) (stn [[116,104,101,110],[112,114,101,102,101,114,101,110,99,101],decI c.setP])
 |5=>optN (!(c.prep==0)) (stn [[116,104,101,110],[112,114,101,112,101,110,100],decI c.prep])
 |_=>[stn [if c.permit then [97,99,99,101,112,116]else [114,101,106,101,99,116]]]
def clK(c:Cl):List Nd:=clP 0 c++(clP 1 c++(clP 2 c++(clP 3 c++(clP 4 c++(clP 5 c++clP 6 c)))))
def clN(c:Cl):Nd:=bln [[116,101,114,109]] (clK c)
def mapN(m:RMap):Nd:=bln [[112,111,108,105,99,121],m.name] (m.clauses.map clN)
def protW(n:Int):List UInt8:=if n==6 then [116,99,112]else if n==17 then [117,100,112]else decI n
def wildW(a m:Nat):List UInt8:=match zBn (4294967295 - m) 33 with
 |some n=>if n=32 then fmtA a else hostF a n
 |none=>fmtA a++[126]++fmtA m
def portW(lo hi:Int):List UInt8:=if lo==hi then decI lo else decI lo++[45]++decI hi
def portN(w:List UInt8)(lo hi:Int):List Nd:=optN (!(lo==0&&hi==65535)) (stn [w,portW lo hi])
def wildN(w:List UInt8)(a m:Nat):List Nd:=optN (!(m==4294967295)) (stn [w,wildW a m])
def ruP(k:Nat)(x:Ru):List Nd:=match k with
 |0=>optN (!(x.proto == -1)) (stn [[112,114,111,116,111,99,111,108],protW x.proto])
 |1=>wildN [115,111,117,114,99,101] x.sa x.sm
 |2=>wildN [100,101,115,116,105,110,97,116,105,111,110] x.da x.dm
 |3=>portN [115,111,117,114,99,101,45,112,111,114,116] x.slo x.shi
 |4=>portN [100,101,115,116,105,110,97,116,105,111,110,45,112,111,114,116] x.dlo x.dhi
 |_=>[stn [if x.permit then [97,99,99,101,112,116]else [100,105,115,99,97,114,100]]]
def ruK(x:Ru):List Nd:=ruP 0 x++(ruP 1 x++(ruP 2 x++(ruP 3 x++(ruP 4 x++ruP 5 x))))
def ruN(x:Ru):Nd:=bln [[116,101,114,109]] (ruK x)
def aclN(l:AList):Nd:=bln [[102,105,108,116,101,114],l.name] (l.rules.map ruN)
def trW(x:Tr):List (List UInt8):=if x.kind==1 then [[115,116,97,116,105,99],fmtA x.ins,fmtA x.outs]else if x.kind==2 then [[112,111,111,108],x.list,fmtA x.lo,fmtA x.hi]
 else [[102,111,114,119,97,114,100],protW x.proto,fmtA x.outs,decI x.oport,fmtA x.ins,decI x.iport]
def natN(l:List Tr):List Nd:=if l.isEmpty then []else [bln [[116,114,97,110,115,108,97,116,105,111,110]] (l.map fun x=>stn (trW x))]
def goalN(x:Sr):Nd:=stn (if !(x.next==0)then [[110,101,120,116,45,104,111,112],fmtA x.next]else if !x.iface.isEmpty then [[105,110,116,101,114,102,97,99,101],x.iface]else [[100,105,115,99,97,114,100]])
def srP(k:Nat)(x:Sr):List Nd:=match k with
 |0=>[goalN x]
 |1=>[stn [[112,114,101,102,101,114,101,110,99,101],decI x.admin]]
 |_=>optN (!(x.tag==0)) (stn [[116,97,103],decI x.tag])
def srK(x:Sr):List Nd:=srP 0 x++(srP 1 x++srP 2 x)
def srN(x:Sr):Nd:=bln [[114,111,117,116,101],pfxF x.pa x.pl] (srK x)
def statN(l:List Sr):List Nd:=if l.isEmpty then []else [bln [[115,116,97,116,105,99]] (l.map srN)]
def rdP(k:Nat)(x:Rd):List Nd:=match k with
 |0=>[stn [[109,101,116,114,105,99],decI x.metric]]
 |1=>optN (!(x.tag==0)) (stn [[116,97,103],decI x.tag])
 |2=>nameN [112,111,108,105,99,121] x.map
 |_=>optN (!(x.typ==0)) (stn [[116,121,112,101],decI x.typ])
def rdK(x:Rd):List Nd:=rdP 0 x++(rdP 1 x++(rdP 2 x++rdP 3 x))
def rdN(x:Rd):Nd:=bln [[105,109,112,111,114,116],srcN x.frm] (rdK x)
def lsN(r:Rt):List Nd:=optN r.lsOn (bln [[108,105,110,107,45,115,116,97,116,101]] (stn [[112,114,101,102,101,114,101,110,99,101],decI r.lsAdmin] :: ((r.ranges.map fun a=>stn [[114,97,110,103,101],decI a.area,pfxF a.pa a.pl])++r.lsRed.map rdN)))
def dvN(r:Rt):List Nd:=optN r.dvOn (bln [[100,105,115,116,97,110,99,101,45,118,101,99,116,111,114]] (stn [[112,114,101,102,101,114,101,110,99,101],decI r.dvAdmin] :: (nameN [105,110,112,117,116] r.dvIn++(nameN [111,117,116,112,117,116] r.dvOut++r.dvRed.map rdN))))
def nbP(k:Nat)(x:Nb):List Nd:=match k with
 |0=>[stn [[97,115],decI x.asn]]
 |1=>nameN [105,109,112,111,114,116] x.inn
 |_=>nameN [101,120,112,111,114,116] x.out
def nbK(x:Nb):List Nd:=nbP 0 x++(nbP 1 x++nbP 2 x)
def nbN(x:Nb):Nd:=bln [[110,101,105,103,104,98,111,114],fmtA x.addr] (nbK x)
def agN(x:Ag):Nd:=stn (if x.only then [[97,103,103,114,101,103,97,116,101],pfxF x.pa x.pl,[111,110,108,121]]else [[97,103,103,114,101,103,97,116,101],pfxF x.pa x.pl])
def cdN(x:Cd):Nd:=stn [[111,114,105,103,105,110,97,116,101],pfxF x.pa x.pl,if x.absent then [117,110,108,101,115,115]else [105,102],pfxF x.ia x.il]
def pvN(r:Rt):List Nd:=optN r.pvOn (bln [[112,97,116,104,45,118,101,99,116,111,114]] (stn [[112,114,101,102,101,114,101,110,99,101],[101,120,116,101,114,110,97,108],decI r.ext] :: stn [[112,114,101,102,101,114,101,110,99,101],[105,110,116,101,114,110,97,108],decI r.int] :: (r.nb.map nbN++((r.net.map fun p=>stn [[110,101,116,119,111,114,107],pfxF p.pa p.pl]) ++
 (r.ag.map agN++(r.cd.map cdN++r.pvRed.map rdN))))))
def fmtN(r:Rt):List Nd:=sysN r++(ifsN r.ifs++(r.lists.map listN++(r.maps.map mapN++(r.acls.map aclN++(natN r.nat++(statN r.stat++(lsN r++(dvN r++pvN r))))))))
def zJw(chk:Rt→Int)(r:Rt):List UInt8 × Int:=if chk r=0 then(if 65536<(textL 0 (fmtN r)).length then([],7)else(textL 0 (fmtN r),0))else([],chk r)
def okW(x:List UInt8):Prop:=(x≠[]∧x.length≤40)∧∀b∈x,wordB b.toNat=true∧33≤b.toNat∧b.toNat≤126
mutual
def flatN:Nd→List (List UInt8)
 |.mk _ ws false _=>ws++[[59]]
 |.mk _ ws true ks=>ws++([123] :: (flatL ks++[[125]]))
def flatL:List Nd→List (List UInt8)
 |[]=>[]
 |n :: r=>flatN n++flatL r
end
theorem digC_nat:∀n:Nat,n<10→(digC n).toNat=48+n:=by decide +kernel
theorem zMy(n:Nat):∀x∈dec n,48≤x.toNat∧x.toNat≤57:=by
 induction n using Nat.strongRecOn with
 |ind n ih=>
  by_cases h:n<10
  ·rw[zGg h]
   intro x hx;obtain rfl:=List.mem_singleton.1 hx;rw[digC_nat n h];omega
  ·rw[zLo h]
   intro x hx;rcases List.mem_append.1 hx with hx|hx
   ·exact ih (n / 10) (by omega) x hx
   ·obtain rfl:=List.mem_singleton.1 hx
    rw[digC_nat _ (Nat.mod_lt _ (by omega))];omega
theorem zKk(n:Nat):∀x∈dec n,(x.toNat:Int)≠46:=fun x hx=>by have:=zMy n x hx;omega
theorem dots_fmt(a:Nat):dots (fmtA a)=[dec (byteA a 0),dec (byteA a 1),dec (byteA a 2),dec (byteA a 3)]:=by
 rw[fmtA_eq];simp only[yE,List.cons_append,List.nil_append];unfold dots;rw[zIj _ _ _ (zKk _),zIj _ _ _ (zKk _),zIj _ _ _ (zKk _),zLl _ _ (zKk _)];simp
theorem zIl{n:Nat}{m:Int}(h:(n:Int)≤m)(hn:n≤9999999999):numIn (dec n) 0 m=some (n:Int):=by
 unfold numIn;rw[numOf_dec n hn];simp only[];rw[if_pos (by omega)]
theorem zLi{a:Nat}(ha:a<4294967296):zCb (fmtA a)=some a:=by
 unfold zCb;rw[dots_fmt,if_pos (by rfl)];have h0:=zEp a 0;have h1:=zEp a 1;have h2:=zEp a 2;have h3:=zEp a 3;rw[zLe (zIl (by omega) (by omega)),zLe (zIl (by omega) (by omega)),zLe (zIl (by omega) (by omega)),zLe (zIl (by omega) (by omega)),octs]
 congr 1
 unfold byteA oct;simp only[Nat.reduceMul,Nat.reduceSub,Nat.reducePow,Nat.pow_zero];omega
theorem index_slash_hit{a b:List UInt8}(h:∀x∈a,(x.toNat:Int)≠47):Lib.index (a++47 :: b) [47]=a.length:=by
 apply Lib.index_first (by simp)
 ·unfold Lib.occAt;rw[List.drop_left];rfl
 ·intro j hj
  unfold Lib.occAt;rw[List.drop_append_of_le_length (by omega)];cases hd:a.drop j with
  |nil=>have:=congrArg List.length hd;simp at this;omega
  |cons c r=>
   have hc:c∈a:=List.mem_of_mem_drop (by rw[hd];exact List.mem_cons_self);have h2:c≠47:=fun e=>h c hc (by rw[e];rfl)
   simp[List.isPrefixOf,Ne.symm h2]
theorem zGh(a:Nat):∀x∈fmtA a,x.toNat=46∨48≤x.toNat∧x.toNat≤57:=by
 rw[fmtA_eq];intro x hx;simp only[List.mem_append,List.mem_singleton]at hx;rcases hx with(((((hx|rfl)|hx)|rfl)|hx)|rfl)|hx
 all_goals first
  |exact .inr (zMy _ x hx)
  |exact .inl rfl
theorem fmt_noslash(a:Nat):∀x∈fmtA a,(x.toNat:Int)≠47:=fun x hx=>by have:=zGh a x hx;omega
theorem host_back{a:Nat}(ha:a<4294967296){n:Int}(h0:0≤n)(h1:n≤32):hostA (hostF a n)=some (a,n):=by
 unfold hostF;rw[if_pos ⟨h0,h1⟩,yE,List.singleton_append];have hi:=index_slash_hit (b:=dec n.toNat) (fmt_noslash a);refine host_yes hi ?_ ?_
 ·rw[List.take_left,zLi ha]
 ·rw[←List.drop_drop,List.drop_left]
  show numIn (dec n.toNat) 0 32=some n;rw[zIl (by omega) (by omega)]
  congr 1;omega
theorem okW_mk{x:List UInt8}(h:x≠[])(hl:x.length≤40)(hb:∀b∈x,45≤b.toNat∧b.toNat≤57∨b.toNat=126):okW x:=⟨⟨h,hl⟩,fun b hm=>by
 have h1:=hb b hm;refine⟨?_,by omega,by omega⟩;simp only[wordB,zIu,markB,Bool.and_eq_true,Bool.not_eq_true', Bool.or_eq_false_iff,beq_eq_false_iff_ne,ne_eq]
 omega⟩
theorem fmt_pos(a:Nat):fmtA a≠[]:=by
 rw[fmtA_eq];simp
theorem okW_fmt(a:Nat):okW (fmtA a):=okW_mk (fmt_pos a) (yJ (zDd a) (by decide)) fun b hb=>.inl (by have:=zGh a b hb;omega)
theorem okW_host{a:Nat}{n:Int}(h0:0≤n)(h1:n≤32):okW (hostF a n):=by
 unfold hostF;rw[if_pos ⟨h0,h1⟩];have h2:=zDd a;have h3:(dec n.toNat).length≤2:=zGw 1 _ (by omega);refine okW_mk (by simp) (by simp only[yA,yG,yH];omega) fun b hb=>.inl ?_
 simp only[List.mem_append,List.mem_singleton]at hb;rcases hb with(hb|rfl)|hb
 ·have:=zGh a b hb;omega
 ·decide
 ·have:=zMy _ b hb;omega
theorem validP_in{p:Nat}{n:Int}(h:zAv p n=true):0≤n∧n≤32:=by
 unfold zAv at h;simp only[Bool.and_eq_true,decide_eq_true_eq]at h;exact h.1
theorem numGo_digits:∀(l:List UInt8) (v u:Int),numGo v l=some u→∀b∈l,48≤b.toNat∧b.toNat≤57:=by
 intro l;induction l with
 |nil=>intro v u _ b hb;cases hb
 |cons c r ih=>
  intro v u h b hb;rw[numGo]at h;split at h
  ·rename_i hd
   rcases List.mem_cons.1 hb with rfl|hb
   ·simp only[zGv,Bool.and_eq_true,decide_eq_true_eq]at hd;omega
   ·exact ih _ _ h b hb
  ·cases h
theorem numIn_digits{l:List UInt8}{lo hi v:Int}(h:numIn l lo hi=some v):∀b∈l,48≤b.toNat∧b.toNat≤57:=by
 unfold numIn numOf at h;split at h
 ·cases h
 ·rename_i u hu
  split at hu
  ·exact numGo_digits l 0 u hu
  ·cases hu
theorem dotGo_mem:∀(l cur:List UInt8) (b:UInt8),b∈cur∨b∈l→b.toNat=46∨∃p∈dotGo cur l,b∈p:=by
 intro l;induction l with
 |nil=>intro cur b h;exact .inr ⟨cur,by simp[dotGo],h.elim id (fun h=>by cases h)⟩
 |cons c r ih=>
  intro cur b h;rw[dotGo];split
  ·rename_i hc
   rcases h with h|h
   ·exact .inr ⟨cur,List.mem_cons_self,h⟩
   ·rcases List.mem_cons.1 h with rfl|h
    ·exact .inl (by omega)
    ·rcases ih [] b (.inr h)with h|⟨p,hp,h⟩
     ·exact .inl h
     ·exact .inr ⟨p,List.mem_cons_of_mem _ hp,h⟩
  ·refine ih (cur++[c]) b ?_
   rcases h with h|h
   ·exact .inl (List.mem_append_left _ h)
   ·rcases List.mem_cons.1 h with rfl|h
    ·exact .inl (List.mem_append_right _ List.mem_cons_self)
    ·exact .inr h
theorem octs_digits:∀(ps:List (List UInt8)) (a r:Nat),octs ps a=some r→∀p∈ps,∀b∈p,48≤b.toNat∧b.toNat≤57:=by
 intro ps;induction ps with
 |nil=>intro a r _ p hp;cases hp
 |cons q qs ih=>
  intro a r h p hp;rw[octs]at h;split at h
  ·cases h
  ·rename_i v hv
   rcases List.mem_cons.1 hp with rfl|hp
   ·exact numIn_digits hv
   ·exact ih _ _ h p hp
theorem parse_odd{l:List UInt8}{b:UInt8}(hb:b∈l)(h:¬(b.toNat=46∨48≤b.toNat∧b.toNat≤57)):zCb l=none:=by
 cases hp:zCb l with
 |none=>rfl
 |some r=>
  unfold zCb at hp;split at hp
  ·rcases dotGo_mem l [] b (.inr hb)with h1|⟨p,h1,h2⟩
   ·exact absurd (.inl h1) h
   ·exact absurd (.inr (octs_digits _ _ _ hp p h1 b h2)) h
  ·cases hp
theorem index_noslash{l:List UInt8}(h:∀b∈l,(b.toNat:Int)≠47):Lib.index l [47] = -1:=by
 apply Lib.index_none;intro j hj;unfold Lib.occAt;cases hd:l.drop j with
 |nil=>rfl
 |cons b r=>
  have hb:b∈l:=List.mem_of_mem_drop (by rw[hd];simp);have:(47:UInt8)≠b:=fun e=>h b hb (by rw[←e];rfl)
  simp[List.isPrefixOf,this]
theorem cutL_hit{c:UInt8}(r:List UInt8):∀{l:List UInt8},c∉l→cutL c (l++c :: r)=(l,r,true):=by
 intro l;induction l with
 |nil=>intro _;rw[List.nil_append,cutL,beq_self_eq_true];rfl
 |cons x t ih=>
  intro h;have h1:(x==c)=false:=by rw[beq_eq_false_iff_ne];rintro rfl;exact h List.mem_cons_self
  rw[List.cons_append,cutL,h1,ih (fun h2=>h (List.mem_cons_of_mem _ h2))];rfl
theorem any_not{l:List UInt8}{x:UInt8}{r w:List UInt8}(hw:w=x :: r)(hx:65≤x.toNat)(h:∀b∈l,b.toNat<65∨b.toNat=126)(h2:x.toNat≠126):(l==w)=false:=by
 subst hw;rw[beq_eq_false_iff_ne];rintro rfl;have:=h x List.mem_cons_self;omega
theorem zMf{m:Nat}:∀{g n:Nat},g≤33→zBn m g=some n→n≤32∧maskN (n:Int)=m:=by
 intro g;induction g with
 |zero=>intro n _ h;cases h
 |succ k ih=>
  intro n hg h;rw[zBn]at h;split at h
  ·rename_i h1;cases h;exact⟨by omega,h1⟩
  ·exact ih (by omega) h
theorem low_valid{a k:Nat}(h:a &&& (2 ^ k - 1)=0):a % 2 ^ k=0:=by
 rwa [Nat.and_two_pow_sub_one_eq_mod]at h
theorem wild_back{a m:Nat}(ha:a<4294967296)(hm:m<4294967296)(h:a &&& m=0):wildA (wildW a m)=some (a,m)∧okW (wildW a m):=by
 unfold wildW;cases hl:zBn (4294967295 - m) 33 with
 |some n=>
  obtain⟨h1,h2⟩:=zMf (yI _) hl;simp only
  have hs:sz (n:Int)=2 ^ (32 - n):=by
   unfold sz;rw[show zBe (n:Int)=n from by unfold zBe;omega]
  have hp:=sz_pos (n:Int);have hle:=sz_le (n:Int);unfold maskN at h2;split
  ·rename_i h32
   subst h32;have:m=0:=by rw[hs]at h2;simp at h2;omega
   subst this;refine⟨?_,okW_fmt a⟩;unfold wildA;rw[any_not rfl (by decide) (fun b hb=>.inl (by have:=zGh a b hb;omega)) (by decide),if_neg (by decide),zLi ha]
  ·rename_i h32
   have hv:zAv a (n:Int)=true:=by
    unfold zAv;simp only[Bool.and_eq_true,decide_eq_true_eq];refine⟨⟨by omega,by omega⟩,?_⟩;rw[hs];refine low_valid (k:=32 - n) ?_;rw[←hs,show sz (n:Int) - 1=m from by omega];exact h
   refine⟨?_,okW_host (by omega) (by omega)⟩
   have hn:zCb (hostF a n)=none:=by
    refine parse_odd (b:=47) ?_ (by decide);unfold hostF;rw[if_pos ⟨by omega,by omega⟩];simp
   have hh:pfxA (hostF a n)=some (a,(n:Int)):=by
    unfold pfxA;rw[host_back ha (by omega) (by omega)];simp only[hv,if_true]
   unfold wildA;rw[any_not rfl (by decide) (fun b hb=>?_) (by decide),if_neg (by decide),hn]
   ·simp only[hh]
    unfold maskN;rw[show 4294967295 - (4294967296 - sz (n:Int))=m from by omega]
   ·unfold hostF at hb
    rw[if_pos ⟨by omega,by omega⟩]at hb;simp only[List.mem_append,List.mem_singleton]at hb;rcases hb with(hb|rfl)|hb
    ·have:=zGh a b hb;omega
    ·decide
    ·have:=zMy _ b hb;omega
 |none=>
  simp only
  have hb:∀b∈fmtA a++[126]++fmtA m,b.toNat=126∨46≤b.toNat∧b.toNat≤57∧b.toNat≠47:=by
   intro b hb;simp only[List.mem_append,List.mem_singleton]at hb;rcases hb with(hb|rfl)|hb
   ·have:=zGh a b hb;omega
   ·decide
   ·have:=zGh m b hb;omega
  have h3:=zDd a;have h4:=zDd m;refine⟨?_,okW_mk (by simp) (by simp only[yA,yG,yH];omega) fun b h2=>by have:=hb b h2;omega⟩;have hn:zCb (fmtA a++[126]++fmtA m)=none:=parse_odd (b:=126) (by simp) (by decide)
  have hx:pfxA (fmtA a++[126]++fmtA m)=none:=by
   unfold pfxA;rw[host_miss (index_noslash fun b h2=>by have:=hb b h2;omega)]
  have hc:cutL 126 (fmtA a++[126]++fmtA m)=(fmtA a,fmtA m,true):=by
   rw[yE];exact cutL_hit _ fun h2=>by have:=zGh a _ h2;revert this;decide
  unfold wildA;rw[any_not rfl (by decide) (fun b h2=>by have:=hb b h2;omega) (by decide),if_neg (by decide),hn];simp only[hx,hc,zLi ha,zLi hm,h,beq_self_eq_true,if_true]
end Go.Proofs.YtdlgnhefpoalnaaGreatDoor
