/- Beta, plain: what Format writes of numbers, names, addresses, prefixes, wildcards, ports, protocols is read back. No condition. -/
import Derived.Test.YtdlgnhefpoalnaaGreatDoorHx
set_option maxHeartbeats 2000000
set_option maxRecDepth 100000
namespace Go.Proofs.YtdlgnhefpoalnaaGreatDoor
open Lib (hid)
open Go.RowKit
theorem Tryz.sizeBuilder:(Tryz.prog.info? 92).map (·.size)=some 2:=by kernel_rfl
theorem Tryz.infoByte:(Tryz.prog.info? 5).map (fun i=>(i.zero,i.size,i.bytes))=some (some (.int .u8 0),1,1):=by kernel_rfl
structure HoldsB (T:TypeId) (n:Nat):Prop where
 lies:liesAt Tryz.prog Tryz.prog.depth T (n / Tryz.prog.cellsOf T) 0 92 1=true
 ne:T≠5
theorem holdsT:HoldsB 94 3:=⟨by kernel_rfl,by decide⟩
structure FK (g:Nat) (w w' : World):Prop where
 os:w'.os=w.os
 tape:w'.tape=w.tape
 output:w'.output=w.output
 size:w.heap.size≤w'.heap.size
 low:∀k,k<w.heap.size→k<g→w'.heap[k]? = w.heap[k]?
 high:∀k,k<w.heap.size→k≠g→(∀cs fr,w.heap[k]?≠some (.cells cs 5 fr))→w'.heap[k]? = w.heap[k]?
section
variable {g : Nat} {w w' w'' : World}
theorem FK.refl(g:Nat)(w:World):FK g w w:=⟨rfl,rfl,rfl,Nat.le_refl _,fun _ _ _=>rfl,fun _ _ _ _=>rfl⟩
theorem FK.trans(h:FK g w w')(h' : FK g w' w''):FK g w w'' :=
 ⟨h'.os.trans h.os,h'.tape.trans h.tape,h'.output.trans h.output,Nat.le_trans h.size h'.size,fun k hk hg=>(h'.low k (Nat.lt_of_lt_of_le hk h.size) hg).trans (h.low k hk hg),
  fun k hk hg hn=>(h'.high k (Nat.lt_of_lt_of_le hk h.size) hg (by rw[h.high k hk hg hn];exact hn)).trans (h.high k hk hg hn)⟩
theorem FK.of_below(h:Below w.heap.size w w'):FK g w w' := ⟨h.os,h.tape,h.output,h.size,fun k hk _=>h.block k hk,fun k hk _ _=>h.block k hk⟩
theorem FK.set(w:World)(g j:Nat)(v:Value):FK g w (w.setCell ⟨g,j,none⟩ v) :=
 have h:=zBb w g j v
 ⟨h.os,h.tape,h.output,h.size,fun k hk hg=>h.block k hk (fun e=>by cases e;exact absurd hg (Nat.lt_irrefl _)),fun k hk hg _=>h.block k hk (fun e=>hg (by cases e;rfl))⟩
theorem FK.row{v:Value}{n:Nat}{xs:List Value}(hown:w.ownsRow g 5 1 v n xs)(h:w.grownBy w' v.ownBlock):FK g w w' := by
 refine⟨h.os,h.tape,h.output,h.size,fun k hk hg=>h.block k hk fun e=>?_,fun k hk hg hn=>h.block k hk fun e=>?_⟩
 ·have:=(hown.lt k e.symm).1;omega
 ·rcases hown.2 with⟨rfl,_⟩|⟨b,cap,cur,rfl,_,hb,_⟩
  ·cases e
  ·simp only[Value.ownBlock,Option.some.injEq]at e
   subst e;exact hn _ _ hb
theorem FK.below(h:FK g w w')(hg:g≤w.heap.size):Below g w w' := ⟨h.os,h.tape,h.output,h.size,fun k hk=>h.low k (by omega) hk⟩
theorem HasC.fk{T:TypeId}{b:Nat}{cs:Array Value}(h:HasC T b cs w)(hf:FK g w w')(hb:b≠g)(hT:T≠5):HasC T b cs w' :=
 (hf.high b (zAy h) hb fun cs' fr e=>by rw[h]at e;injection e with e;injection e with _ e _;exact hT e).trans h
end
def FBx(T:TypeId)(rest:List Value)(g:Nat)(s:List UInt8)(w:World):Prop :=
 ∃p v,(p=.pointer none∨p=.pointer (some ⟨g,0,none⟩))∧HasC T g (p :: v :: rest).toArray w∧w.ownsRow g 5 1 v s.length (Lib.byteCells s)
def FBu(T:TypeId)(rest:List Value)(g:Nat)(s:List UInt8)(w:World):Prop :=
 ∃v,HasC T g (.pointer (some ⟨g,0,none⟩) :: v :: rest).toArray w∧w.ownsRow g 5 1 v s.length (Lib.byteCells s)
theorem FBu.x{T:TypeId}{rest:List Value}{g:Nat}{s:List UInt8}{w:World}(h:FBu T rest g s w):FBx T rest g s w:=by
 obtain⟨v,h1,h2⟩:=h;exact⟨_,v,.inr rfl,h1,h2⟩
theorem HasC.set{T:TypeId}{g:Nat}{cs:Array Value}{w:World}(h:HasC T g cs w)(j:Nat)(v:Value):HasC T g (cs.setIfInBounds j v) (w.setCell ⟨g,j,none⟩ v):=by
 unfold HasC at h⊢;simp[World.setCell,Array.getElem?_modify,h]
theorem row_set{T:TypeId}{g j n:Nat}{cs:Array Value}{w:World}{v u:Value}{xs:List Value}(h:HasC T g cs w)(hown:w.ownsRow g 5 1 v n xs)(hT:T≠5):(w.setCell ⟨g,j,none⟩ u).ownsRow g 5 1 v n xs :=
 hown.kept (row:=some g) ⟨rfl,rfl,rfl,by simp[World.setCell],fun k _ hk=>Below.heap_setCell _ _ _ _ (fun e=>hk (by simp[e]))⟩ (Or.inr (Lib.ownBlock_ne hown h hT))
theorem FBx.keep{T:TypeId}{rest:List Value}{g:Nat}{s:List UInt8}{w w' : World}(h:FBx T rest g s w)(hb:Below w.heap.size w w'):FBx T rest g s w' := by
 obtain⟨p,u,hp,hc,ho⟩:=h;refine⟨p,u,hp,hc.keep hb,ho.kept (row:=none) (zEa (Nat.le_refl _) hb none) ?_⟩;cases u.ownBlock with
 |none=>exact Or.inl rfl
 |some k=>exact Or.inr (fun h=>by cases h)
section
variable {T : TypeId} {rest : List Value} {g : Nat} {s : List UInt8} {w : World}
theorem bxCheck_any(hT:HoldsB T (rest.length+2))(h:FBx T rest g s w) :
  Calls Tryz.prog 239 #[.pointer (some ⟨g,0,none⟩)] w fun e w' => e=.returned (.tuple #[])∧FBu T rest g s w' ∧ FK g w w' := by
 obtain⟨j,hj,hjs⟩:=Option.map_eq_some_iff.1 Tryz.sizeBuilder;obtain⟨p,v,hp,hc,hown⟩:=h;rcases hp with rfl|rfl
 ·have h0:w.cell? ⟨g,0,none⟩=some (.pointer none):=by rw[hc.cell];rfl
  have hfz:w.frozen? ⟨g,0,none⟩=false:=hc.frz 0;have hsh:w.shape? g=some (T,rest.length+2):=by unfold World.shape?;rw[show w.heap[g]? = _ from hc];simp
  have HR:Hid (FBu T rest g s (w.setCell ⟨g,0,none⟩ (.pointer (some ⟨g,0,none⟩)))∧FK g w (w.setCell ⟨g,0,none⟩ (.pointer (some ⟨g,0,none⟩)))) :=
   hid ⟨⟨v,by simpa using hc.set 0 (.pointer (some ⟨g,0,none⟩)),row_set hc hown hT.ne⟩,FK.set w g 0 _⟩
  have HT:=hid hT;clear hc hown hT;go_enter Tryz.func239,Tryz.ntmps239;go_wp2;rw[Lib.run_to_unsafe w ⟨g,0,none⟩ Tryz.underlying89 Tryz.underlying305 hj (by rw[hjs];decide) hsh (Nat.zero_lt_succ _)];simp only[Result.andThen];rw[Oper.upon_value];go_wp2;rw[run_callFunc_extern Tryz.func263 (by kernel_rfl) (by kernel_rfl) (by kernel_rfl) (e:=Extern.AbiNoEscape.same) (by kernel_rfl)];rw[Lib.run_noEscape];simp only[Result.andThen];rw[Oper.upon_value];go_wp2;rw[Lib.run_from_unsafe w ⟨g,0,none⟩ Tryz.underlying305 Tryz.underlying89 hj hsh HT.out.lies];simp only[Result.andThen];rw[Oper.upon_value];go_wp2;go_end0;exact⟨rfl,HR.out⟩
 ·have h0:w.cell? ⟨g,0,none⟩=some (.pointer (some ⟨g,0,none⟩)):=by rw[hc.cell];rfl
  have HR:Hid (FBu T rest g s w):=hid ⟨v,hc,hown⟩;clear hc hown hT;go_enter Tryz.func239,Tryz.ntmps239;go_wp2;rw[Lib.run_neq_ptr_same w _ Tryz.underlying89 hj];go_wp2;go_end0;exact⟨rfl,HR.out,FK.refl _ _⟩
theorem bxByte_any(hT:HoldsB T (rest.length+2))(h:FBx T rest g s w)(c:UInt8)(hlen:s.length+1≤140737488355328)(hg:g≤w.heap.size) :
  Calls Tryz.prog 185 #[.pointer (some ⟨g,0,none⟩),.int .u8 c.toNat] w fun e w' => e=.returned .nilIface∧FBu T rest g (s++[c]) w' ∧ FK g w w' := by
 obtain⟨i0,hi,hz0,hz1,hz2⟩:=info_parts Tryz.infoByte;go_enter Tryz.func185,Tryz.ntmps185;go_wp2_with fail;refine(bxCheck_any hT h).mono ?_;rintro e w1 ⟨rfl,⟨v,hc,hown⟩,hk⟩;have c0:w1.cell? ⟨g,0,none⟩=some (.pointer (some ⟨g,0,none⟩)):=by rw[hc.cell];rfl
 have c1:w1.cell? ⟨g,1,none⟩=some v:=by rw[hc.cell];rfl
 have hs:=hk.size;go_wp2_with (at_builtin;refine wpList_append_own _ rfl _ _ 90 rfl g 5 i0 (.int .u8 0) 1 1 Tryz.underlying90 hi hz0 hz1 hz2 rfl (by decide) _ _ _ rfl (hown.alloc _) ⟨w1.heap.size,0,none⟩ 1 1 [.int .u8 c.toNat] rfl rfl ?c1 ?c2 ?c3 ?c4 ?c5 ?_);case c1=>
  intro j u hj
  match j,hj with
  |0,hj=>simp at hj;subst hj;simp[Addr.add]
 case c2=>intro u hu;simp at hu;subst hu;rfl
 case c3=>unfold maxLen;omega
 case c4=>omega
 case c5=>simp;omega
 intro v' w2 hown' hgrow _;have hk2:FK g (w1.alloc (.cells #[.int .u8 c.toNat] 5)) w2:=FK.row (hown.alloc _) hgrow
 have hc2:HasC T g (.pointer (some ⟨g,0,none⟩) :: v :: rest).toArray w2:=by
  refine(hgrow.block g (by have:=zAy hc;simp;omega) (fun e=>Lib.ownBlock_ne hown hc hT.ne e.symm)).trans ?_;rw[Lib.alloc_old w1 _ g (zAy hc)];exact hc
 have d1:w2.cell? ⟨g,1,none⟩=some v:=by rw[hc2.cell];rfl
 have f1:w2.frozen? ⟨g,1,none⟩=false:=hc2.frz 1
 obtain⟨b,cap,rfl⟩:∃b cap,v' = .slice (some ⟨b,0,none⟩) (s.length+1) cap:=by
  rcases hown'.2 with⟨_,h0⟩|⟨b,cap,cur,hv,_⟩
  ·omega
  ·exact⟨b,cap,hv⟩
 go_wp2;go_ret;refine⟨rfl,⟨_,by simpa using hc2.set 1 _,?_⟩,((hk.trans (FK.of_below ((Below.refl _ _).alloc (Nat.le_refl _) _))).trans hk2).trans (FK.set _ _ _ _)⟩;have:=row_set (j:=1) (u:=.slice (some ⟨b,0,none⟩) (s.length+1) cap) hc2 hown' hT.ne;simpa [Lib.byteCells] using this
theorem zJh(hT:HoldsB T (rest.length+2))(h:FBx T rest g s w)(l:List UInt8)(hlen:s.length+l.length≤140737488355328)(hg:g≤w.heap.size) :
  Calls Tryz.prog 183 #[.pointer (some ⟨g,0,none⟩),.string (str l)] w fun e w' => e=.returned (.tuple #[.int .i64 l.length,.nilIface])∧FBu T rest g (s++l) w' ∧ FK g w w' := by
 obtain⟨i0,hi,hz0,hz1,hz2⟩:=info_parts Tryz.infoByte;have hsz:(str l).size=l.length:=zAv l;go_enter Tryz.func183,Tryz.ntmps183;go_wp2_with fail;refine(bxCheck_any hT h).mono ?_;rintro e w1 ⟨rfl,⟨v,hc,hown⟩,hk⟩;have c0:w1.cell? ⟨g,0,none⟩=some (.pointer (some ⟨g,0,none⟩)):=by rw[hc.cell];rfl
 have c1:w1.cell? ⟨g,1,none⟩=some v:=by rw[hc.cell];rfl
 have hs:=hk.size;go_wp2_with (at_builtin;refine Lib.wpList_append_own_string _ rfl _ _ 90 9 rfl g 5 i0 Tryz.underlying90 Tryz.underlying9 hi hz0 hz1 hz2 _ _ _ rfl hown (str l) rfl ?c3 ?c4 ?c5 ?_);case c3=>unfold maxLen;omega
 case c4=>omega
 case c5=>omega
 intro v' w2 hown' hgrow _;have hk2:FK g w1 w2:=FK.row hown hgrow;have hc2:HasC T g (.pointer (some ⟨g,0,none⟩) :: v :: rest).toArray w2:=(hgrow.block g (zAy hc) (fun e=>Lib.ownBlock_ne hown hc hT.ne e.symm)).trans hc;have d1:w2.cell? ⟨g,1,none⟩=some v:=by rw[hc2.cell];rfl
 have f1:w2.frozen? ⟨g,1,none⟩=false:=hc2.frz 1
 obtain⟨ao,n', cap,rfl⟩:∃ao n' cap,v' = .slice ao n' cap:=by
  rcases hown'.2 with⟨hv,_⟩|⟨b,cap,cur,hv,_⟩
  ·exact⟨_,_,_,hv⟩
  ·exact⟨_,_,_,hv⟩
 go_wp2;go_ret2;refine⟨rfl,⟨_,by simpa using hc2.set 1 _,?_⟩,(hk.trans hk2).trans (FK.set _ _ _ _)⟩;have:=row_set (j:=1) (u:=.slice ao n' cap) hc2 hown' hT.ne;simpa [Lib.byteCells,Lib.strCells,str] using this
end
section
variable {T : TypeId} {rest : List Value} {g : Nat} {s : List UInt8} {w : World}
theorem bxLen_any(h:FBx T rest g s w):Calls Tryz.prog 38 #[.pointer (some ⟨g,0,none⟩)] w fun e w' => e=.returned (.int .i64 s.length)∧w' = w:=by
 obtain⟨p,v,-,hc,hown⟩:=h
 obtain⟨ao,cap,rfl⟩:∃ao cap,v=.slice ao s.length cap:=by
  rcases hown.2 with⟨hv,h0⟩|⟨b,cap,cur,hv,_⟩
  ·exact⟨none,0,by rw[hv,h0]⟩
  ·exact⟨_,_,hv⟩
 have c1:w.cell? ⟨g,1,none⟩=some (.slice ao s.length cap):=by rw[hc.cell];rfl
 clear hc hown;go_enter Tryz.func38,Tryz.ntmps38;go_wp2;go_ret;exact⟨rfl,rfl⟩
theorem bytePtr:Tryz.prog.underlying 164=some (.pointer 5):=by kernel_rfl
theorem byteCell:Tryz.prog.cellsOf 5=1:=by kernel_rfl
theorem bxStr_any(h:FBx T rest g s w)(h0:s≠[]):Calls Tryz.prog 39 #[.pointer (some ⟨g,0,none⟩)] w fun e w' => e=.returned (.string (str s))∧Below g w w' := by
 obtain⟨p,v,-,hc,hown⟩:=h;have hl0:s.length≠0:=by simpa using h0
 obtain⟨b,cap,cur,rfl,hgb,hb,hnc,hcm,hcs,htake⟩:∃b cap cur,v=.slice (some ⟨b,0,none⟩) s.length cap∧g≤b∧w.heap[b]? = some (.cells cur 5 (0,0))∧s.length≤cap∧cap≤maxLen∧cur.size=cap*1∧cur.toList.take (s.length*1)=Lib.byteCells s:=by
  rcases hown.2 with⟨_,hz⟩|⟨b,cap,cur,hv,r⟩
  ·exact absurd hz hl0
  ·exact⟨b,cap,cur,hv,r⟩
 have c1:w.drew.cell? ⟨g,1,none⟩=some (.slice (some ⟨b,0,none⟩) s.length cap):=by
  show w.cell? _=_;rw[hc.cell];rfl
 have hSD:(Builtin.unsafeSliceData_ #[90] 164 #[.slice (some ⟨b,0,none⟩) s.length cap]).run Tryz.prog w.drew=.ok (.pointer (some ⟨b,0,none⟩)) w.drew :=
  Lib.run_unsafeSliceData_row _ _ _ _ _ _ (by omega)
 have hUS:(Builtin.unsafeString_ #[164,3] 9 #[.pointer (some ⟨b,0,none⟩),.int .i64 s.length]).run Tryz.prog w.drew=.ok (.string (str s)) (w.drew.freeze ⟨b,0,none⟩ s.length):=by
  refine Lib.run_unsafeString_row w.drew 164 3 9 5 bytePtr byteCell b cur.size (by have hg' : w.drew.heap[b]? = some (.cells cur 5 (0,0)):=hb;simp[World.shape?,hg']) s h0 (by omega) (by unfold maxLen at hcm;omega) ?_;intro j x hx;have:=hown.cells (g:=b) rfl j (.int .u8 x.toNat) (by simp[Lib.byteCells,hx]);exact this
 clear hc hown hb htake;have mixed:Tryz.prog.follows .mixedOrders=true:=by kernel_rfl
 go_enter Tryz.func39,Tryz.ntmps39;go_wp2_with fail
 go_region_o
 all_goals (go_wp2_with fail;go_ret;exact⟨rfl,Lib.below_freeze (Below.drew (Below.refl g w)) (p:=⟨b,0,none⟩) hgb _⟩)
end
def stn(ws:List (List UInt8)):Nd:=.mk 0 ws false []
def bln(ws:List (List UInt8))(ks:List Nd):Nd:=.mk 0 ws true ks
def joinW:List (List UInt8)→List UInt8
 |[]=>[]
 |x :: r=>x++r.flatMap fun y=>32 :: y
def ind:Nat→List UInt8
 |0=>[]
 |d+1=>ind d++[32,32]
def lineW(d:Nat)(ws:List (List UInt8))(e:List UInt8):List UInt8:=ind d++joinW ws++e++[10]
mutual
def textL(d:Nat):List Nd→List UInt8
 |[]=>[]
 |n :: r=>textN d n++textL d r
def textN(d:Nat):Nd→List UInt8
 |.mk _ ws false _=>lineW d ws [59]
 |.mk _ ws true ks=>lineW d ws [32,123]++textL (d+1) ks++lineW d [] [125]
end
def decI(n:Int):List UInt8:=dec n.toNat
def optN(c:Bool)(n:Nd):List Nd:=if c then [n]else []
def nameN(w x:List UInt8):List Nd:=optN (!x.isEmpty) (stn [w,x])
def sysP(k:Nat)(r:Rt):List Nd:=match k with
 |0=>[stn [[104,111,115,116,45,110,97,109,101],r.name]]
 |_=>optN (!(r.asn==0)) (stn [[97,117,116,111,110,111,109,111,117,115,45,115,121,115,116,101,109],decI r.asn])
def sysN(r:Rt):List Nd:=[bln [[115,121,115,116,101,109]] (sysP 0 r++sysP 1 r)]
def sideN(n:Int):List Nd:=if n==1 then [stn [[115,105,100,101],[105,110,115,105,100,101]]]else optN (n==2) (stn [[115,105,100,101],[111,117,116,115,105,100,101]])
def ifP(k:Nat)(x:If):List Nd:=match k with
 |0=>optN (!(x.len==0)) (stn [[97,100,100,114,101,115,115],hostF x.addr x.len])
 |1=>optN (!(x.vlan==0)) (stn [[118,108,97,110],decI x.vlan])
 |2=>optN x.down (stn [[100,105,115,97,98,108,101]])
 |3=>optN x.ls (stn [[108,105,110,107,45,115,116,97,116,101],[97,114,101,97],decI x.area,[99,111,115,116],decI x.cost])
 |4=>optN x.dv (stn [[100,105,115,116,97,110,99,101,45,118,101,99,116,111,114]])
 |5=>nameN [105,110,112,117,116] x.inn
 |6=>nameN [111,117,116,112,117,116] x.out
 |_=>sideN x.side
def ifK(x:If):List Nd:=ifP 0 x++(ifP 1 x++(ifP 2 x++(ifP 3 x++(ifP 4 x++(ifP 5 x++(ifP 6 x++ifP 7 x))))))
def ifN(x:If):Nd:=bln [x.name] (ifK x)
def ifsN(l:List If):List Nd:=if l.isEmpty then []else [bln [[105,110,116,101,114,102,97,99,101,115]] (l.map ifN)]
def zDk(x:PRule):List (List UInt8):=if x.min==x.pl then(if x.max==x.pl then [[101,120,97,99,116]]else if x.max==32 then [[111,114,108,111,110,103,101,114]]else [[117,112,116,111],decI x.max])else [[114,97,110,103,101],decI x.min,decI x.max]
def prN(x:PRule):Nd:=stn ((if x.permit then [112,101,114,109,105,116]else [100,101,110,121]) :: pfxF x.pa x.pl :: zDk x)
def listN(l:PList):Nd:=bln [[112,114,101,102,105,120,45,108,105,115,116],l.name] (l.rules.map prN)
def clP(k:Nat)(c:Cl):List Nd:=match k with
 |0=>optN (!c.list.isEmpty) (stn [[102,114,111,109],[108,105,115,116],c.list])
 |1=>optN (!(c.tag == -1)) (stn [[102,114,111,109],[116,97,103],decI c.tag])
 |2=>optN (!(c.setM == -1)) (stn [[116,104,101,110],[109,101,116,114,105,99],decI c.setM])
 |3=>optN (!(c.setT == -1)) (stn [[116,104,101,110],[116,97,103],decI c.setT])
 |4=>optN (!(c.setP == -1)) (stn [[116,104,101,110],[112,114,101,102,101,114,101,110,99,101],decI c.setP])
 |5=>optN (!(c.prep==0)) (stn [[116,104,101,110],[112,114,101,112,101,110,100],decI c.prep])
 |_=>[stn [if c.permit then [97,99,99,101,112,116]else [114,101,106,101,99,116]]]
def clK(c:Cl):List Nd:=clP 0 c++(clP 1 c++(clP 2 c++(clP 3 c++(clP 4 c++(clP 5 c++clP 6 c)))))
def clN(c:Cl):Nd:=bln [[116,101,114,109]] (clK c)
def mapN(m:RMap):Nd:=bln [[112,111,108,105,99,121],m.name] (m.clauses.map clN)
def protW(n:Int):List UInt8:=if n==6 then [116,99,112]else if n==17 then [117,100,112]else decI n
def wildW(a m:Nat):List UInt8:=match zCr (4294967295 - m) 33 with
 |some n=>if n=32 then fmtA a else hostF a n
 |none=>fmtA a++[126]++fmtA m
def portW(lo hi:Int):List UInt8:=if lo==hi then decI lo else decI lo++[45]++decI hi
def portN(w:List UInt8)(lo hi:Int):List Nd:=optN (!(lo==0&&hi==65535)) (stn [w,portW lo hi])
def wildN(w:List UInt8)(a m:Nat):List Nd:=optN (!(m==4294967295)) (stn [w,wildW a m])
def ruP(k:Nat)(x:Ru):List Nd:=match k with
 |0=>optN (!(x.proto == -1)) (stn [[112,114,111,116,111,99,111,108],protW x.proto])
 |1=>wildN [115,111,117,114,99,101] x.sa x.sm
 |2=>wildN [100,101,115,116,105,110,97,116,105,111,110] x.da x.dm
 |3=>portN [115,111,117,114,99,101,45,112,111,114,116] x.slo x.shi
 |4=>portN [100,101,115,116,105,110,97,116,105,111,110,45,112,111,114,116] x.dlo x.dhi
 |_=>[stn [if x.permit then [97,99,99,101,112,116]else [100,105,115,99,97,114,100]]]
def ruK(x:Ru):List Nd:=ruP 0 x++(ruP 1 x++(ruP 2 x++(ruP 3 x++(ruP 4 x++ruP 5 x))))
def ruN(x:Ru):Nd:=bln [[116,101,114,109]] (ruK x)
def aclN(l:AList):Nd:=bln [[102,105,108,116,101,114],l.name] (l.rules.map ruN)
def trW(x:Tr):List (List UInt8):=if x.kind==1 then [[115,116,97,116,105,99],fmtA x.ins,fmtA x.outs]else if x.kind==2 then [[112,111,111,108],x.list,fmtA x.lo,fmtA x.hi]
 else [[102,111,114,119,97,114,100],protW x.proto,fmtA x.outs,decI x.oport,fmtA x.ins,decI x.iport]
def natN(l:List Tr):List Nd:=if l.isEmpty then []else [bln [[116,114,97,110,115,108,97,116,105,111,110]] (l.map fun x=>stn (trW x))]
def goalN(x:Sr):Nd:=stn (if !(x.next==0)then [[110,101,120,116,45,104,111,112],fmtA x.next]else if !x.iface.isEmpty then [[105,110,116,101,114,102,97,99,101],x.iface]else [[100,105,115,99,97,114,100]])
def srP(k:Nat)(x:Sr):List Nd:=match k with
 |0=>[goalN x]
 |1=>[stn [[112,114,101,102,101,114,101,110,99,101],decI x.admin]]
 |_=>optN (!(x.tag==0)) (stn [[116,97,103],decI x.tag])
def srK(x:Sr):List Nd:=srP 0 x++(srP 1 x++srP 2 x)
def srN(x:Sr):Nd:=bln [[114,111,117,116,101],pfxF x.pa x.pl] (srK x)
def statN(l:List Sr):List Nd:=if l.isEmpty then []else [bln [[115,116,97,116,105,99]] (l.map srN)]
def rdP(k:Nat)(x:Rd):List Nd:=match k with
 |0=>[stn [[109,101,116,114,105,99],decI x.metric]]
 |1=>optN (!(x.tag==0)) (stn [[116,97,103],decI x.tag])
 |2=>nameN [112,111,108,105,99,121] x.map
 |_=>optN (!(x.typ==0)) (stn [[116,121,112,101],decI x.typ])
def rdK(x:Rd):List Nd:=rdP 0 x++(rdP 1 x++(rdP 2 x++rdP 3 x))
def rdN(x:Rd):Nd:=bln [[105,109,112,111,114,116],srcN x.frm] (rdK x)
def lsN(r:Rt):List Nd:=optN r.lsOn (bln [[108,105,110,107,45,115,116,97,116,101]] (stn [[112,114,101,102,101,114,101,110,99,101],decI r.lsAdmin] :: ((r.ranges.map fun a=>stn [[114,97,110,103,101],decI a.area,pfxF a.pa a.pl])++r.lsRed.map rdN)))
def dvN(r:Rt):List Nd:=optN r.dvOn (bln [[100,105,115,116,97,110,99,101,45,118,101,99,116,111,114]] (stn [[112,114,101,102,101,114,101,110,99,101],decI r.dvAdmin] :: (nameN [105,110,112,117,116] r.dvIn++(nameN [111,117,116,112,117,116] r.dvOut++r.dvRed.map rdN))))
def nbP(k:Nat)(x:Nb):List Nd:=match k with
 |0=>[stn [[97,115],decI x.asn]]
 |1=>nameN [105,109,112,111,114,116] x.inn
 |_=>nameN [101,120,112,111,114,116] x.out
def nbK(x:Nb):List Nd:=nbP 0 x++(nbP 1 x++nbP 2 x)
def nbN(x:Nb):Nd:=bln [[110,101,105,103,104,98,111,114],fmtA x.addr] (nbK x)
def agN(x:Ag):Nd:=stn (if x.only then [[97,103,103,114,101,103,97,116,101],pfxF x.pa x.pl,[111,110,108,121]]else [[97,103,103,114,101,103,97,116,101],pfxF x.pa x.pl])
def cdN(x:Cd):Nd:=stn [[111,114,105,103,105,110,97,116,101],pfxF x.pa x.pl,if x.absent then [117,110,108,101,115,115]else [105,102],pfxF x.ia x.il]
def pvN(r:Rt):List Nd:=optN r.pvOn (bln [[112,97,116,104,45,118,101,99,116,111,114]] (stn [[112,114,101,102,101,114,101,110,99,101],[101,120,116,101,114,110,97,108],decI r.ext] :: stn [[112,114,101,102,101,114,101,110,99,101],[105,110,116,101,114,110,97,108],decI r.int] :: (r.nb.map nbN++((r.net.map fun p=>stn [[110,101,116,119,111,114,107],pfxF p.pa p.pl]) ++
 (r.ag.map agN++(r.cd.map cdN++r.pvRed.map rdN))))))
def fmtN(r:Rt):List Nd:=sysN r++(ifsN r.ifs++(r.lists.map listN++(r.maps.map mapN++(r.acls.map aclN++(natN r.nat++(statN r.stat++(lsN r++(dvN r++pvN r))))))))
def formatB(chk:Rt→Int)(r:Rt):List UInt8 × Int:=if chk r=0 then(if 65536<(textL 0 (fmtN r)).length then([],7)else(textL 0 (fmtN r),0))else([],chk r)
def okW(x:List UInt8):Prop:=(x≠[]∧x.length≤40)∧∀b∈x,wordB b.toNat=true∧33≤b.toNat∧b.toNat≤126
mutual
def Nd.ok:Nd→Prop
 |.mk l ws b ks=>l=0∧ws≠[]∧(∀x∈ws,okW x)∧(b=false→ks=[])∧okL ks
def okL:List Nd→Prop
 |[]=>True
 |n :: r=>n.ok∧okL r
end
mutual
def flatN:Nd→List (List UInt8)
 |.mk _ ws false _=>ws++[[59]]
 |.mk _ ws true ks=>ws++([123] :: (flatL ks++[[125]]))
def flatL:List Nd→List (List UInt8)
 |[]=>[]
 |n :: r=>flatN n++flatL r
end
def lineB(d:Nat)(ws:List (List UInt8))(e:List UInt8):List UInt8:=ind d++joinW ws++e
mutual
def zKh(d:Nat):Nd→List (List UInt8)
 |.mk _ ws false _=>[lineB d ws [59]]
 |.mk _ ws true ks=>lineB d ws [32,123] :: (zEm (d+1) ks++[lineB d [] [125]])
def zEm(d:Nat):List Nd→List (List UInt8)
 |[]=>[]
 |n :: r=>zKh d n++zEm d r
end
theorem okL_append{a b:List Nd}:okL (a++b)↔okL a∧okL b:=by
 induction a with
 |nil=>simp only[List.nil_append,okL,true_and]
 |cons x r ih=>simp only[List.cons_append,okL,ih,and_assoc]
theorem okL_mem{l:List Nd}:okL l↔∀n∈l,n.ok:=by
 induction l with
 |nil=>simp only[okL,List.not_mem_nil,false_imp_iff,implies_true]
 |cons x r ih=>simp only[okL,ih,List.forall_mem_cons]
mutual
theorem textN_lines:∀(n:Nd) (d:Nat),textN d n=(zKh d n).flatMap (·++[10])
 |.mk _ ws false _,d=>by simp only[textN,zKh,List.flatMap_cons,List.flatMap_nil,List.append_nil,lineW,lineB]
 |.mk _ ws true ks,d=>by simp only[textN,zKh,List.flatMap_cons,List.flatMap_append,List.flatMap_nil,List.append_nil,zFw ks (d+1),lineW,lineB,List.append_assoc]
theorem zFw:∀(l:List Nd) (d:Nat),textL d l=(zEm d l).flatMap (·++[10])
 |[],_=>by simp only[textL,zEm,List.flatMap_nil]
 |n :: r,d=>by simp only[textL,zEm,List.flatMap_append,textN_lines n d,zFw r d]
end
theorem linesGo_all:∀ls:List (List UInt8),(∀z∈ls,∀b∈z,(b.toNat:Int)≠10)→zCs [] (ls.flatMap (·++[10]))=ls:=by
 intro ls;induction ls with
 |nil=>intro _;rfl
 |cons z r ih=>
  intro h;rw[List.flatMap_cons,List.append_assoc,run_line _ z [] (h z List.mem_cons_self),List.singleton_append,zCs,if_pos (by decide),ih (fun y hy=>h y (List.mem_cons_of_mem _ hy)),List.nil_append]
theorem tok_ind:∀(d:Nat) (r:List UInt8),tokGo [] (ind d++r)=tokGo [] r:=by
 intro d;induction d with
 |zero=>intro r;rfl
 |succ d ih=>
  intro r;rw[ind,List.append_assoc,ih,List.cons_append,List.cons_append,List.nil_append,tokGo,if_neg (by decide),if_pos (by decide),tokGo,if_neg (by decide),if_pos (by decide)];rfl
theorem okW.all{x:List UInt8}(h:okW x):wAll x=true:=List.all_eq_true.2 fun b hb=>(h.2 b hb).1
theorem tok_words(e:List UInt8)(t:List (List UInt8))(he:∀x,okW x→tokGo [] (x++e)=x :: t):∀(ws:List (List UInt8)) (x:List UInt8),okW x→(∀y∈ws,okW y) →
  tokGo [] (x++((ws.flatMap fun y=>32 :: y)++e))=x :: (ws++t):=by
 intro ws;induction ws with
 |nil=>intro x hx _;exact he x hx
 |cons y r ih=>
  intro x hx hr;rw[List.flatMap_cons,List.cons_append,List.cons_append,List.append_assoc,tok_gap (.inl ⟨hx.1.1,hx.all⟩) (by decide) (by decide),ih y (hr y List.mem_cons_self) (fun z hz=>hr z (List.mem_cons_of_mem _ hz))];rfl
theorem tok_semi{x:List UInt8}(h:okW x):tokGo [] (x++[59])=[x,[59]]:=by
 rw[run_tok _ x [] h.all,List.nil_append,tokGo,if_neg (by decide),if_neg (by decide),if_pos (by decide),flush,if_neg h.1.1];rfl
theorem tok_brace{x:List UInt8}(h:okW x):tokGo [] (x++[32,123])=[x,[123]]:=by
 rw[tok_gap (.inl ⟨h.1.1,h.all⟩) (by decide) (by decide)];rfl
theorem tok_line{d:Nat}{ws:List (List UInt8)}(h0:ws≠[])(h:∀x∈ws,okW x):zHv (lineB d ws [59])=ws++[[59]]∧zHv (lineB d ws [32,123])=ws++[[123]]:=by
 match ws,h0 with
 |x :: r,_=>
  have hr:∀y∈r,okW y:=fun y hy=>h y (List.mem_cons_of_mem _ hy)
  simp only[zHv,lineB,joinW,List.append_assoc,tok_ind];exact⟨tok_words [59] _ (fun x hx=>tok_semi hx) r x (h x List.mem_cons_self) hr,tok_words [32,123] _ (fun x hx=>tok_brace hx) r x (h x List.mem_cons_self) hr⟩
theorem tok_close(d:Nat):zHv (lineB d [] [125])=[[125]]:=by
 simp only[zHv,lineB,joinW,List.append_nil,tok_ind];rfl
mutual
theorem linesN_flat:∀(n:Nd) (d:Nat),n.ok→(zKh d n).flatMap zHv=flatN n
 |.mk _ ws false _,d,h=>by simp only[Nd.ok]at h;simp only[zKh,flatN,List.flatMap_cons,List.flatMap_nil,List.append_nil,(tok_line h.2.1 h.2.2.1).1]
 |.mk _ ws true ks,d,h=>by
  simp only[Nd.ok]at h;simp only[zKh,flatN,List.flatMap_cons,List.flatMap_append,List.flatMap_nil,List.append_nil,(tok_line h.2.1 h.2.2.1).2,zKo ks (d+1) h.2.2.2.2,tok_close,List.append_assoc,List.singleton_append]
theorem zKo:∀(l:List Nd) (d:Nat),okL l→(zEm d l).flatMap zHv=flatL l
 |[],_,_=>by simp only[zEm,flatL,List.flatMap_nil]
 |n :: r,d,h=>by simp only[okL]at h;simp only[zEm,flatL,List.flatMap_append,linesN_flat n d h.1,zKo r d h.2]
end
theorem ind_bytes:∀(d:Nat),∀b∈ind d,32≤b.toNat∧b.toNat≤126:=by
 intro d;induction d with
 |zero=>intro b hb;cases hb
 |succ d ih=>
  intro b hb;rw[ind]at hb;rcases List.mem_append.1 hb with h|h
  ·exact ih b h
  ·simp only[List.mem_cons,List.not_mem_nil,or_false]at h
   rcases h with rfl|rfl<;>decide
theorem zMz{d:Nat}{ws:List (List UInt8)}{e:List UInt8}(h:∀x∈ws,okW x)(he:∀b∈e,32≤b.toNat∧b.toNat≤126):∀b∈lineB d ws e,32≤b.toNat∧b.toNat≤126:=by
 intro b hb;simp only[lineB,List.mem_append]at hb;rcases hb with(hb|hb)|hb
 ·exact ind_bytes d b hb
 ·match ws,h,hb with
  |x :: r,h,hb=>
   simp only[joinW,List.mem_append,List.mem_flatMap,List.mem_cons]at hb;rcases hb with hb|⟨y,hy,rfl|hb⟩
   ·have:=(h x List.mem_cons_self).2 b hb;omega
   ·decide
   ·have:=(h y (List.mem_cons_of_mem _ hy)).2 b hb;omega
 ·exact he b hb
mutual
theorem linesN_bytes:∀(n:Nd) (d:Nat),n.ok→∀z∈zKh d n,∀b∈z,32≤b.toNat∧b.toNat≤126
 |.mk _ ws false _,d,h,z,hz=>by
  simp only[Nd.ok]at h;simp only[zKh,List.mem_singleton]at hz;rw[hz];exact zMz h.2.2.1 (by decide)
 |.mk _ ws true ks,d,h,z,hz=>by
  simp only[Nd.ok]at h;simp only[zKh,List.mem_cons,List.mem_append,List.not_mem_nil,or_false]at hz;rcases hz with rfl|hz|rfl
  ·exact zMz h.2.2.1 (by decide)
  ·exact zJm ks (d+1) h.2.2.2.2 z hz
  ·exact zMz (fun x hx=>by cases hx) (by decide)
theorem zJm:∀(l:List Nd) (d:Nat),okL l→∀z∈zEm d l,∀b∈z,32≤b.toNat∧b.toNat≤126
 |[],_,_,z,hz=>by simp only[zEm,List.not_mem_nil]at hz
 |n :: r,d,h,z,hz=>by
  simp only[okL]at h;simp only[zEm,List.mem_append]at hz;rcases hz with hz|hz
  ·exact linesN_bytes n d h.1 z hz
  ·exact zJm r d h.2 z hz
end
theorem valid_text(ls:List (List UInt8))(h:∀z∈ls,∀b∈z,32≤b.toNat∧b.toNat≤126):zDo (ls.flatMap (·++[10]))=true:=by
 refine List.all_eq_true.2 fun b hb=>?_
 obtain⟨z,hz,hb⟩:=List.mem_flatMap.1 hb;rcases List.mem_append.1 hb with hb|hb
 ·have:=h z hz b hb
  simp only[zIz,Bool.or_eq_true,Bool.and_eq_true,decide_eq_true_eq];exact .inr ⟨by omega,by omega⟩
 ·rw[List.mem_singleton.1 hb];decide
theorem zJk{ns:List Nd}(h:okL ns)(d:Nat):zCb (textL d ns)=zEm d ns∧zDo (textL d ns)=true∧txs (zCv (textL d ns))=flatL ns:=by
 have hb:=zJm ns d h
 have h1:zCb (textL d ns)=zEm d ns:=by
  rw[zCb,zFw];exact linesGo_all _ fun z hz b hz' => by have:=hb z hz b hz';omega
 exact⟨h1,by rw[zFw];exact valid_text _ hb,by rw[zCv,txs_from,h1];exact zKo ns d h⟩
def zeroT(l:List (List UInt8)):List Tk:=l.map fun x=>((0:Int),x)
mutual
def costN:Nd→Nat
 |.mk _ ws false _=>ws.length+1
 |.mk _ ws true ks=>ws.length+2+costL ks
def costL:List Nd→Nat
 |[]=>0
 |n :: r=>1+costN n+costL r
end
theorem okW.plain{x:List UInt8}(h:okW x):zJn x=false:=by
 have hm:∀c:UInt8,markB c.toNat=true→(x==[c])=false:=fun c hc=>by
  rw[beq_eq_false_iff_ne];rintro rfl;have:=(h.2 c List.mem_cons_self).1;simp only[wordB,hc,Bool.not_true,Bool.and_false,Bool.false_and]at this;cases this
 simp only[zJn,hm 59 (by decide),hm 123 (by decide),hm 125 (by decide),Bool.or_self]
theorem node_words(rest:List Tk):∀(ws acc:List (List UInt8)) (f:Nat),(∀x∈ws,okW x)→nodeN 0 (f+ws.length) 0 (zeroT ws++rest) acc=nodeN 0 f 0 rest (acc++ws):=by
 intro ws;induction ws with
 |nil=>intro acc f _;simp only[zeroT,List.map_nil,List.nil_append,List.append_nil,List.length_nil,Nat.add_zero]
 |cons x r ih=>
  intro acc f h;have h1:=ih (acc++[x]) f fun y hy=>h y (List.mem_cons_of_mem _ hy)
  simp only[zeroT]at h1;simp only[zeroT,List.map_cons,List.cons_append,List.length_cons,←Nat.add_assoc,nodeN,(h x List.mem_cons_self).plain,Bool.not_false,if_true];rw[h1,List.append_assoc,List.singleton_append]
theorem zeroT_app(a b:List (List UInt8)):zeroT (a++b)=zeroT a++zeroT b:=List.map_append
mutual
theorem nodeN_flat:∀(n:Nd) (f:Nat) (rest:List Tk),n.ok→costN n≤f→nodeN 0 f 0 (zeroT (flatN n)++rest) []=.ok (n,rest)
 |.mk l ws false ks,f,rest,h,hf=>by
  simp only[Nd.ok]at h;obtain⟨rfl,h0,h1,h2,_⟩:=h;obtain rfl:=h2 (by first|rfl|trivial);simp only[costN]at hf;obtain⟨k,rfl⟩:∃k,f=k+1+ws.length:=⟨f - 1 - ws.length,by omega⟩;rw[flatN,zeroT_app,List.append_assoc,node_words _ ws [] _ h1,List.nil_append]
  match ws,h0 with
  |x :: r,_=>rfl
 |.mk l ws true ks,f,rest,h,hf=>by
  simp only[Nd.ok]at h;obtain⟨rfl,h0,h1,_,h2⟩:=h;simp only[costN]at hf;obtain⟨k,rfl⟩:∃k,f=k+1+ws.length:=⟨f - 1 - ws.length,by omega⟩;obtain⟨g,hg,h3⟩:=zLx ks k true ((0,[125]) :: rest) [] h2 (by omega)
  have h4:seqN 0 k true (zeroT (flatL ks)++(0,[125]) :: rest) []=.ok (ks,rest):=by
   rw[h3];obtain⟨j,rfl⟩:∃j,g=j+1:=⟨g - 1,by omega⟩;simp only[seqN,Bool.true_and,beq_self_eq_true,if_true,List.nil_append]
  rw[flatN,zeroT_app,List.append_assoc,node_words _ ws [] _ h1,List.nil_append]
  have h5:zeroT ([123] :: (flatL ks++[[125]]))++rest=(0,[123]) :: (zeroT (flatL ks)++(0,[125]) :: rest):=by
   simp only[zeroT,List.map_cons,List.map_append,List.map_nil,List.cons_append,List.append_assoc,List.nil_append]
  rw[h5]
  match ws,h0 with
  |x :: r,_=>
   rw[nodeN,h4];rfl
theorem zLx:∀(l:List Nd) (f:Nat) (inner:Bool) (rest:List Tk) (acc:List Nd),okL l→costL l≤f→∃g,f - costL l≤g∧seqN 0 f inner (zeroT (flatL l)++rest) acc=seqN 0 g inner rest (acc++l)
 |[],f,inner,rest,acc,_,_=>⟨f,by omega,by simp only[flatL,zeroT,List.map_nil,List.nil_append,List.append_nil]⟩
 |n :: r,f,inner,rest,acc,h,hf=>by
  simp only[okL]at h;simp only[costL]at hf;obtain⟨k,rfl⟩:∃k,f=k+1:=⟨f - 1,by omega⟩;have h1:=nodeN_flat n k (zeroT (flatL r)++rest) h.1 (by omega);obtain⟨g,hg,h2⟩:=zLx r k inner rest (acc++[n]) h.2 (by omega);refine⟨g,by simp only[costL];omega,?_⟩;rw[flatL,zeroT_app,List.append_assoc]
  have h3:∃x t,zeroT (flatN n)++(zeroT (flatL r)++rest)=((0:Int),x) :: t∧(x==([125]:List UInt8))=false:=by
   match n,h.1 with
   |.mk l (x :: ws) b ks,h=>
    simp only[Nd.ok]at h;have hx:=(h.2.2.1 x List.mem_cons_self).plain;simp only[zJn,Bool.or_eq_false_iff]at hx;cases b
    ·exact⟨x,_,by rw[flatN];rfl,hx.2⟩
    ·exact⟨x,_,by rw[flatN];rfl,hx.2⟩
   |.mk l [] b ks,h=>simp only[Nd.ok,ne_eq,not_true_eq_false,false_and,and_false]at h
  obtain⟨x,t,h3,hx⟩:=h3;rw[h3]at h1⊢;simp only[seqN,hx,Bool.and_false,Bool.false_eq_true,if_false,h1,h2,List.append_assoc,List.singleton_append]
end
mutual
theorem costN_le:∀n:Nd,costN n+1≤2*(flatN n).length
 |.mk _ ws false _=>by simp only[costN,flatN,List.length_append,List.length_cons,List.length_nil];omega
 |.mk _ ws true ks=>by have:=zOi ks;simp only[costN,flatN,List.length_append,List.length_cons,List.length_nil];omega
theorem zOi:∀l:List Nd,costL l≤2*(flatL l).length
 |[]=>by simp only[costL,flatL,List.length_nil];omega
 |n :: r=>by have:=costN_le n;have:=zOi r;simp only[costL,flatL,List.length_append];omega
end
theorem joinW_len:∀ws:List (List UInt8),(∀x∈ws,okW x)→(joinW ws).length≤41*ws.length
 |[],_=>Nat.zero_le _
 |x :: r,h=>by
  have h1:∀r:List (List UInt8),(∀x∈r,okW x)→(r.flatMap fun y=>32 :: y).length≤41*r.length:=by
   intro r;induction r with
   |nil=>intro _;simp
   |cons y t ih=>
    intro h;have h2:=ih fun z hz=>h z (List.mem_cons_of_mem _ hz)
    have h3:=(h y List.mem_cons_self).1.2;simp only[List.flatMap_cons,List.length_append,List.length_cons]at h2⊢;omega
  have h2:=h1 r fun z hz=>h z (List.mem_cons_of_mem _ hz)
  have h3:=(h x List.mem_cons_self).1.2;simp only[joinW,List.length_append,List.length_cons];omega
theorem line_len(d:Nat){ws:List (List UInt8)}(e:List UInt8)(h:∀x∈ws,okW x):(lineW d ws e).length≤2*d+41*ws.length+e.length+1:=by
 have h1:=joinW_len ws h
 have h2:∀d,(ind d).length=2*d:=fun d=>by
  induction d with
  |zero=>rfl
  |succ d ih=>rw[ind,List.length_append,ih];simp;omega
 simp only[lineW,List.length_append,h2,List.length_cons,List.length_nil];omega
mutual
theorem textN_size:∀(n:Nd) (d:Nat),n.ok→(textN d n).length≤(flatN n).length*(50+2*(d+(flatN n).length))
 |.mk _ ws false _,d,h=>by
  simp only[Nd.ok]at h;have h1:=line_len d [59] h.2.2.1;have h2:ws.length≠0:=by simpa using h.2.1
  simp only[textN,flatN,List.length_append,List.length_cons,List.length_nil]at h1⊢
  have h3:(ws.length+(0+1))*50+1*(2*d)≤(ws.length+(0+1))*(50+2*(d+(ws.length+(0+1)))):=by
   rw[Nat.mul_add];exact Nat.add_le_add_left (Nat.mul_le_mul (by omega) (by omega)) _
  omega
 |.mk _ ws true ks,d,h=>by
  simp only[Nd.ok]at h;have h1:=line_len d [32,123] h.2.2.1;have h2:ws.length≠0:=by simpa using h.2.1
  have h3:=line_len d [125] (ws:=[]) fun x hx=>by cases hx
  have h4:=zNe ks (d+1) h.2.2.2.2;simp only[textN,flatN,List.length_append,List.length_cons,List.length_nil]at h1 h3⊢;generalize (flatL ks).length=t at h4⊢
  have h5:t*(50+2*(d+1+t))+(ws.length+2)*(50+2*d)≤(ws.length+(t+(0+1)+1))*(50+2*(d+(ws.length+(t+(0+1)+1)))):=by
   rw[show ws.length+(t+(0+1)+1)=t+(ws.length+2) by omega,Nat.add_mul t (ws.length+2)];exact Nat.add_le_add (Nat.mul_le_mul (Nat.le_refl _) (by omega)) (Nat.mul_le_mul (Nat.le_refl _) (by omega))
  have h7:(ws.length+2)*50+2*(2*d)≤(ws.length+2)*(50+2*d):=by
   rw[Nat.mul_add];exact Nat.add_le_add_left (Nat.mul_le_mul (by omega) (Nat.le_refl _)) _
  generalize (ws.length+2)*(50+2*d)=P at h5 h7;generalize t*(50+2*(d+1+t))=R at h4 h5;generalize (ws.length+(t+(0+1)+1))*(50+2*(d+(ws.length+(t+(0+1)+1))))=Z at h5⊢;omega
theorem zNe:∀(l:List Nd) (d:Nat),okL l→(textL d l).length≤(flatL l).length*(50+2*(d+(flatL l).length))
 |[],_,_=>by simp only[textL,List.length_nil];omega
 |n :: r,d,h=>by
  simp only[okL]at h;have h1:=textN_size n d h.1;have h2:=zNe r d h.2;simp only[textL,flatL,List.length_append];have h3:(flatN n).length*(50+2*(d+(flatN n).length))≤(flatN n).length*(50+2*(d+((flatN n).length+(flatL r).length))):=Nat.mul_le_mul (Nat.le_refl _) (by omega);have h4:(flatL r).length*(50+2*(d+(flatL r).length))≤(flatL r).length*(50+2*(d+((flatN n).length+(flatL r).length))):=Nat.mul_le_mul (Nat.le_refl _) (by omega);rw[Nat.add_mul];omega
end
theorem digC_nat:∀n:Nat,n<10→(digC n).toNat=48+n:=by decide +kernel
theorem zGz(n:Nat):∀x∈dec n,48≤x.toNat∧x.toNat≤57:=by
 induction n using Nat.strongRecOn with
 |ind n ih=>
  by_cases h:n<10
  ·rw[zFo h]
   intro x hx;obtain rfl:=List.mem_singleton.1 hx;rw[digC_nat n h];omega
  ·rw[zLb h]
   intro x hx;rcases List.mem_append.1 hx with hx|hx
   ·exact ih (n / 10) (by omega) x hx
   ·obtain rfl:=List.mem_singleton.1 hx
    rw[digC_nat _ (Nat.mod_lt _ (by omega))];omega
theorem zMe(n:Nat):∀x∈dec n,(x.toNat:Int)≠46:=fun x hx=>by have:=zGz n x hx;omega
theorem dots_fmt(a:Nat):dots (fmtA a)=[dec (byteA a 0),dec (byteA a 1),dec (byteA a 2),dec (byteA a 3)]:=by
 rw[fmtA_eq];simp only[List.append_assoc,List.cons_append,List.nil_append];unfold dots;rw[zJe _ _ _ (zMe _),zJe _ _ _ (zMe _),zJe _ _ _ (zMe _),zNg _ _ (zMe _)];simp
theorem zJf{n:Nat}{m:Int}(h:(n:Int)≤m)(hn:n≤9999999999):numIn (dec n) 0 m=some (n:Int):=by
 unfold numIn;rw[numOf_dec n hn];simp only[];rw[if_pos (by omega)]
theorem zHo{a:Nat}(ha:a<4294967296):zBu (fmtA a)=some a:=by
 unfold zBu;rw[dots_fmt,if_pos (by rfl)];have h0:=zEw a 0;have h1:=zEw a 1;have h2:=zEw a 2;have h3:=zEw a 3;rw[zLd (zJf (by omega) (by omega)),zLd (zJf (by omega) (by omega)),zLd (zJf (by omega) (by omega)),zLd (zJf (by omega) (by omega)),octs]
 congr 1
 unfold byteA oct;simp only[Nat.reduceMul,Nat.reduceSub,Nat.reducePow,Nat.pow_zero];omega
theorem index_slash_hit{a b:List UInt8}(h:∀x∈a,(x.toNat:Int)≠47):Lib.index (a++47 :: b) [47]=a.length:=by
 apply Lib.index_first (by simp)
 ·unfold Lib.occAt;rw[List.drop_left];rfl
 ·intro j hj
  unfold Lib.occAt;rw[List.drop_append_of_le_length (by omega)];cases hd:a.drop j with
  |nil=>have:=congrArg List.length hd;simp at this;omega
  |cons c r=>
   have hc:c∈a:=List.mem_of_mem_drop (by rw[hd];exact List.mem_cons_self);have h2:c≠47:=fun e=>h c hc (by rw[e];rfl)
   simp[List.isPrefixOf,Ne.symm h2]
theorem zGp(a:Nat):∀x∈fmtA a,x.toNat=46∨48≤x.toNat∧x.toNat≤57:=by
 rw[fmtA_eq];intro x hx;simp only[List.mem_append,List.mem_singleton]at hx;rcases hx with(((((hx|rfl)|hx)|rfl)|hx)|rfl)|hx
 all_goals first
  |exact .inr (zGz _ x hx)
  |exact .inl rfl
theorem fmt_noslash(a:Nat):∀x∈fmtA a,(x.toNat:Int)≠47:=fun x hx=>by have:=zGp a x hx;omega
theorem host_back{a:Nat}(ha:a<4294967296){n:Int}(h0:0≤n)(h1:n≤32):hostA (hostF a n)=some (a,n):=by
 unfold hostF;rw[if_pos ⟨h0,h1⟩,List.append_assoc,List.singleton_append];have hi:=index_slash_hit (b:=dec n.toNat) (fmt_noslash a);refine host_yes hi ?_ ?_
 ·rw[List.take_left,zHo ha]
 ·rw[←List.drop_drop,List.drop_left]
  show numIn (dec n.toNat) 0 32=some n;rw[zJf (by omega) (by omega)]
  congr 1;omega
theorem pfx_back{p:Nat}(hp:p<4294967296){n:Int}(h:zAk p n=true):pfxA (pfxF p n)=some (p,n):=by
 have hv:0≤n∧n≤32:=by
  unfold zAk at h;simp only[Bool.and_eq_true,decide_eq_true_eq]at h;exact h.1
 unfold pfxF pfxA;rw[if_pos h,host_back hp hv.1 hv.2];simp[h]
theorem zJw{n lo hi:Int}(h0:0≤n)(h1:lo≤n)(h2:n≤hi)(h3:hi≤9999999999):numIn (decI n) lo hi=some n:=by
 unfold numIn decI;rw[numOf_dec _ (by omega)];simp only;rw[if_pos (by omega)]
 congr 1
 omega
theorem okW_mk{x:List UInt8}(h:x≠[])(hl:x.length≤40)(hb:∀b∈x,45≤b.toNat∧b.toNat≤57∨b.toNat=126):okW x:=⟨⟨h,hl⟩,fun b hm=>by
 have h1:=hb b hm;refine⟨?_,by omega,by omega⟩;simp only[wordB,zGo,markB,Bool.and_eq_true,Bool.not_eq_true', Bool.or_eq_false_iff,beq_eq_false_iff_ne,ne_eq]
 omega⟩
theorem zDa{x:List UInt8}(h:nameB x=true):okW x:=by
 cases x with
 |nil=>cases h
 |cons c r=>
  simp only[nameB,Bool.and_eq_true,decide_eq_true_eq,zIx,List.all_eq_true]at h;refine⟨⟨by simp,by simp only[List.length_cons];omega⟩,fun b hb=>?_⟩
  have hc:nameC b.toNat=true:=by
   rcases List.mem_cons.1 hb with rfl|hb
   ·simp[nameC,h.1.2]
   ·exact h.2 b hb
  simp only[nameC,zHw,zGw,Bool.or_eq_true,Bool.and_eq_true,decide_eq_true_eq,beq_iff_eq]at hc;simp only[wordB,zGo,markB,Bool.and_eq_true,Bool.not_eq_true', Bool.or_eq_false_iff,beq_eq_false_iff_ne,ne_eq];omega
theorem zCe{n:Int}(h:n≤16777215):okW (decI n):=okW_mk (dec_pos _) (Nat.le_trans (zHz 8 _ (by omega)) (by decide)) fun b hb=>.inl (by have:=zGz _ b hb;omega)
theorem fmt_pos(a:Nat):fmtA a≠[]:=by
 rw[fmtA_eq];simp
theorem zIi(a:Nat):okW (fmtA a):=okW_mk (fmt_pos a) (Nat.le_trans (zGg a) (by decide)) fun b hb=>.inl (by have:=zGp a b hb;omega)
theorem okW_host{a:Nat}{n:Int}(h0:0≤n)(h1:n≤32):okW (hostF a n):=by
 unfold hostF;rw[if_pos ⟨h0,h1⟩];have h2:=zGg a;have h3:(dec n.toNat).length≤2:=zHz 1 _ (by omega);refine okW_mk (by simp) (by simp only[List.length_append,List.length_cons,List.length_nil];omega) fun b hb=>.inl ?_
 simp only[List.mem_append,List.mem_singleton]at hb;rcases hb with(hb|rfl)|hb
 ·have:=zGp a b hb;omega
 ·decide
 ·have:=zGz _ b hb;omega
theorem zLo{p:Nat}{n:Int}(h:zAk p n=true):0≤n∧n≤32:=by
 unfold zAk at h;simp only[Bool.and_eq_true,decide_eq_true_eq]at h;exact h.1
theorem zIb{p:Nat}{n:Int}(h:zAk p n=true):okW (pfxF p n):=by
 unfold pfxF;rw[if_pos h];exact okW_host (zLo h).1 (zLo h).2
theorem numGo_digits:∀(l:List UInt8) (v u:Int),numGo v l=some u→∀b∈l,48≤b.toNat∧b.toNat≤57:=by
 intro l;induction l with
 |nil=>intro v u _ b hb;cases hb
 |cons c r ih=>
  intro v u h b hb;rw[numGo]at h;split at h
  ·rename_i hd
   rcases List.mem_cons.1 hb with rfl|hb
   ·simp only[zGw,Bool.and_eq_true,decide_eq_true_eq]at hd;omega
   ·exact ih _ _ h b hb
  ·cases h
theorem numIn_digits{l:List UInt8}{lo hi v:Int}(h:numIn l lo hi=some v):∀b∈l,48≤b.toNat∧b.toNat≤57:=by
 unfold numIn numOf at h;split at h
 ·cases h
 ·rename_i u hu
  split at hu
  ·exact numGo_digits l 0 u hu
  ·cases hu
theorem dotGo_mem:∀(l cur:List UInt8) (b:UInt8),b∈cur∨b∈l→b.toNat=46∨∃p∈dotGo cur l,b∈p:=by
 intro l;induction l with
 |nil=>intro cur b h;exact .inr ⟨cur,by simp[dotGo],h.elim id (fun h=>by cases h)⟩
 |cons c r ih=>
  intro cur b h;rw[dotGo];split
  ·rename_i hc
   rcases h with h|h
   ·exact .inr ⟨cur,List.mem_cons_self,h⟩
   ·rcases List.mem_cons.1 h with rfl|h
    ·exact .inl (by omega)
    ·rcases ih [] b (.inr h)with h|⟨p,hp,h⟩
     ·exact .inl h
     ·exact .inr ⟨p,List.mem_cons_of_mem _ hp,h⟩
  ·refine ih (cur++[c]) b ?_
   rcases h with h|h
   ·exact .inl (List.mem_append_left _ h)
   ·rcases List.mem_cons.1 h with rfl|h
    ·exact .inl (List.mem_append_right _ List.mem_cons_self)
    ·exact .inr h
theorem octs_digits:∀(ps:List (List UInt8)) (a r:Nat),octs ps a=some r→∀p∈ps,∀b∈p,48≤b.toNat∧b.toNat≤57:=by
 intro ps;induction ps with
 |nil=>intro a r _ p hp;cases hp
 |cons q qs ih=>
  intro a r h p hp;rw[octs]at h;split at h
  ·cases h
  ·rename_i v hv
   rcases List.mem_cons.1 hp with rfl|hp
   ·exact numIn_digits hv
   ·exact ih _ _ h p hp
theorem parse_odd{l:List UInt8}{b:UInt8}(hb:b∈l)(h:¬(b.toNat=46∨48≤b.toNat∧b.toNat≤57)):zBu l=none:=by
 cases hp:zBu l with
 |none=>rfl
 |some r=>
  unfold zBu at hp;split at hp
  ·rcases dotGo_mem l [] b (.inr hb)with h1|⟨p,h1,h2⟩
   ·exact absurd (.inl h1) h
   ·exact absurd (.inr (octs_digits _ _ _ hp p h1 b h2)) h
  ·cases hp
theorem index_noslash{l:List UInt8}(h:∀b∈l,(b.toNat:Int)≠47):Lib.index l [47] = -1:=by
 apply Lib.index_none;intro j hj;unfold Lib.occAt;cases hd:l.drop j with
 |nil=>rfl
 |cons b r=>
  have hb:b∈l:=List.mem_of_mem_drop (by rw[hd];simp);have:(47:UInt8)≠b:=fun e=>h b hb (by rw[←e];rfl)
  simp[List.isPrefixOf,this]
theorem cutL_miss{c:UInt8}:∀{l:List UInt8},c∉l→cutL c l=(l,[],false):=by
 intro l;induction l with
 |nil=>intro _;rfl
 |cons x r ih=>
  intro h;have h1:(x==c)=false:=by rw[beq_eq_false_iff_ne];rintro rfl;exact h List.mem_cons_self
  rw[cutL,h1,ih (fun h2=>h (List.mem_cons_of_mem _ h2))];rfl
theorem cutL_hit{c:UInt8}(r:List UInt8):∀{l:List UInt8},c∉l→cutL c (l++c :: r)=(l,r,true):=by
 intro l;induction l with
 |nil=>intro _;rw[List.nil_append,cutL,beq_self_eq_true];rfl
 |cons x t ih=>
  intro h;have h1:(x==c)=false:=by rw[beq_eq_false_iff_ne];rintro rfl;exact h List.mem_cons_self
  rw[List.cons_append,cutL,h1,ih (fun h2=>h (List.mem_cons_of_mem _ h2))];rfl
theorem any_not{l:List UInt8}{x:UInt8}{r w:List UInt8}(hw:w=x :: r)(hx:65≤x.toNat)(h:∀b∈l,b.toNat<65∨b.toNat=126)(h2:x.toNat≠126):(l==w)=false:=by
 subst hw;rw[beq_eq_false_iff_ne];rintro rfl;have:=h x List.mem_cons_self;omega
theorem maskLen_some{m:Nat}:∀{g n:Nat},g≤33→zCr m g=some n→n≤32∧maskN (n:Int)=m:=by
 intro g;induction g with
 |zero=>intro n _ h;cases h
 |succ k ih=>
  intro n hg h;rw[zCr]at h;split at h
  ·rename_i h1;cases h;exact⟨by omega,h1⟩
  ·exact ih (by omega) h
theorem low_valid{a k:Nat}(h:a &&& (2 ^ k - 1)=0):a % 2 ^ k=0:=by
 rwa [Nat.and_two_pow_sub_one_eq_mod]at h
theorem wild_back{a m:Nat}(ha:a<4294967296)(hm:m<4294967296)(h:a &&& m=0):wildA (wildW a m)=some (a,m)∧okW (wildW a m):=by
 unfold wildW;cases hl:zCr (4294967295 - m) 33 with
 |some n=>
  obtain⟨h1,h2⟩:=maskLen_some (Nat.le_refl _) hl;simp only
  have hs:sz (n:Int)=2 ^ (32 - n):=by
   unfold sz;rw[show zBa (n:Int)=n from by unfold zBa;omega]
  have hp:=sz_pos (n:Int);have hle:=sz_le (n:Int);unfold maskN at h2;split
  ·rename_i h32
   subst h32;have:m=0:=by rw[hs]at h2;simp at h2;omega
   subst this;refine⟨?_,zIi a⟩;unfold wildA;rw[any_not rfl (by decide) (fun b hb=>.inl (by have:=zGp a b hb;omega)) (by decide),if_neg (by decide),zHo ha]
  ·rename_i h32
   have hv:zAk a (n:Int)=true:=by
    unfold zAk;simp only[Bool.and_eq_true,decide_eq_true_eq];refine⟨⟨by omega,by omega⟩,?_⟩;rw[hs];refine low_valid (k:=32 - n) ?_;rw[←hs,show sz (n:Int) - 1=m from by omega];exact h
   refine⟨?_,okW_host (by omega) (by omega)⟩
   have hn:zBu (hostF a n)=none:=by
    refine parse_odd (b:=47) ?_ (by decide);unfold hostF;rw[if_pos ⟨by omega,by omega⟩];simp
   have hh:pfxA (hostF a n)=some (a,(n:Int)):=by
    unfold pfxA;rw[host_back ha (by omega) (by omega)];simp only[hv,if_true]
   unfold wildA;rw[any_not rfl (by decide) (fun b hb=>?_) (by decide),if_neg (by decide),hn]
   ·simp only[hh]
    unfold maskN;rw[show 4294967295 - (4294967296 - sz (n:Int))=m from by omega]
   ·unfold hostF at hb
    rw[if_pos ⟨by omega,by omega⟩]at hb;simp only[List.mem_append,List.mem_singleton]at hb;rcases hb with(hb|rfl)|hb
    ·have:=zGp a b hb;omega
    ·decide
    ·have:=zGz _ b hb;omega
 |none=>
  simp only
  have hb:∀b∈fmtA a++[126]++fmtA m,b.toNat=126∨46≤b.toNat∧b.toNat≤57∧b.toNat≠47:=by
   intro b hb;simp only[List.mem_append,List.mem_singleton]at hb;rcases hb with(hb|rfl)|hb
   ·have:=zGp a b hb;omega
   ·decide
   ·have:=zGp m b hb;omega
  have h3:=zGg a;have h4:=zGg m;refine⟨?_,okW_mk (by simp) (by simp only[List.length_append,List.length_cons,List.length_nil];omega) fun b h2=>by have:=hb b h2;omega⟩;have hn:zBu (fmtA a++[126]++fmtA m)=none:=parse_odd (b:=126) (by simp) (by decide)
  have hx:pfxA (fmtA a++[126]++fmtA m)=none:=by
   unfold pfxA;rw[host_miss (index_noslash fun b h2=>by have:=hb b h2;omega)]
  have hc:cutL 126 (fmtA a++[126]++fmtA m)=(fmtA a,fmtA m,true):=by
   rw[List.append_assoc];exact cutL_hit _ fun h2=>by have:=zGp a _ h2;revert this;decide
  unfold wildA;rw[any_not rfl (by decide) (fun b h2=>by have:=hb b h2;omega) (by decide),if_neg (by decide),hn];simp only[hx,hc,zHo ha,zHo hm,h,beq_self_eq_true,if_true]
theorem dec_dash(n:Int):(45:UInt8)∉decI n:=fun h=>by have:=zGz _ _ h;revert this;decide
theorem port_back{lo hi:Int}(h0:0≤lo)(h1:lo≤hi)(h2:hi≤65535):portA (portW lo hi)=some (lo,hi)∧okW (portW lo hi):=by
 unfold portW;by_cases h:lo=hi
 ·subst h
  rw[if_pos (by simp)];refine⟨?_,zCe (by omega)⟩;unfold portA;rw[cutL_miss (dec_dash lo),zJw h0 h0 h2 (by omega)];rfl
 ·rw[if_neg (by simpa using h)]
  have h3:(decI lo).length≤9:=zHz 8 _ (by omega);have h4:(decI hi).length≤9:=zHz 8 _ (by omega);refine⟨?_,okW_mk (by simp) (by simp only[List.length_append,List.length_cons,List.length_nil];omega) fun b hb=>?_⟩
  ·unfold portA
   rw[List.append_assoc,List.singleton_append,cutL_hit _ (dec_dash lo),zJw h0 h0 (by omega) (by omega)];simp only[if_true,zJw (show 0≤hi by omega) (show 0≤hi by omega) h2 (by omega)]
  ·simp only[List.mem_append,List.mem_singleton]at hb
   rcases hb with(hb|rfl)|hb
   ·have:=zGz _ b hb;omega
   ·decide
   ·have:=zGz _ b hb;omega
section
variable (r : List (List UInt8)) (b : Bool)
theorem zEn(x:List UInt8):wV ⟨x :: r,b⟩=x:=rfl
theorem zAo(x:List UInt8):wS ⟨x :: r,b⟩=⟨r,b⟩:=rfl
theorem zCw{n lo hi:Int}(h0:0≤n)(h1:lo≤n)(h2:n≤hi)(h3:hi≤9999999999):noV lo hi ⟨decI n :: r,b⟩=n∧noS lo hi ⟨decI n :: r,b⟩=⟨r,b⟩:=by
 simp only[noV,noS,zEn,zAo,zJw h0 h1 h2 h3,numV,Option.getD_some,Option.isSome_some,mustS,if_true,and_self]
theorem zFj{x:List UInt8}(h:nameB x=true):nmV ⟨x :: r,b⟩=x∧nmS ⟨x :: r,b⟩=⟨r,b⟩:=by
 simp only[nmV,nmS,zEn,zAo,h,mustS,if_true,and_self]
theorem zIm{a:Nat}(h:a<4294967296):adV ⟨fmtA a :: r,b⟩=a∧adS ⟨fmtA a :: r,b⟩=⟨r,b⟩:=by
 simp only[adV,adS,zEn,zAo,zHo h,Option.getD_some,Option.isSome_some,mustS,if_true,and_self]
theorem zIh{p:Nat}{n:Int}(hp:p<4294967296)(h:zAk p n=true):pxV ⟨pfxF p n :: r,b⟩=(p,n)∧pxS ⟨pfxF p n :: r,b⟩=⟨r,b⟩:=by
 simp only[pxV,pxS,zEn,zAo,pfx_back hp h,Option.getD_some,Option.isSome_some,mustS,if_true,and_self]
theorem ho_back{a:Nat}{n:Int}(ha:a<4294967296)(h0:0<n)(h1:n≤32)(h2:a≠0):hoV ⟨hostF a n :: r,b⟩=(a,n)∧hoS ⟨hostF a n :: r,b⟩=⟨r,b⟩:=by
 have e0:(a==0)=false:=by simpa using h2
 have e1:(n==0)=false:=by rw[beq_eq_false_iff_ne];omega
 simp only[hoV,hoS,zEn,zAo,host_back ha (Int.le_of_lt h0) h1,Option.getD_some,Option.isSome_some,mustS,e0,e1,Bool.not_false,Bool.and_self,if_true,and_self]
theorem wi_back{a m:Nat}(ha:a<4294967296)(hm:m<4294967296)(h:a &&& m=0):wiV ⟨wildW a m :: r,b⟩=(a,m)∧wiS ⟨wildW a m :: r,b⟩=⟨r,b⟩:=by
 simp only[wiV,wiS,zEn,zAo,(wild_back ha hm h).1,Option.getD_some,Option.isSome_some,mustS,if_true,and_self]
theorem po_back{lo hi:Int}(h0:0≤lo)(h1:lo≤hi)(h2:hi≤65535):poV ⟨portW lo hi :: r,b⟩=(lo,hi)∧poS ⟨portW lo hi :: r,b⟩=⟨r,b⟩:=by
 simp only[poV,poS,zEn,zAo,(port_back h0 h1 h2).1,Option.getD_some,Option.isSome_some,mustS,if_true,and_self]
theorem prot_back{n:Int}(h0:0≤n)(h1:n≤255):protV ⟨protW n :: r,b⟩=n∧protS ⟨protW n :: r,b⟩=⟨r,b⟩∧okW (protW n):=by
 by_cases h6:n=6
 ·subst h6;exact⟨rfl,rfl,zDa (by decide)⟩
 by_cases h17:n=17
 ·subst h17;exact⟨rfl,rfl,zDa (by decide)⟩
 have e:protW n=decI n:=by unfold protW;rw[if_neg (by simpa using h6),if_neg (by simpa using h17)]
 rw[e]
 have hw:∀(x:UInt8) (t:List UInt8),65≤x.toNat→x.toNat≠126→isW (x :: t) ⟨decI n :: r,b⟩=false:=fun x t hx hx2=>by
  show((some (decI n):Option (List UInt8))==some (x :: t))=false;have:=any_not (l:=decI n) (w:=x :: t) rfl hx (fun b hb=>.inl (by have:=zGz _ b hb;omega)) hx2;rw[beq_eq_false_iff_ne]at this⊢;exact fun h=>this (Option.some.inj h)
 obtain⟨h2,h3⟩:=zCw r b h0 h0 h1 (by omega);simp only[protV,protS,hw 105 [112] (by decide) (by decide),hw 116 [99,112] (by decide) (by decide),hw 117 [100,112] (by decide) (by decide),Bool.false_eq_true,if_false,h2,h3,true_and];exact zCe (by omega)
theorem src_back{n:Int}(h0:1≤n)(h1:n≤5):srcV ⟨srcN n :: r,b⟩=n∧srcS ⟨srcN n :: r,b⟩=⟨r,b⟩∧okW (srcN n):=by
 obtain rfl|rfl|rfl|rfl|rfl:n=1∨n=2∨n=3∨n=4∨n=5:=by omega
 all_goals exact⟨rfl,rfl,zDa (by decide)⟩
end
end Go.Proofs.YtdlgnhefpoalnaaGreatDoor
