/- The walks of beta's parse and Parse, over any contract of CheckRouter. Condition: Go's own tables lie in memory (EnvA). -/
import Derived.Test.YtdlgnhefpoalnaaGreatDoorLac
import Derived.Test.YtdlgnhefpoalnaaGreatDoorLab
set_option maxRecDepth 8000
set_option maxHeartbeats 16000000
namespace Go.Proofs.YtdlgnhefpoalnaaGreatDoor
open Lib (hid)
open Go.RowKit Go.Shelf
theorem zLu{P:Program}{T:TypeId}{k m b:Nat}(h:(P.info? T).map (fun i=>(i.zero.map (fun z=>z.cells.size),i.size,i.bytes))=some (some k,m,b)) :
  ∃i z,P.info? T=some i∧i.zero=some z∧z.cells.size=k∧i.size=m∧i.bytes=b:=by
 obtain⟨i,hi,h2⟩:=Option.map_eq_some_iff.1 h;simp only[Prod.mk.injEq]at h2;obtain⟨z,hz,h3⟩:=Option.map_eq_some_iff.1 h2.1;exact⟨i,z,hi,hz,h3,h2.2.1,h2.2.2⟩
section
variable {P : Program} {ops : Array Oper} {rest : List Oper} {o : Oper} {a : Act} {w : World} {Q : Exit → Act → World → Prop}
theorem zIq(w:World)(hgd:o.guard=none)(s x:Operand)(t:TypeId)
  (ho:o.op=.call { callee:=.builtin .append,args:=#[s,x],argTypes:=#[t,t] })
  (base:Nat) (e:TypeId) (i:TypeInfo) (z:Value) (size bts:Nat) (ht:P.underlying t=some (.slice e)) (hi:P.info? e=some i) (hz:i.zero=some z)
  (hsize:i.size=size) (hby:i.bytes=bts) (hzs:z.cells.size=size) (hsz:0<size)
  (v:Value) (n:Nat) (xs:List Value) (hs:a.eval s=v) (hown:w.ownsRow base e size v n xs)
  (cs:Array Value) (hx:a.eval x=.slice (some ⟨w.heap.size,0,none⟩) 1 1) (hl:cs.size=size) (h1:∀u∈cs.toList,u.oneCell' = true)
  (hbytes:(n+1)*bts≤140737488355328) (hpos:1≤bts) (hbase:base≤w.heap.size)
  (h:∀v' w', w'.ownsRow base e size v' (n+1) (xs++cs.toList)→w.grownBy w' v.ownBlock→(v'.ownBlock=v.ownBlock∨v'.ownBlock=some (w.heap.size+1))→wpList P ops Q rest (a.put o.dst v') w') :
  wpList P ops Q (o :: rest) a (w.alloc (.cells cs e)):=by
 refine wpList_append_own_at _ hgd s x t ho base e i z size bts ht hi hz hsize hby hzs hsz v n xs hs (hown.alloc _) ⟨w.heap.size,0,none⟩ 1 1 cs.toList hx (by simp[hl]) ?_ h1 ?_ hbytes (by simp;omega) ?_
 ·intro j u hu
  rw[zJo];simpa using hu
 ·have:=Nat.le_mul_of_pos_right (n+1) hpos
  simp only[maxLen];omega
 ·intro v' w' hown' hg _ hat
  refine h v' w' hown' ?_ (by simpa using hat);exact⟨hg.os,hg.tape,hg.output,yJ (by simp) hg.size,fun k hk hne=>(hg.block k (by simp;omega) hne).trans (Below.heap_alloc w _ k hk)⟩
end
theorem OwnE.snoc{α:Type}{w:World}{B n:Nat}{T:TypeId}{cells:α→Array Value}{v:Value}{l:List α}{x:α}(h:w.ownsRow B T n v (l.length+1) ((l.flatMap fun x=>(cells x).toList)++(cells x).toList)):OwnE w B T n cells v (l++[x]):=by
 unfold OwnE;simpa using h
structure KS (α:Type) (T S n b:Nat) (C:α→Array Value):Prop where
 row:(Tryz.prog.underlying T).map TypeDesc.isRow=some true
 size:(Tryz.prog.info? T).map (·.size)=some n
 info:(Tryz.prog.info? T).map (fun i=>(i.zero.map (fun z=>z.cells.size),i.size,i.bytes))=some (some n,n,b)
 sl:Tryz.prog.underlying S=some (.slice T)
theorem kIf:KS If 72 22 12 112 If.C:=⟨by kernel_rfl,by kernel_rfl,by kernel_rfl,Tryz.underlying22⟩
theorem kPList:KS PList 81 23 2 40 PList.C:=⟨by kernel_rfl,by kernel_rfl,by kernel_rfl,Tryz.underlying23⟩
theorem kRMap:KS RMap 84 24 2 40 RMap.C:=⟨by kernel_rfl,by kernel_rfl,by kernel_rfl,Tryz.underlying24⟩
theorem kAList:KS AList 87 25 2 40 AList.C:=⟨by kernel_rfl,by kernel_rfl,by kernel_rfl,Tryz.underlying25⟩
theorem kCl:KS Cl 138 82 7 64 Cl.C:=⟨by kernel_rfl,by kernel_rfl,by kernel_rfl,Tryz.underlying82⟩
theorem kRu:KS Ru 144 85 10 64 Ru.C:=⟨by kernel_rfl,by kernel_rfl,by kernel_rfl,Tryz.underlying85⟩
theorem kSr:KS Sr 78 27 7 64 Sr.C:=⟨by kernel_rfl,by kernel_rfl,by kernel_rfl,Tryz.underlying27⟩
theorem kNb:KS Nb 149 34 4 48 Nb.C:=⟨by kernel_rfl,by kernel_rfl,by kernel_rfl,Tryz.underlying34⟩
theorem kRd:KS Rd 230 29 5 48 Rd.C:=⟨by kernel_rfl,by kernel_rfl,by kernel_rfl,Tryz.underlying29⟩
theorem kAR:KS AR 147 28 3 24 AR.C:=⟨by kernel_rfl,by kernel_rfl,by kernel_rfl,Tryz.underlying28⟩
theorem kPf:KS Pf 76 35 2 16 Pf.C:=⟨by kernel_rfl,by kernel_rfl,by kernel_rfl,Tryz.underlying35⟩
theorem kAg:KS Ag 151 36 3 24 Ag.C:=⟨by kernel_rfl,by kernel_rfl,by kernel_rfl,Tryz.underlying36⟩
theorem kCd:KS Cd 153 37 5 40 Cd.C:=⟨by kernel_rfl,by kernel_rfl,by kernel_rfl,Tryz.underlying37⟩
theorem kTr:KS Tr 74 26 9 64 Tr.C:=⟨by kernel_rfl,by kernel_rfl,by kernel_rfl,Tryz.underlying26⟩
theorem kPRule:KS PRule 136 79 5 40 PRule.C:=⟨by kernel_rfl,by kernel_rfl,by kernel_rfl,Tryz.underlying79⟩
def AddP{α:Type}(T n:Nat)(C:α→Array Value)(G O B:Nat)(v:Value)(l:List α)(x:α)(w:World)(e:Ending)(w' : World):Prop :=
 ∃w1 gg cap,e=.returned (.pointer (some ⟨gg,l.length*n,none⟩))∧OwnE w1 B T n C (.slice (some ⟨gg,0,none⟩) (l.length+1) cap) (l++[x])∧w.grownBy w1 v.ownBlock∧(v.ownBlock=some gg∨w.heap.size≤gg)∧w' = w1.setCell ⟨G,O,none⟩ (.slice (some ⟨gg,0,none⟩) (l.length+1) cap)
abbrev AddSt(α:Type)(T n F:Nat)(C:α→Array Value):Prop:=∀(B G O:Nat) (v:Value) (l:List α) (x:α) (w:World),OwnE w B T n C v l→w.cell? ⟨G,O,none⟩=some v→w.frozen? ⟨G,O,none⟩=false→v.ownBlock≠some G→B≤w.heap.size→l.length≤1000000000→(C x).all (·.oneCell')=true →
 Calls Tryz.prog F #[.pointer (some ⟨G,O,none⟩),.agg (C x)] w (AddP T n C G O B v l x w)
theorem zEw{w w1:World}{G O:Nat}{v:Value}{row:Option Nat}(hg:w.grownBy w1 row)(hr:row≠some G)(hc:w.cell? ⟨G,O,none⟩=some v)(hf:w.frozen? ⟨G,O,none⟩=false):w1.cell? ⟨G,O,none⟩=some v∧w1.frozen? ⟨G,O,none⟩=false:=by
 have hl:G<w.heap.size:=World.block_lt_of_cell? w _ hc;have e:=hg.block G hl (fun e=>hr e.symm);unfold World.cell? World.frozen? at *;simp only at *;rw[e];exact⟨hc,hf⟩
theorem OwnE.push{α:Type}{P:Program}{w:World}{B n bts:Nat}{T SL:TypeId}{cells:α→Array Value}{v:Value}{l:List α}(h:OwnE w B T n cells v l)(hB:B≤w.heap.size)(hu:P.underlying SL=some (.slice T))
  (hI:(P.info? T).map (fun i=>(i.zero.map (fun z=>z.cells.size),i.size,i.bytes))=some (some n,n,bts)) (hn:0<n) (hl:∀x,(cells x).toList.length=n) (x:α) (h1:(cells x).all (·.oneCell')=true)
  (hb:(l.length+1)*bts≤140737488355328) (hk:0<bts) (ty:TypeId) :
  ∃A m c w', (Builtin.append_ #[SL,SL] ty #[v,.slice (some ⟨w.heap.size,0,none⟩) 1 1]).run P (w.alloc (.cells (cells x) T))=.ok (.slice A m c) w' ∧ OwnE w' B T n cells (.slice A m c) (l++[x])∧w.grownBy w' v.ownBlock ∧
   ((Value.slice A m c).ownBlock=v.ownBlock∨(Value.slice A m c).ownBlock=none∨∃k,(Value.slice A m c).ownBlock=some k∧w.heap.size≤k):=by
 obtain⟨i,z,hi,hz,hzs,his,hib⟩:=zLu hI;have ho:(w.alloc (.cells (cells x) T)).ownsRow B T n v l.length (l.flatMap fun x=>(cells x).toList):=OwnE.below h ((Below.refl _ w).alloc (yI _) _);have hm:=Nat.le_mul_of_pos_right (l.length+1) hk;obtain⟨v', w', hr,h2,h3,-,h5⟩:=run_append_own_at (P:=P) (w.alloc (.cells (cells x) T)) B SL ty T i z n bts hu hi hz his hib hzs hn v l.length _ ho ⟨w.heap.size,0,none⟩ 1 1 (cells x).toList (by rw[hl,Nat.one_mul])
  (fun j u hj=>by rw[zJo];simpa using hj) (fun u hu=>Array.all_eq_true_iff_forall_mem.1 h1 u (by simpa using hu)) (by simp only[maxLen];omega) hb (by simp;omega)
 have hf:∃A m c,v' = .slice A m c:=by
  rcases h2.2 with⟨e,-⟩|⟨g,cap,cur,e,-⟩
  ·exact⟨_,_,_,e⟩
  ·exact⟨_,_,_,e⟩
 obtain⟨A,m,c,rfl⟩:=hf;refine⟨A,m,c,w', hr,OwnE.snoc h2,(World.grownBy_alloc w _ _).trans h3,?_⟩;rcases h5 with q|q
 ·exact .inl q
 ·exact .inr (.inr ⟨_,q,by simp⟩)
section
variable {P : Program} {ops : Array Oper} {o : Oper} {a : Act} {w : World}
theorem zBx{K:Act→World→Prop}{Q:Exit→Act→World→Prop}{E:Prop}(hg:o.guard=none)(d x:Operand)(t t' : TypeId)(hop:o.op=Op.call { callee:=Callee.builtin Builtin.append,args:=#[d,x],argTypes:=#[t,t'] })
  (v u:Value) (hd:a.eval d=v) (hx:a.eval x=u) {v' : Value} {w' : World} (hr:(Builtin.append_ #[t,t'] o.type #[v,u]).run P w=.ok v' w') (hK:K (a.put o.dst v') w') :
  if Region.wanted o (yielded ops a.tmps)=true then Oper.wp P o a w K Q else E:=by
 have hw:Region.wanted o (yielded ops a.tmps)=true:=by simp[Region.wanted,hg]
 rw[if_pos hw];unfold Oper.wp execOp;simp only[hop,resolve,invoke,builtin,Sem.run_bind,Sem.run_pure,Result.andThen_ok,List.map_toArray,List.map_cons,List.map_nil,hd,hx,hr];exact hK
end
theorem zHx{α:Type}{T S n b:Nat}{C:α→Array Value}(K:KS α T S n b C)(hn:0<n)(hnl:∀x,(C x).toList.length=n)(hb:0<b∧b≤112){B G O:Nat}{v:Value}{l:List α}{x:α}{w:World}(h:OwnE w B T n C v l)(hc:w.cell? ⟨G,O,none⟩=some v)(hz:w.frozen? ⟨G,O,none⟩=false)(hG:v.ownBlock≠some G)(hB:B≤w.heap.size)(hl:l.length≤1000000000)(hone:(C x).all (·.oneCell')=true) :
  ∃A0 c0 wb w5 gg c5,v=.slice A0 l.length c0∧wb=w.alloc (.cells (C x) T)∧HasC T w.heap.size (C x) wb∧wb.heap.size=w.heap.size+1∧G<w.heap.size∧wb.cell? ⟨G,O,none⟩=some (.slice A0 l.length c0)∧(∀o,(wb.alloc o).cell? ⟨G,O,none⟩=some (.slice A0 l.length c0))∧w5.cell? ⟨G,O,none⟩=some (.slice A0 l.length c0)∧w5.frozen? ⟨G,O,none⟩=false ∧
   Hid ((Builtin.append_ #[S,S] S #[.slice A0 l.length c0,.slice (some ⟨wb.heap.size,0,none⟩) 1 1]).run Tryz.prog (wb.drew.alloc (.cells (C x) T))=.ok (.slice (some ⟨gg,0,none⟩) (l.length+1) c5) w5)∧(w5.setCell ⟨G,O,none⟩ (.slice (some ⟨gg,0,none⟩) (l.length+1) c5)).cell? ⟨G,O,none⟩=some (.slice (some ⟨gg,0,none⟩) (l.length+1) c5) ∧
   IntKind.i64.wrap (l.length:Int)=(l.length:Int)∧(0:Int)≤(l.length:Int)∧(l.length:Int)<(l.length:Int)+1∧Hid (AddP T n C G O B (.slice A0 l.length c0) l x w (.returned (.pointer (some ⟨gg,l.length*n,none⟩))) (w5.drew.setCell ⟨G,O,none⟩ (.slice (some ⟨gg,0,none⟩) (l.length+1) c5))):=by
 obtain⟨A0,c0,rfl⟩:∃A0 c0,v=.slice A0 l.length c0:=by obtain⟨A0,c0,e,-⟩:=h.slv;exact⟨A0,c0,e⟩
 have hlt:G<w.heap.size:=World.block_lt_of_cell? w _ hc;have HX:=HasC.new w T (C x);have hsz:(w.alloc (.cells (C x) T)).heap.size=w.heap.size+1:=by simp
 have hb1:Below w.heap.size w (w.alloc (.cells (C x) T)):=(Below.refl _ w).alloc (yI _) _;refine⟨A0,c0,w.alloc (.cells (C x) T),?_⟩;generalize hwb:w.alloc (.cells (C x) T)=wb at *;have ho:OwnE wb.drew B T n C (.slice A0 l.length c0) l:=OwnE.below (OwnE.below h hb1) ⟨rfl,rfl,rfl,yI _,fun _ _=>rfl⟩;have hbm:(l.length+1)*b≤140737488355328:=yJ (Nat.mul_le_mul (show l.length+1≤1000000001 by omega) hb.2) (by decide);obtain⟨A5,m5,c5,w5,hr,ho5,hg5,hn5⟩:=ho.push (P:=Tryz.prog) (by show B≤wb.heap.size;omega) K.sl K.info hn hnl x hone hbm hb.1 S;obtain⟨gg,cap', cur,e5,hgB,-,-⟩:=ho5.part hn hnl (k:=l.length) (by simp);rw[yA,List.length_singleton]at e5;injection e5 with e6 e7 e8
 subst e6 e7 e8;have cr:wb.cell? ⟨G,O,none⟩=some (.slice A0 l.length c0):=(hb1.cell (p:=⟨G,O,none⟩) hlt).trans hc;have HG5:w.grownBy w5 (Value.slice A0 l.length c0).ownBlock:=⟨hg5.os.trans hb1.os,hg5.tape.trans hb1.tape,hg5.output.trans hb1.output,yJ hb1.size hg5.size,fun k hk hne=>(hg5.block k (by show k<wb.heap.size;omega) hne).trans (hb1.block k hk)⟩;obtain⟨c6,f6⟩:=zEw HG5 hG hc hz;refine⟨w5,gg,c5,rfl,rfl,HX,hsz,hlt,cr,fun o=>(World.cell?_alloc_lt wb o ⟨G,O,none⟩ (by show G<_;omega)).trans cr,c6,f6,hid hr,World.cell?_setCell_same _ _ _ c6,by rw[IntKind.wrap_i64];omega,by omega,by omega,hid ?_⟩;refine⟨w5.drew,gg,c5,rfl,OwnE.below ho5 ⟨rfl,rfl,rfl,yI _,fun _ _=>rfl⟩,⟨HG5.os,HG5.tape,HG5.output,HG5.size,HG5.block⟩,?_,rfl⟩;rcases hn5 with q|q|⟨k,q,hk⟩
 ·exact .inl q.symm
 ·cases q
 ·injection q with q
  subst q;have hk' : wb.heap.size≤gg:=hk;exact .inr (by omega)
theorem addIf:AddSt If 72 12 199 If.C:=by
 intro B G O v l x w h hc hz hG hB hl hone;obtain⟨A0,c0,wb,w5,gg,c5,rfl,ewb,HX,hsz,hlt,cr,cra,c6,f6,HR,cn,d0,d1,d2,AP⟩:=zHx kIf (by decide) (fun _=>rfl) (by decide) h hc hz hG hB hl hone;go_enter Tryz.func199,Tryz.ntmps199;go_upto_region 1 with(fail)
 change Code.wp _ _ _ _ (w.alloc (.cells (If.C x) 72));rw[←ewb];obtain⟨cx0,cx1,cx2,cx3,cx4,cx5,cx6,cx7,cx8,cx9,cx10,cx11⟩:=bl12 HX;clear HX h hc hz ewb;go_wp2_with fail;go_region_law (refine zBx rfl _ _ 22 22 rfl (.slice A0 l.length c0) (.slice (some ⟨wb.heap.size,0,none⟩) 1 1) (by simp[Act.eval]) (by simp[Act.eval]) HR.out ?_)
 all_goals
  go_wp2_with fail;go_region_held3 (fun w' => w'.cell? ⟨G,O,none⟩=some (.slice (some ⟨gg,0,none⟩) (l.length+1) c5)) (assumption) (fail);go_wp2;go_ret;exact AP.out
theorem addPList:AddSt PList 81 2 139 PList.C:=by
 intro B G O v l x w h hc hz hG hB hl hone;obtain⟨A0,c0,wb,w5,gg,c5,rfl,ewb,HX,hsz,hlt,cr,cra,c6,f6,HR,cn,d0,d1,d2,AP⟩:=zHx kPList (by decide) (fun _=>rfl) (by decide) h hc hz hG hB hl hone;go_enter Tryz.func139,Tryz.ntmps139;go_upto_region 1 with(fail)
 change Code.wp _ _ _ _ (w.alloc (.cells (PList.C x) 81));rw[←ewb];obtain⟨cx0,cx1⟩:=bl2 HX;clear HX h hc hz ewb;go_wp2_with fail;go_region_law (refine zBx rfl _ _ 23 23 rfl (.slice A0 l.length c0) (.slice (some ⟨wb.heap.size,0,none⟩) 1 1) (by simp[Act.eval]) (by simp[Act.eval]) HR.out ?_)
 all_goals
  go_wp2_with fail;go_region_held3 (fun w' => w'.cell? ⟨G,O,none⟩=some (.slice (some ⟨gg,0,none⟩) (l.length+1) c5)) (assumption) (fail);go_wp2;go_ret;exact AP.out
theorem addRMap:AddSt RMap 84 2 142 RMap.C:=by
 intro B G O v l x w h hc hz hG hB hl hone;obtain⟨A0,c0,wb,w5,gg,c5,rfl,ewb,HX,hsz,hlt,cr,cra,c6,f6,HR,cn,d0,d1,d2,AP⟩:=zHx kRMap (by decide) (fun _=>rfl) (by decide) h hc hz hG hB hl hone;go_enter Tryz.func142,Tryz.ntmps142;go_upto_region 1 with(fail)
 change Code.wp _ _ _ _ (w.alloc (.cells (RMap.C x) 84));rw[←ewb];obtain⟨cx0,cx1⟩:=bl2 HX;clear HX h hc hz ewb;go_wp2_with fail;go_region_law (refine zBx rfl _ _ 24 24 rfl (.slice A0 l.length c0) (.slice (some ⟨wb.heap.size,0,none⟩) 1 1) (by simp[Act.eval]) (by simp[Act.eval]) HR.out ?_)
 all_goals
  go_wp2_with fail;go_region_held3 (fun w' => w'.cell? ⟨G,O,none⟩=some (.slice (some ⟨gg,0,none⟩) (l.length+1) c5)) (assumption) (fail);go_wp2;go_ret;exact AP.out
theorem addAList:AddSt AList 87 2 144 AList.C:=by
 intro B G O v l x w h hc hz hG hB hl hone;obtain⟨A0,c0,wb,w5,gg,c5,rfl,ewb,HX,hsz,hlt,cr,cra,c6,f6,HR,cn,d0,d1,d2,AP⟩:=zHx kAList (by decide) (fun _=>rfl) (by decide) h hc hz hG hB hl hone;go_enter Tryz.func144,Tryz.ntmps144;go_upto_region 1 with(fail)
 change Code.wp _ _ _ _ (w.alloc (.cells (AList.C x) 87));rw[←ewb];obtain⟨cx0,cx1⟩:=bl2 HX;clear HX h hc hz ewb;go_wp2_with fail;go_region_law (refine zBx rfl _ _ 25 25 rfl (.slice A0 l.length c0) (.slice (some ⟨wb.heap.size,0,none⟩) 1 1) (by simp[Act.eval]) (by simp[Act.eval]) HR.out ?_)
 all_goals
  go_wp2_with fail;go_region_held3 (fun w' => w'.cell? ⟨G,O,none⟩=some (.slice (some ⟨gg,0,none⟩) (l.length+1) c5)) (assumption) (fail);go_wp2;go_ret;exact AP.out
theorem addCl:AddSt Cl 138 7 208 Cl.C:=by
 intro B G O v l x w h hc hz hG hB hl hone;obtain⟨A0,c0,wb,w5,gg,c5,rfl,ewb,HX,hsz,hlt,cr,cra,c6,f6,HR,cn,d0,d1,d2,AP⟩:=zHx kCl (by decide) (fun _=>rfl) (by decide) h hc hz hG hB hl hone;go_enter Tryz.func208,Tryz.ntmps208;go_upto_region 1 with(fail)
 change Code.wp _ _ _ _ (w.alloc (.cells (Cl.C x) 138));rw[←ewb];obtain⟨cx0,cx1,cx2,cx3,cx4,cx5,cx6⟩:=bl7 HX;clear HX h hc hz ewb;go_wp2_with fail;go_region_law (refine zBx rfl _ _ 82 82 rfl (.slice A0 l.length c0) (.slice (some ⟨wb.heap.size,0,none⟩) 1 1) (by simp[Act.eval]) (by simp[Act.eval]) HR.out ?_)
 all_goals
  go_wp2_with fail;go_region_held3 (fun w' => w'.cell? ⟨G,O,none⟩=some (.slice (some ⟨gg,0,none⟩) (l.length+1) c5)) (assumption) (fail);go_wp2;go_ret;exact AP.out
theorem addRu:AddSt Ru 144 10 211 Ru.C:=by
 intro B G O v l x w h hc hz hG hB hl hone;obtain⟨A0,c0,wb,w5,gg,c5,rfl,ewb,HX,hsz,hlt,cr,cra,c6,f6,HR,cn,d0,d1,d2,AP⟩:=zHx kRu (by decide) (fun _=>rfl) (by decide) h hc hz hG hB hl hone;go_enter Tryz.func211,Tryz.ntmps211;go_upto_region 1 with(fail)
 change Code.wp _ _ _ _ (w.alloc (.cells (Ru.C x) 144));rw[←ewb];obtain⟨cx0,cx1,cx2,cx3,cx4,cx5,cx6,cx7,cx8,cx9⟩:=bl10 HX;clear HX h hc hz ewb;go_wp2_with fail;go_region_law (refine zBx rfl _ _ 85 85 rfl (.slice A0 l.length c0) (.slice (some ⟨wb.heap.size,0,none⟩) 1 1) (by simp[Act.eval]) (by simp[Act.eval]) HR.out ?_)
 all_goals
  go_wp2_with fail;go_region_held3 (fun w' => w'.cell? ⟨G,O,none⟩=some (.slice (some ⟨gg,0,none⟩) (l.length+1) c5)) (assumption) (fail);go_wp2;go_ret;exact AP.out
theorem addSr:AddSt Sr 78 7 214 Sr.C:=by
 intro B G O v l x w h hc hz hG hB hl hone;obtain⟨A0,c0,wb,w5,gg,c5,rfl,ewb,HX,hsz,hlt,cr,cra,c6,f6,HR,cn,d0,d1,d2,AP⟩:=zHx kSr (by decide) (fun _=>rfl) (by decide) h hc hz hG hB hl hone;go_enter Tryz.func214,Tryz.ntmps214;go_upto_region 1 with(fail)
 change Code.wp _ _ _ _ (w.alloc (.cells (Sr.C x) 78));rw[←ewb];obtain⟨cx0,cx1,cx2,cx3,cx4,cx5,cx6⟩:=bl7 HX;clear HX h hc hz ewb;go_wp2_with fail;go_region_law (refine zBx rfl _ _ 27 27 rfl (.slice A0 l.length c0) (.slice (some ⟨wb.heap.size,0,none⟩) 1 1) (by simp[Act.eval]) (by simp[Act.eval]) HR.out ?_)
 all_goals
  go_wp2_with fail;go_region_held3 (fun w' => w'.cell? ⟨G,O,none⟩=some (.slice (some ⟨gg,0,none⟩) (l.length+1) c5)) (assumption) (fail);go_wp2;go_ret;exact AP.out
theorem addNb:AddSt Nb 149 4 219 Nb.C:=by
 intro B G O v l x w h hc hz hG hB hl hone;obtain⟨A0,c0,wb,w5,gg,c5,rfl,ewb,HX,hsz,hlt,cr,cra,c6,f6,HR,cn,d0,d1,d2,AP⟩:=zHx kNb (by decide) (fun _=>rfl) (by decide) h hc hz hG hB hl hone;go_enter Tryz.func219,Tryz.ntmps219;go_upto_region 1 with(fail)
 change Code.wp _ _ _ _ (w.alloc (.cells (Nb.C x) 149));rw[←ewb];obtain⟨cx0,cx1,cx2,cx3⟩:=bl4 HX;clear HX h hc hz ewb;go_wp2_with fail;go_region_law (refine zBx rfl _ _ 34 34 rfl (.slice A0 l.length c0) (.slice (some ⟨wb.heap.size,0,none⟩) 1 1) (by simp[Act.eval]) (by simp[Act.eval]) HR.out ?_)
 all_goals
  go_wp2_with fail;go_region_held3 (fun w' => w'.cell? ⟨G,O,none⟩=some (.slice (some ⟨gg,0,none⟩) (l.length+1) c5)) (assumption) (fail);go_wp2;go_ret;exact AP.out
theorem addRd:AddSt Rd 230 5 257 Rd.C:=by
 intro B G O v l x w h hc hz hG hB hl hone;obtain⟨A0,c0,wb,w5,gg,c5,rfl,ewb,HX,hsz,hlt,cr,cra,c6,f6,HR,cn,d0,d1,d2,AP⟩:=zHx kRd (by decide) (fun _=>rfl) (by decide) h hc hz hG hB hl hone;go_enter Tryz.func257,Tryz.ntmps257;go_upto_region 1 with(fail)
 change Code.wp _ _ _ _ (w.alloc (.cells (Rd.C x) 230));rw[←ewb];obtain⟨cx0,cx1,cx2,cx3,cx4⟩:=bl5 HX;clear HX h hc hz ewb;go_wp2_with fail;go_region_law (refine zBx rfl _ _ 29 29 rfl (.slice A0 l.length c0) (.slice (some ⟨wb.heap.size,0,none⟩) 1 1) (by simp[Act.eval]) (by simp[Act.eval]) HR.out ?_)
 all_goals
  go_wp2_with fail;go_region_held3 (fun w' => w'.cell? ⟨G,O,none⟩=some (.slice (some ⟨gg,0,none⟩) (l.length+1) c5)) (assumption) (fail);go_wp2;go_ret;exact AP.out
end Go.Proofs.YtdlgnhefpoalnaaGreatDoor
namespace Go.Proofs.YtdlgnhefpoalnaaGreatDoor
open Lib (hid)
open Go.RowKit
theorem HasC.loadR{P:Program}{T:TypeId}{g:Nat}{cs:Array Value}{w:World}(h:HasC T g cs w)(hr:(P.underlying T).map TypeDesc.isRow=some true)(hs:(P.info? T).map (·.size)=some cs.size):(loadVar T ⟨g,0,none⟩).run P w=.ok (.agg cs) w:=by
 obtain⟨d,hu,hd⟩:=row_of hr;have:=run_loadVar_mid (P:=P) w g 0 T cs.toList d h.range hu hd (by simpa using hs);simpa using this
theorem zBi{P:Program}{fn:Func}{tmps:Array Value}{w:World}{k j i:Nat}{T:TypeId}{g:Addr}{v u t:Value}(hf:fn.results=#[.cell k T,.tmp j,.tmp i])(hk:tmps.getD k undef=.pointer (some g))
  (hj:tmps.getD j undef=u) (hi:tmps.getD i undef=t) (hl:(loadVar T g).run P w=.ok v w):(results fn tmps).run P w=.ok (.tuple #[v,u,t]) w:=by
 rw[Array.getD_eq_getD_getElem?]at hk hj hi;unfold results;simp[hf,hk,hj,hi,asAddr,hl]
theorem Tryz.rowTk:(Tryz.prog.underlying 65).map TypeDesc.isRow=some true:=by kernel_rfl
theorem Tryz.sizeTk:(Tryz.prog.info? 65).map (·.size)=some 2:=by kernel_rfl
theorem Tryz.rowNode:(Tryz.prog.underlying 180).map TypeDesc.isRow=some true:=by kernel_rfl
theorem Tryz.sizeNode:(Tryz.prog.info? 180).map (·.size)=some 4:=by kernel_rfl
theorem Tryz.infoNode:(Tryz.prog.info? 180).map (fun i=>(i.zero.map (fun z=>z.cells.size),i.size,i.bytes))=some (some 4,4,64):=by kernel_rfl
theorem cnext_any{c B:Nat}{lines:Int}{x:Tk}{r:List Tk}{w:World}(h:Cu c B lines (x :: r) w) :
  Calls Tryz.prog 133 #[.pointer (some ⟨c,0,none⟩)] w fun e w' => e=.returned (.agg #[.int .i64 x.1,strV x.2])∧Cu c B lines r w' ∧ w.grownBy w' (some c):=by
 have H0:=hid h;have hcl:=h.lt;clear h;go_enter Tryz.func133,Tryz.ntmps133;go_upto_region 1 with(fail)
 have HA:=hid (HasC.new w 65 #[.int .i64 0,.string ⟨#[]⟩]);have HBA:=hid ((Below.refl w.heap.size w).alloc (yI _) (.cells #[.int .i64 0,.string ⟨#[]⟩] 65));change Code.wp _ _ _ _ (w.alloc (.cells #[.int .i64 0,.string ⟨#[]⟩] 65));generalize w.alloc (.cells #[.int .i64 0,.string ⟨#[]⟩] 65)=wA at HA HBA⊢;have H1:=hid (H0.out.keep HBA.out);obtain⟨g,o,p,hv,c0,c1,-,hp,hm,-⟩:=H1.out.popped;have k0:wA.cell? ⟨c,0,none⟩=some (.slice (some ⟨g,o,none⟩) (r.length+1) p):=by rw[Lib.cell_of_heap hv];rfl
 have HV:=hid hv;have hi:(0:Int)<(r.length:Int)+1:=by omega
 have hcA:c<wA.heap.size:=Nat.lt_of_lt_of_le hcl HBA.out.size;have hwA:w.heap.size<wA.heap.size:=zBj HA.out;unfold strV at c1;unfold maxLen at hm;clear hv;go_upto_region 2 with(fail)
 have HL:=hid (HasC.new wA 65 #[.int .i64 x.1,.string (str x.2)]);have HB2:=hid ((Below.refl wA.heap.size wA).alloc (yI _) (.cells #[.int .i64 x.1,.string (str x.2)] 65));change Code.wp _ _ _ _ (wA.alloc (.cells #[.int .i64 x.1,.string (str x.2)] 65));generalize wA.alloc (.cells #[.int .i64 x.1,.string (str x.2)] 65)=w2 at HL HB2⊢;have H2:=hid (H1.out.keep HB2.out);obtain⟨g', o', p', hv',-,-,-,hp', hm', hput⟩:=H2.out.popped;have e:=hv'.symm.trans ((HB2.out.block c hcA).trans HV.out);simp at e;obtain⟨⟨rfl,rfl⟩,rfl⟩:=e;have HP:=hid hput;have k2:w2.cell? ⟨c,0,none⟩=some (.slice (some ⟨g', o', none⟩) (r.length+1) p'):=by rw[Lib.cell_of_heap hv'];rfl
 have f2:w2.frozen? ⟨c,0,none⟩=false:=Lib.frozen_of_heap hv' 0;have HZ:Hid (HasC 65 w.heap.size #[.int .i64 0,.string ⟨#[]⟩] w2):=hid (HA.out.keep HB2.out);clear hv' hput c0 c1 k0 HV;obtain⟨l0,l1⟩:=bl2 HL.out;obtain⟨z0,z1⟩:=bl2 HZ.out;have fz0:w2.frozen? ⟨w.heap.size,0,none⟩=false:=HZ.out.frz 0;have fz1:w2.frozen? ⟨w.heap.size,1,none⟩=false:=HZ.out.frz 1;have n1:wA.heap.size≠c:=by omega
 have n2:w.heap.size≠c:=by omega
 have n3:wA.heap.size≠w.heap.size:=by omega
 have FIN:∀A', (p' ≠ 1→A' = some ⟨g', o' + 2,none⟩)→A' ≠ none →
   HasC 65 w.heap.size #[.int .i64 x.1,.string (str x.2)] (((w2.setCell ⟨c,0,none⟩ (.slice A' r.length (p' - 1))).setCell ⟨w.heap.size,0,none⟩ (.int .i64 x.1)).setCell ⟨w.heap.size,1,none⟩ (.string (str x.2))) ∧
   Cu c B lines r (((w2.setCell ⟨c,0,none⟩ (.slice A' r.length (p' - 1))).setCell ⟨w.heap.size,0,none⟩ (.int .i64 x.1)).setCell ⟨w.heap.size,1,none⟩ (.string (str x.2))) ∧
   w.grownBy (((w2.setCell ⟨c,0,none⟩ (.slice A' r.length (p' - 1))).setCell ⟨w.heap.size,0,none⟩ (.int .i64 x.1)).setCell ⟨w.heap.size,1,none⟩ (.string (str x.2))) (some c):=by
  intro A' h1 h2;obtain⟨q1,q2⟩:=HP.out A' h1 h2;have hBc:B≤c:=H0.out.1;have ga:=zBb (w2.setCell ⟨c,0,none⟩ (.slice A' r.length (p' - 1))) w.heap.size 0 (.int .i64 x.1);have gb:=zBb ((w2.setCell ⟨c,0,none⟩ (.slice A' r.length (p' - 1))).setCell ⟨w.heap.size,0,none⟩ (.int .i64 x.1)) w.heap.size 1 (.string (str x.2));have hz:=HZ.out.grown q2 (fun e=>n2 (by injection e));refine⟨Lib.heap_setCell_same (i:=1) (Lib.heap_setCell_same (i:=0) hz _) _,(q1.other ga (fun k e=>by cases e;exact⟨by omega,n2⟩)).other gb (fun k e=>by cases e;exact⟨by omega,n2⟩),?_⟩;have hb:Below w.heap.size w w2:=HBA.out.trans (HB2.out.mono HBA.out.size);refine⟨gb.os.trans (ga.os.trans (q2.os.trans hb.os)),gb.tape.trans (ga.tape.trans (q2.tape.trans hb.tape)),gb.output.trans (ga.output.trans (q2.output.trans hb.output)),yJ hb.size (yJ q2.size (yJ ga.size gb.size)),fun k hk hne=>?_⟩;have h3:=q2.size;have h4:=ga.size;have h5:=hb.size;exact(gb.block k (by omega) (fun e=>by injection e;omega)).trans ((ga.block k (by omega) (fun e=>by injection e;omega)).trans ((q2.block k (by omega) hne).trans (hb.block k hk)))
 have HF:=hid FIN;clear FIN HP hp' hm';go_wp2_with fail
 ·have q:=HF.out (some ⟨g', o', none⟩) (fun h' => absurd (by assumption) h') (by simp)
  rw[show p' - 1=0 from by omega]at q;obtain⟨q1,q2,q3⟩:=q;refine bodyPost_ret (zMk rfl rfl (q1.loadR Tryz.rowTk Tryz.sizeTk)) rfl ?_;exact⟨rfl,q2,q3⟩
 ·obtain⟨q1,q2,q3⟩:=HF.out (some ⟨g', o' + 2,none⟩) (fun _=>rfl) (by simp)
  refine bodyPost_ret (zMk rfl rfl (q1.loadR Tryz.rowTk Tryz.sizeTk)) rfl ?_;exact⟨rfl,q2,q3⟩
theorem KeyMap.map{P:Program}{k e:TypeId}{b n:Nat}{ks:List (List UInt8)}{w:World}(h:KeyMap P k e b n ks w):∃(o:Obj),w.heap[b]? = some o∧∀cs E z,o≠.cells cs E z:=by
 obtain⟨D,⟨es,c,h0,h1⟩,h2⟩:=h;exact⟨_,h0,fun _ _ _ e=>by cases e⟩
def resL(o:Option (Int × Int)):Int:=(o.map Prod.fst).getD 0
def resE(o:Option (Int × Int)):Int:=(o.map Prod.snd).getD 0
def ReadP(f:Fm)(g B:Nat)(w0:World)(r:Rt)(K:Kept)(ns:List Nd)(e:Ending)(w' : World):Prop :=
 ∃r' res,readN f [] ns r.plain=(r'.plain,res)∧e=.returned (.tuple #[.int .i64 (resL res),.int .i64 (resE res)])∧BR g B w0 r' K w' ∧ (f≠.top→Stay r r')
abbrev ReadC(n:Nat):Prop:=∀(f:Fm) (ns:List Nd) (v fv:Value) (g B k:Nat) (w0 w:World) (r:Rt) (K:Kept),sizeL ns≤n→BR g B w0 r K w→FmV f g r K fv→NdV w0 (·<B) v ns→NdsOk ns→EnvA B w0→RtI k r.plain→k+sizeL ns≤1000000 →
 Calls Tryz.prog 67 #[v,fv] w (ReadP f g B w0 r K ns)
def RdI(f:Fm)(fv:Value)(g B:Nat)(w0:World)(r:Rt)(K:Kept)(ns:List Nd)(k m i:Nat)(w:World):Prop :=
 ∃(ks:List (List UInt8)) (rc:Rt) (o:Obj),BR g B w0 rc ((m,o) :: K) w∧KeyMap Tryz.prog 9 4 m i ks w∧FmV f g rc K fv∧(f≠.top→Stay r rc)∧readN f [] ns r.plain=readN f ks (ns.drop i) rc.plain∧RtI (k+sizeL (ns.take i)) rc.plain
theorem NdsOk.get:∀{ns:List Nd} (i:Nat) (h:i<ns.length),NdsOk ns→NdOk ns[i]
 |n :: r,0,_,h=>by rw[NdsOk]at h;exact h.1
 |n :: r,i+1,hi,h=>by rw[NdsOk]at h;exact NdsOk.get i (by simpa using hi) h.2
theorem take_size{ns:List Nd}{i:Nat}(h:i<ns.length):sizeL (ns.take (i+1))=sizeL (ns.take i)+ns[i].size:=by
 rw[List.take_succ_eq_append_getElem h,zHh,sizeL,sizeL,Nat.add_zero]
theorem take_le(ns:List Nd)(i:Nat):sizeL (ns.take i)≤sizeL ns:=by
 conv=>rhs;rw[←List.take_append_drop i ns,zHh]
 omega
theorem get_size{ns:List Nd}{i:Nat}(h:i<ns.length):sizeL (ns.take i)+ns[i].size≤sizeL ns:=by rw[←take_size h];exact take_le ns _
theorem len_size:∀ns:List Nd,ns.length≤sizeL ns
 |[]=>yI _
 |.mk a b c d :: r=>by
  have:=len_size r;simp only[sizeL,Nd.size,yG];omega
theorem NdV.below{w w' : World}{B:Nat}{v:Value}{ns:List Nd}(h:NdV w (·<B) v ns)(hb:Below B w w')(hz:w.heap.size≤w'.heap.size):NdV w' (·<B) v ns:=h.frame (fun k hk _=>⟨hk,hb.block k hk⟩) hz
theorem BR.mapped{g B m:Nat}{w0 w w' : World}{r:Rt}{K K' : Kept}{o:Obj}{i:Nat}{ks:List (List UInt8)}(h:BR g B w0 r K' w)(hm:(m,o)∈K')(hK:∀k∈K,k∈K' ∧ k.1≠m)(hg:w.grownBy w' (some m))(hB:B≤m)(hk:KeyMap Tryz.prog 9 4 m i ks w'):∃o', BR g B w0 r ((m,o') :: K) w' := by
 obtain⟨o', ho⟩:=hk.obj;exact⟨o', (h.less (K' := (m,o) :: K) (fun k hk=>(List.mem_cons.1 hk).elim (fun e=>e ▸ hm) (fun hk=>(hK k hk).1))).map hg ho hB (fun k hk=>(hK k hk).2)⟩
theorem node_one{w:World}{S:Nat→Prop}{line:Int}{wv kv:Value}{blk:Bool}{ws:List (List UInt8)}{kids:List Nd}(hw:WdS w S wv ws)(hk:NdV w S kv kids):(#[.int .i64 line,wv,.bool blk,kv]:Array Value).all (·.oneCell')=true:=by
 obtain⟨A,c,rfl,-⟩:=hw;obtain⟨A', c', rfl,-⟩:=hk;rw[Array.all_eq_true_iff_forall_mem];intro v hv;simp only[List.mem_toArray,List.mem_cons,List.not_mem_nil,or_false]at hv;rcases hv with rfl|rfl|rfl|rfl<;>rfl
theorem FmV.func{f:Fm}{g:Nat}{r:Rt}{K:Kept}{fv:Value}(h:FmV f g r K fv):∃F pre cap,fv=.func (.func F) pre cap:=by
 cases f
 all_goals first
  |exact⟨_,_,_,h⟩
  |(obtain⟨gg,cap,l0,x,k,e1,e2,e3,e4⟩:=h;exact⟨_,_,_,e3⟩)
  |(obtain⟨m0,m,e,gg,cap,l0,x,k,e1,e2,e3,e4⟩:=h;exact⟨_,_,_,e3⟩)
  |(obtain⟨k,e1,e2⟩:=h;exact⟨_,_,_,e1⟩)
  |(obtain⟨gg,cap,l0,x,k,k2,e1,e2,e3,e4,e5⟩:=h;exact⟨_,_,_,e3⟩)
mutual
theorem zIk(f:Fm):∀(ns:List Nd) (keys:List (List UInt8)) (r:Rt) (e:Int × Int),(readN f keys ns r).2=some e→e.2=2∨e.2=4
 |[],_,_,e,h=>by simp[readN]at h
 |n :: ns,keys,r,e,h=>by
  have h1:=readOne_two f n keys r;simp only[readN]at h
  revert h1 h
  match zEz f keys n r with
  |(r', k', none)=>intro h _;exact zIk f ns k' r' e h
  |(r', k', some e')=>intro h h1;simp only[Option.some.injEq]at h;subst h;exact h1 _ rfl
theorem readOne_two(f:Fm):∀(n:Nd) (keys:List (List UInt8)) (r:Rt) (e:Int × Int),(zEz f keys n r).2.2=some e→e.2=2∨e.2=4
 |.mk line words blk kids,keys,r,e,h=>by
  simp only[zEz]at h
  revert h
  match fmS f blk r ⟨words,false⟩with
  |(key,inner,r', p)=>
   simp only;split
   ·intro h;simp only[Option.some.injEq]at h;subst h;exact .inl rfl
   ·split
    ·intro h;simp only[Option.some.injEq]at h;subst h;exact .inr rfl
    ·cases inner with
     |none=>intro h;simp at h
     |some g=>intro h;exact zIk g kids [] r' e h
end
theorem form_ne0:∀W:World,(binOp .neq 183 .nilFunc .nilFunc).run Tryz.prog W=.ok (.bool false) W:=fun _=>by kernel_rfl
theorem form_eq0:∀W:World,(binOp .eql 183 .nilFunc .nilFunc).run Tryz.prog W=.ok (.bool true) W:=fun _=>by kernel_rfl
theorem form_ne1(F:Nat)(pre cap:Array Value):∀W:World,(binOp .neq 183 (.func (.func F) pre cap) .nilFunc).run Tryz.prog W=.ok (.bool true) W:=fun _=>by kernel_rfl
theorem form_eq1(F:Nat)(pre cap:Array Value):∀W:World,(binOp .eql 183 (.func (.func F) pre cap) .nilFunc).run Tryz.prog W=.ok (.bool false) W:=fun _=>by kernel_rfl
theorem key_empty(l:List UInt8):((str l).toList==[])=l.isEmpty:=by rw[zAh];cases l<;>rfl
theorem read_step(FC:∀f,FormC f)(n:Nat)(IH:∀j,j<n→ReadC j):ReadC n:=by
 intro f ns v fv g B k w0 w r K hsz h hf hn hok he hr hk;obtain⟨A0,c0,rfl,hc0,hmx,-⟩:∃A c,v=.slice A ns.length c∧ns.length≤c∧ns.length≤maxLen∧True:=by obtain⟨A,c,e,h1,h2,-⟩:=hn;exact⟨A,c,e,h1,h2,trivial⟩
 have hlen:=len_size ns;obtain⟨F0,pre0,cap0,rfl⟩:=hf.func;have H:=hid h;have HF:=hid hf;have HN:=hid (hn.below h.bel h.size);have HO:=hid hok;have HE:=hid he;have HR:=hid hr;have HK:=hid hk;have HIH:=hid IH;have HFC:=hid FC;have HSZ:=hid hsz;have HN0:=hid hn;have HLN:=hid (yJ hlen (yJ (Nat.le_add_left _ k) hk));clear h hf hn hok he hr hk IH FC hsz hc0 hmx hlen;have hmk:∀W,(Instr.makeMap 184 none).run Tryz.prog W=.ok (.map (some W.heap.size)) (W.alloc (.map #[] 0)):=fun _=>rfl
 go_enter Tryz.func67,Tryz.ntmps67;go_upto_region 2 with(fail)
 clear hmk;have HM:Hid (KeyMap Tryz.prog 9 4 w.heap.size 0 [] (w.alloc (.map #[] 0))):=hid (KeyMap.made w _ _ _);have HB1:=hid ((Below.refl w.heap.size w).alloc (yI _) (.map #[] 0));have H1:=hid (H.out.box HB1.out (heap_alloc_new w _) (yI _));have HKM:Hid (∀k∈K,k.1≠w.heap.size):=hid (fun k hk=>Nat.ne_of_lt (zBj (H.out.keep k hk).1));have HBm:Hid (B≤w.heap.size):=hid (yJ H.out.bB H.out.size);change Code.wp _ _ _ _ (w.alloc (.map #[] 0));generalize w.alloc (.map #[] 0)=wA at HM HB1 H1⊢;obtain⟨m,hm⟩:∃m,m=w.heap.size:=⟨_,rfl⟩;simp only[←hm]at HM H1 HKM HBm⊢;clear hm;go_wp2;go_loopg [17] ns.length (fun gh ix wr=>∃j:Nat,j+gh=ns.length∧ix=.int .i64 j∧Hid (RdI f (.func (.func F0) pre0 cap0) g B w0 r K ns k m j wr));case atStart=>exact⟨0,by omega,rfl,hid ⟨[],r,_,H1.out,HM.out,HF.out,fun _=>Stay.refl r,rfl,by rw[List.take_zero];exact HR.out⟩⟩
 case round=>
  clear H1 HM HB1 H;obtain⟨j,hj,rfl,HI⟩:=hrel;by_cases hjl:j<ns.length;case neg=>
   have hjz:¬(j:Int)<(ns.length:Int):=by omega
   go_wp2_with fail;go_ret2;obtain⟨ks,rc,o,h1,-,-,h4,h5,-⟩:=HI.out;refine⟨rc,none,?_,rfl,h1.less (fun _ hk=>List.mem_cons_of_mem _ hk),h4⟩;rw[h5,List.drop_eq_nil_of_le (by omega)];simp[readN]
  case pos=>
   have hjz:(j:Int)<(ns.length:Int):=by omega
   obtain⟨ks,rc,o,h1,h2,h3,h4,h5,h6⟩:=HI.out;have H1:=hid h1;have H2:=hid h2;have H3:=hid h3;have H4:=hid h4;have H6:=hid h6;have H5:Hid (readN f [] ns r.plain=readN f ks (ns[j] :: ns.drop (j+1)) rc.plain):=hid (by rw[h5,List.drop_eq_getElem_cons hjl]);have HOK:=hid (HO.out.get j hjl);have HTS:=hid (take_size hjl);have HGS:=hid (get_size hjl);obtain⟨gn,cn,cs,ev,hgn,hgl,hnc,hrg0⟩:=HN0.out.at hjl;have hrg:=zIf hrg0 (h1.bel.block gn hgn);injection ev with ev1 ev2 ev3
   subst ev1 ev3;have HBL:=hid h1.bel;clear h1 h2 h3 h4 h5 h6 ev2 HI hrg0;generalize ns[j]=nd at H5 HOK HTS HGS hnc;obtain⟨line,ws,blk,kids⟩:=nd;obtain⟨wv,kv,rfl,hwd,hkd⟩:=NdC.iff.1 hnc;have HRG:=hid hrg;have HWD:=hid hwd;have HKD:=hid hkd;rw[NdOk]at HOK;clear hnc hrg hwd hkd;go_upto_region 5 with(first|(refine zAa rfl 180 _ rfl rfl HRG.out Tryz.rowNode Tryz.sizeNode ?_)|(refine zAd rfl 180 _ _ rfl rfl (ds:=#[.int .i64 line,wv,.bool blk,kv]) rfl (HasC.new _ _ _) rfl Tryz.sizeNode ?one ?_;(case one=>exact node_one HWD.out HKD.out);intro w2 hz1 hz2))
   have HNW:=hid hz1;have HNB:=hid (zAi hz2);have HQ:Hid (BR g B w0 rc ((wr.heap.size,.cells #[.int .i64 line,wv,.bool blk,kv] 180 (0,0)) :: (m,o) :: K) w2):=hid (H1.out.box HNB.out hz1 (yI _));have HKM2:=hid (H2.out.blk ((HQ.out.keep (m,o) (by simp)).1.trans (H1.out.keep (m,o) (by simp)).1.symm));have HWD2:=hid (HWD.out.frame (w' := w2) (S' := (·<B)) (fun k hk _=>⟨hk,HQ.out.bel.block k hk⟩) HQ.out.size);obtain⟨q,hq⟩:∃q,q=wr.heap.size:=⟨_,rfl⟩;simp only[←hq]at HNW HQ⊢;have HQR:Hid (wr.heap.size≤q):=hid (by omega);have HQM:Hid (q≠m):=hid (fun e=>by have:=zBj (H1.out.keep (m,o) List.mem_cons_self).1;have:=HQR.out;dsimp only at *;omega);clear hz1 hz2 hq HWD HRG H1 H2 HBL;obtain⟨Aw,cw,ew,hcw⟩:∃A c,wv=.slice A ws.length c∧ws.length≤c:=(HWD2.out.slc (fun _ h=>h)).2;subst ew;obtain⟨Ak,ck,ek,hck⟩:∃A c,kv=.slice A kids.length c∧True:=by obtain⟨A,c,e,-⟩:=HKD.out;exact⟨A,c,e,trivial⟩
   subst ek;have cq1:=HNW.out.cell 1;have cq2:=HNW.out.cell 2;go_upto_region 6 with(fail)
   have HWN:=hid (HasC.new w2 187 #[.slice Aw ws.length cw,.bool blk,.bool false]);have HB3:=hid ((Below.refl w2.heap.size w2).alloc (yI _) (.cells #[.slice Aw ws.length cw,.bool blk,.bool false] 187));have hBw:B≤w2.heap.size:=yJ HQ.out.bB HQ.out.size;change Code.wp _ _ _ _ (w2.alloc (.cells #[.slice Aw ws.length cw,.bool blk,.bool false] 187));generalize w2.alloc (.cells #[.slice Aw ws.length cw,.bool blk,.bool false] 187)=w3 at HWN HB3⊢;have HBW:=hid (HQ.out.words (T:=(187,blk)) ((HWD2.out.slc (fun _ h=>h)).1.below (HB3.out.mono hBw)) ⟨Aw,cw,rfl,hcw⟩ HB3.out HWN.out (yI _));clear hBw HWN cq1 cq2;generalize w2.heap.size=bq at HBW⊢;obtain⟨F,pre,cap,efv,heg,hcall⟩:=HFC.out f g B bq (k+sizeL (ns.take j)) w0 w3 rc _ blk ⟨ws,false⟩ (.func (.func F0) pre0 cap0) HBW.out (H3.out.mono (fun k hk=>List.mem_cons_of_mem _ (List.mem_cons_of_mem _ hk))) HE.out HOK.2.1 H6.out (by have:=HK.out;have:=HGS.out;have:=HSZ.out;omega);injection efv with ef1 ef2 ef3
   injection ef1 with ef1
   subst ef1 ef2 ef3;have HC:=hid hcall;clear hcall;go_wp2_with fail;refine HC.out.mono ?_;rintro e w4 ⟨key,inner,r', p', K', iv,hq', rfl,hbw,hst,hfm,hinn,hnew⟩;have HBX:=hid hbw;have HST:=hid hst;have HFM:=hid (hfm K H3.out);have HIN:=hid hinn;have HNE:=hid hnew;have HQ' := hid hq';have HKY:Hid (key.length≤2000000100):=hid (by have:=fm_key (f:=f) (blk:=blk) (r:=rc.plain) (p:=⟨ws,false⟩) HOK.2.1;rw[hq']at this;exact this);have HRI:Hid (RtI (k+sizeL (ns.take j)+1) r'.plain):=hid (by have:=fmS_ok f blk H6.out ⟨ws,false⟩;rw[hq']at this;exact this);have HKM4:=hid (HKM2.out.blk ((hbw.keep (m,o) (by simp)).1.trans (HQ.out.keep (m,o) (by simp)).1.symm));have HNQ:Hid (HasC 180 q #[.int .i64 line,.slice Aw ws.length cw,.bool blk,.slice Ak kids.length ck] w4):=hid (hbw.keep (q,_) (by simp)).1;clear hbw hst hfm hinn hnew hq' HC heg HBW HB3 HQ HKM2 HNW HNB;have cq0:w4.cell? ⟨q,0,none⟩=some (.int .i64 line):=HNQ.out.cell 0;have cq2:w4.cell? ⟨q,2,none⟩=some (.bool blk):=HNQ.out.cell 2;have cq3:w4.cell? ⟨q,3,none⟩=some (.slice Ak kids.length ck):=HNQ.out.cell 3;go_wp2_with fail;refine(wdone_any bq B p' w4 HBX.out.st).mono ?_;rintro e _ ⟨rfl,rfl⟩;cases hd:doneB p' with
   |false=>
    go_wp2_with fail;go_ret2;exact⟨r', some (line,2),by rw[H5.out];exact readN_bad HQ'.out (by rw[hd];rfl),rfl,HBX.out.toBR.less (fun x hx=>by simp[hx]),fun h=>(H4.out h).trans (HST.out h)⟩
   |true=>
    cases inner with
    |none=>
     obtain rfl:iv=.nilFunc:=HIN.out;have fn0:=form_ne0;have fe0:=form_eq0;cases blk with
     |true=>
      go_wp2_with fail;go_ret2;exact⟨r', some (line,2),by rw[H5.out];exact readN_bad HQ'.out (by rw[hd];rfl),rfl,HBX.out.toBR.less (fun x hx=>by simp[hx]),fun h=>(H4.out h).trans (HST.out h)⟩
     |false=>
      have hb:(!doneB p' || false != (none:Option Fm).isSome)=false:=by rw[hd];rfl
      have HE0:=key_empty key;unfold strV;cases he:key.isEmpty with
      |true=>
       rw[he]at HE0;have hk:(!key.isEmpty&&ks.contains key)=false:=by rw[he];rfl
       go_wp2_with (refine zFz w4 rfl _ _ _ _ rfl 9 4 Tryz.underlying9 Tryz.underlying184 Tryz.underlying4 m j ks rfl HKM4.out (by have:=HLN.out;simp only[maxLen];omega) key rfl rfl (by have:=HKY.out;simp only[maxLen];omega) ?_;intro w5 hk5 hg5;have HK5:=hid hk5;have HG5:=hid hg5;have cw3:w5.cell? ⟨q,3,none⟩=some (.slice Ak kids.length ck):=(HNQ.out.grown hg5 (fun e=>HQM.out (by injection e))).cell 3;clear hk5 hg5)
       have kne:∀x∈K' ++ K,x.1≠m:=fun x hx e=>by
        rcases List.mem_append.1 hx with hx1|hx1
        ·obtain⟨cs,E,he2⟩:=HNE.out x hx1
         obtain⟨ob,hob,hnm⟩:=HKM4.out.map;have h1:=(HBX.out.keep x (by simp[hx1])).1;rw[he2,e,hob]at h1;injection h1 with h1
         exact hnm _ _ _ h1
        ·exact HKM.out x hx1 e
       obtain⟨o', hm5⟩:∃o', BR g B w0 r' ((m,o') :: (K' ++ K)) w5:=HBX.out.toBR.mapped (m:=m) (o:=o) (by simp) (fun x hx=>⟨by rcases List.mem_append.1 hx with hx1|hx1<;>simp[hx1],kne x hx⟩) HG5.out HBm.out HK5.out;have HM5:=hid hm5;clear hm5 kne;have hln:=HLN.out;go_roundg (ns.length - (j+1));case measure=>omega
       case rel=>
        refine⟨j+1,by omega,by rw[IntWalk.wrap64_in _ ⟨by omega,by omega⟩];rfl,hid ⟨key :: ks,r', o', HM5.out.less (fun x hx=>by rcases List.mem_cons.1 hx with h|h<;>simp[h]),HK5.out,HFM.out,fun h=>(H4.out h).trans (HST.out h),?_,HRI.out.le (by have:=HTS.out;simp only[Nd.size]at this;omega)⟩⟩;rw[H5.out];exact readN_leaf HQ'.out hb hk
      |false=>
       rw[he]at HE0;cases hc:ks.contains key with
       |true=>
        have hk:(!key.isEmpty&&ks.contains key)=true:=by rw[he,hc];rfl
        go_wp2_with (refine zAj (by rfl) (zFi w4 rfl _ _ _ rfl 9 4 Tryz.underlying9 Tryz.underlying184 Tryz.underlying4 rfl m j ks rfl HKM4.out key rfl (by have:=HKY.out;simp only[maxLen];omega) ?_);rw[hc]);go_ret2;exact⟨r', some (line,4),by rw[H5.out];exact readN_dup HQ'.out hb hk,rfl,HBX.out.toBR.less (fun x hx=>by simp[hx]),fun h=>(H4.out h).trans (HST.out h)⟩
       |false=>
        have hk:(!key.isEmpty&&ks.contains key)=false:=by rw[he,hc];rfl
        go_wp2_with (first|(refine zAj (by rfl) (zFi w4 rfl _ _ _ rfl 9 4 Tryz.underlying9 Tryz.underlying184 Tryz.underlying4 rfl m j ks rfl HKM4.out key rfl (by have:=HKY.out;simp only[maxLen];omega) ?_);rw[hc])|(refine zFz w4 rfl _ _ _ _ rfl 9 4 Tryz.underlying9 Tryz.underlying184 Tryz.underlying4 m j ks rfl HKM4.out (by have:=HLN.out;simp only[maxLen];omega) key rfl rfl (by have:=HKY.out;simp only[maxLen];omega) ?_;intro w5 hk5 hg5;have HK5:=hid hk5;have HG5:=hid hg5;have cw3:w5.cell? ⟨q,3,none⟩=some (.slice Ak kids.length ck):=(HNQ.out.grown hg5 (fun e=>HQM.out (by injection e))).cell 3;clear hk5 hg5))
        have kne:∀x∈K' ++ K,x.1≠m:=fun x hx e=>by
         rcases List.mem_append.1 hx with hx1|hx1
         ·obtain⟨cs,E,he2⟩:=HNE.out x hx1
          obtain⟨ob,hob,hnm⟩:=HKM4.out.map;have h1:=(HBX.out.keep x (by simp[hx1])).1;rw[he2,e,hob]at h1;injection h1 with h1
          exact hnm _ _ _ h1
         ·exact HKM.out x hx1 e
        obtain⟨o', hm5⟩:∃o', BR g B w0 r' ((m,o') :: (K' ++ K)) w5:=HBX.out.toBR.mapped (m:=m) (o:=o) (by simp) (fun x hx=>⟨by rcases List.mem_append.1 hx with hx1|hx1<;>simp[hx1],kne x hx⟩) HG5.out HBm.out HK5.out;have HM5:=hid hm5;clear hm5 kne;have hln:=HLN.out;go_roundg (ns.length - (j+1));case measure=>omega
        case rel=>
         refine⟨j+1,by omega,by rw[IntWalk.wrap64_in _ ⟨by omega,by omega⟩];rfl,hid ⟨key :: ks,r', o', HM5.out.less (fun x hx=>by rcases List.mem_cons.1 hx with h|h<;>simp[h]),HK5.out,HFM.out,fun h=>(H4.out h).trans (HST.out h),?_,HRI.out.le (by have:=HTS.out;simp only[Nd.size]at this;omega)⟩⟩;rw[H5.out];exact readN_leaf HQ'.out hb hk
    |some h=>
     obtain⟨F1,pre1,cap1,rfl⟩:=HIN.out.2.2.func;have fn1:=form_ne1 F1 pre1 cap1;have fe1:=form_eq1 F1 pre1 cap1;have HIO:Hid (h≠.top∧f.outer=true):=hid ⟨HIN.out.1,HIN.out.2.1⟩;have HIV:=hid HIN.out.2.2;clear HIN;cases blk with
     |false=>
      go_wp2_with fail;go_ret2;exact⟨r', some (line,2),by rw[H5.out];exact readN_bad HQ'.out (by rw[hd];rfl),rfl,HBX.out.toBR.less (fun x hx=>by simp[hx]),fun h=>(H4.out h).trans (HST.out h)⟩
     |true=>
      have hb:(!doneB p' || true != (some h).isSome)=false:=by rw[hd];rfl
      have HE0:=key_empty key;unfold strV;cases he:key.isEmpty with
      |true=>
       rw[he]at HE0;have hk:(!key.isEmpty&&ks.contains key)=false:=by rw[he];rfl
       go_wp2_with (refine zFz w4 rfl _ _ _ _ rfl 9 4 Tryz.underlying9 Tryz.underlying184 Tryz.underlying4 m j ks rfl HKM4.out (by have:=HLN.out;simp only[maxLen];omega) key rfl rfl (by have:=HKY.out;simp only[maxLen];omega) ?_;intro w5 hk5 hg5;have HK5:=hid hk5;have HG5:=hid hg5;have cw3:w5.cell? ⟨q,3,none⟩=some (.slice Ak kids.length ck):=(HNQ.out.grown hg5 (fun e=>HQM.out (by injection e))).cell 3;clear hk5 hg5)
       have kne:∀x∈K' ++ K,x.1≠m:=fun x hx e=>by
        rcases List.mem_append.1 hx with hx1|hx1
        ·obtain⟨cs,E,he2⟩:=HNE.out x hx1
         obtain⟨ob,hob,hnm⟩:=HKM4.out.map;have h1:=(HBX.out.keep x (by simp[hx1])).1;rw[he2,e,hob]at h1;injection h1 with h1
         exact hnm _ _ _ h1
        ·exact HKM.out x hx1 e
       obtain⟨o', hm5⟩:∃o', BR g B w0 r' ((m,o') :: (K' ++ K)) w5:=HBX.out.toBR.mapped (m:=m) (o:=o) (by simp) (fun x hx=>⟨by rcases List.mem_append.1 hx with hx1|hx1<;>simp[hx1],kne x hx⟩) HG5.out HBm.out HK5.out;have HM5:=hid hm5;clear hm5 kne;have hsz' : sizeL kids<n:=by have:=HGS.out;have:=HSZ.out;simp only[Nd.size]at *;omega
       have HRC:=hid (HIH.out (sizeL kids) hsz' h kids (.slice Ak kids.length ck) (.func (.func F1) pre1 cap1) g B (k+sizeL (ns.take j)+1) w0 w5 r' ((m,o') :: (K' ++ K)) (yI _) HM5.out (HIV.out.mono (fun x hx=>by simp[hx])) HKD.out HOK.2.2 HE.out HRI.out (by have:=HGS.out;have:=HK.out;simp only[Nd.size]at *;omega));refine HRC.out.mono ?_;rintro e w6 ⟨r2,res,hq2,rfl,hbr2,hst2⟩;have HBR2:=hid hbr2;have HST2:=hid (hst2 HIO.out.1);have HQ2:=hid hq2;clear hbr2 hst2 hq2 HRC;cases res with
       |some e' =>
        obtain⟨le,ce⟩:=e';have he2:ce=2∨ce=4:=zIk h kids [] r'.plain (le,ce) (by rw[HQ2.out]);rw[show resL (some (le,ce))=le from rfl,show resE (some (le,ce))=ce from rfl];have hz:(ce != 0)=true:=by rcases he2 with rfl|rfl<;>rfl
        go_wp2_with fail;go_ret2;exact⟨r2,some (le,ce),by rw[H5.out];exact readN_inbad HQ'.out hb hk HQ2.out,rfl,HBR2.out.less (fun x hx=>by simp[hx]),fun h=>((H4.out h).trans (HST.out h)).trans HST2.out⟩
       |none=>
        rw[show resL none=0 from rfl,show resE none=0 from rfl];go_wp2_with fail;have hln:=HLN.out;go_roundg (ns.length - (j+1));case measure=>omega
        case rel=>
         refine⟨j+1,by omega,by rw[IntWalk.wrap64_in _ ⟨by omega,by omega⟩];rfl,hid ⟨key :: ks,r2,o', HBR2.out.less (fun x hx=>by rcases List.mem_cons.1 hx with h|h<;>simp[h]),HK5.out.blk ((HBR2.out.keep (m,o') (by simp)).1.trans (HM5.out.keep (m,o') (by simp)).1.symm),HFM.out.stay HIO.out.2 HST2.out (fun _ h=>h),fun h=>((H4.out h).trans (HST.out h)).trans HST2.out,?_,?_⟩⟩
         ·rw[H5.out]
          exact readN_in HQ'.out hb hk HQ2.out
         ·have h1:=zLd h kids [] r'.plain _ HRI.out
          rw[HQ2.out]at h1;exact h1.le (by have:=HTS.out;simp only[Nd.size]at this;omega)
      |false=>
       rw[he]at HE0;cases hc:ks.contains key with
       |true=>
        have hk:(!key.isEmpty&&ks.contains key)=true:=by rw[he,hc];rfl
        go_wp2_with (refine zAj (by rfl) (zFi w4 rfl _ _ _ rfl 9 4 Tryz.underlying9 Tryz.underlying184 Tryz.underlying4 rfl m j ks rfl HKM4.out key rfl (by have:=HKY.out;simp only[maxLen];omega) ?_);rw[hc]);go_ret2;exact⟨r', some (line,4),by rw[H5.out];exact readN_dup HQ'.out hb hk,rfl,HBX.out.toBR.less (fun x hx=>by simp[hx]),fun h=>(H4.out h).trans (HST.out h)⟩
       |false=>
        have hk:(!key.isEmpty&&ks.contains key)=false:=by rw[he,hc];rfl
        go_wp2_with (first|(refine zAj (by rfl) (zFi w4 rfl _ _ _ rfl 9 4 Tryz.underlying9 Tryz.underlying184 Tryz.underlying4 rfl m j ks rfl HKM4.out key rfl (by have:=HKY.out;simp only[maxLen];omega) ?_);rw[hc])|(refine zFz w4 rfl _ _ _ _ rfl 9 4 Tryz.underlying9 Tryz.underlying184 Tryz.underlying4 m j ks rfl HKM4.out (by have:=HLN.out;simp only[maxLen];omega) key rfl rfl (by have:=HKY.out;simp only[maxLen];omega) ?_;intro w5 hk5 hg5;have HK5:=hid hk5;have HG5:=hid hg5;have cw3:w5.cell? ⟨q,3,none⟩=some (.slice Ak kids.length ck):=(HNQ.out.grown hg5 (fun e=>HQM.out (by injection e))).cell 3;clear hk5 hg5))
        have kne:∀x∈K' ++ K,x.1≠m:=fun x hx e=>by
         rcases List.mem_append.1 hx with hx1|hx1
         ·obtain⟨cs,E,he2⟩:=HNE.out x hx1
          obtain⟨ob,hob,hnm⟩:=HKM4.out.map;have h1:=(HBX.out.keep x (by simp[hx1])).1;rw[he2,e,hob]at h1;injection h1 with h1
          exact hnm _ _ _ h1
         ·exact HKM.out x hx1 e
        obtain⟨o', hm5⟩:∃o', BR g B w0 r' ((m,o') :: (K' ++ K)) w5:=HBX.out.toBR.mapped (m:=m) (o:=o) (by simp) (fun x hx=>⟨by rcases List.mem_append.1 hx with hx1|hx1<;>simp[hx1],kne x hx⟩) HG5.out HBm.out HK5.out;have HM5:=hid hm5;clear hm5 kne;have hsz' : sizeL kids<n:=by have:=HGS.out;have:=HSZ.out;simp only[Nd.size]at *;omega
        have HRC:=hid (HIH.out (sizeL kids) hsz' h kids (.slice Ak kids.length ck) (.func (.func F1) pre1 cap1) g B (k+sizeL (ns.take j)+1) w0 w5 r' ((m,o') :: (K' ++ K)) (yI _) HM5.out (HIV.out.mono (fun x hx=>by simp[hx])) HKD.out HOK.2.2 HE.out HRI.out (by have:=HGS.out;have:=HK.out;simp only[Nd.size]at *;omega));refine HRC.out.mono ?_;rintro e w6 ⟨r2,res,hq2,rfl,hbr2,hst2⟩;have HBR2:=hid hbr2;have HST2:=hid (hst2 HIO.out.1);have HQ2:=hid hq2;clear hbr2 hst2 hq2 HRC;cases res with
        |some e' =>
         obtain⟨le,ce⟩:=e';have he2:ce=2∨ce=4:=zIk h kids [] r'.plain (le,ce) (by rw[HQ2.out]);rw[show resL (some (le,ce))=le from rfl,show resE (some (le,ce))=ce from rfl];have hz:(ce != 0)=true:=by rcases he2 with rfl|rfl<;>rfl
         go_wp2_with fail;go_ret2;exact⟨r2,some (le,ce),by rw[H5.out];exact readN_inbad HQ'.out hb hk HQ2.out,rfl,HBR2.out.less (fun x hx=>by simp[hx]),fun h=>((H4.out h).trans (HST.out h)).trans HST2.out⟩
        |none=>
         rw[show resL none=0 from rfl,show resE none=0 from rfl];go_wp2_with fail;have hln:=HLN.out;go_roundg (ns.length - (j+1));case measure=>omega
         case rel=>
          refine⟨j+1,by omega,by rw[IntWalk.wrap64_in _ ⟨by omega,by omega⟩];rfl,hid ⟨key :: ks,r2,o', HBR2.out.less (fun x hx=>by rcases List.mem_cons.1 hx with h|h<;>simp[h]),HK5.out.blk ((HBR2.out.keep (m,o') (by simp)).1.trans (HM5.out.keep (m,o') (by simp)).1.symm),HFM.out.stay HIO.out.2 HST2.out (fun _ h=>h),fun h=>((H4.out h).trans (HST.out h)).trans HST2.out,?_,?_⟩⟩
          ·rw[H5.out]
           exact readN_in HQ'.out hb hk HQ2.out
          ·have h1:=zLd h kids [] r'.plain _ HRI.out
           rw[HQ2.out]at h1;exact h1.le (by have:=HTS.out;simp only[Nd.size]at this;omega)
theorem read_all(FC:∀f,FormC f):∀n,ReadC n:=fun n=>by
 induction n using Nat.strongRecOn with
 |ind n ih=>exact read_step FC n ih
abbrev NodC(N:Nat):Prop:=∀(c B m:Nat) (lines:Int) (x:Tk) (t:List Tk) (w:World),t.length+1≤N→t.length+1≤65536→2*(t.length+1)+1≤m→Cu c B lines (x :: t) w→Calls Tryz.prog 134 #[.pointer (some ⟨c,0,none⟩)] w (NodeP c B lines (nodeN lines m x.1 (x :: t) []) w)
abbrev SeqC(N:Nat):Prop:=∀(c B m:Nat) (lines:Int) (inner:Bool) (t:List Tk) (w:World),t.length≤N→t.length≤65536→2*t.length+2≤m→Cu c B lines t w→Calls Tryz.prog 66 #[.pointer (some ⟨c,0,none⟩),.bool inner] w (SeqP c B lines (seqN lines m inner t []) w)
def SqI(c B:Nat)(lines:Int)(inner:Bool)(m:Nat)(t:List Tk)(w:World)(v:Value)(t' : List Tk)(wr:World):Prop :=
 ∃(m' : Nat) (ns:List Nd) (css:List Value),seqN lines m inner t []=seqN lines m' inner t' ns∧2*t'.length+2≤m' ∧ Cu c B lines t' wr∧w.grownBy wr (some c)∧wr.ownsRow w.heap.size 180 4 v ns.length css∧NdsC wr (fun k=>w.heap.size≤k∧v.ownBlock≠some k) ns css∧t'.length+ns.length≤t.length
theorem zDi{w w1 w2:World}{r:Option Nat}(h:w.grownBy w1 r)(h' : w1.grownBy w2 r):w.grownBy w2 r :=
 ⟨h'.os.trans h.os,h'.tape.trans h.tape,h'.output.trans h.output,yJ h.size h'.size,fun k hk hne=>(h'.block k (Nat.lt_of_lt_of_le hk h.size) hne).trans (h.block k hk hne)⟩
theorem own_form4{w:World}{B:Nat}{T:TypeId}{v:Value}{n:Nat}{css:List Value}(h:w.ownsRow B T 4 v n css):∃A cap,v=.slice A n cap:=by
 rcases h.2 with⟨e,h0⟩|⟨g,cap,cur,e,-⟩
 ·exact⟨none,0,by rw[h0];exact e⟩
 ·exact⟨_,_,e⟩
theorem zKl{w:World}{B:Nat}{T:TypeId}{v:Value}{n:Nat}{css:List Value}(h:w.ownsRow B T 4 v n css){k:Nat}(hk:v.ownBlock=some k):B≤k∧k<w.heap.size:=by
 rcases h.2 with⟨e,h0⟩|⟨g,cap,cur,e,h2,h3,-⟩
 ·rw[e]at hk;cases hk
 ·rw[e]at hk
  injection hk with hk
  subst hk;exact⟨h2,zBj h3⟩
theorem seq_step(N:Nat)(NC:NodC N):SeqC N:=by
 intro c B m lines inner t w hN h6 hm h;have H:=hid h;have HN:=hid NC;have HH:=hid (show t.length≤N∧t.length≤65536∧2*t.length+2≤m from⟨hN,h6,hm⟩);have hcl:=h.lt;clear h NC hN h6 hm;go_enter Tryz.func66,Tryz.ntmps66;go_wp2;go_loopg [7] t.length (fun gh v wr=>∃t' : List Tk,gh=t'.length∧Hid (SqI c B lines inner m t w v t' wr));case atStart=>exact⟨t,rfl,hid ⟨m,[],[],rfl,HH.out.2.2,H.out,World.grownBy.refl _ _,World.ownsRow_nil _ _ _ _,by rw[NdsC],by simp⟩⟩
 case round=>
  obtain⟨t', rfl,HI⟩:=hrel;obtain⟨m', ns,css,e1,e2,e3,e4,e5,e6,e7⟩:=HI.out;obtain⟨A0,k0,rfl⟩:=own_form4 e5;have E1:=hid e1;have E3:=hid e3;have E4:=hid e4;have E5:=hid e5;have E6:=hid e6;clear e1 e3 e4 e5 e6 HI;cases t' with
  |nil=>
   obtain⟨A,p,c0⟩:=E3.out.rest0;have cl:=E3.out.linesC;obtain⟨n', rfl⟩:∃n', m' = n' + 1:=⟨m' - 1,by omega⟩;have ES:=E1.out;rw[seqN]at ES;have HES:=hid ES;clear ES;rw[yH]at c0;cases inner with
   |true=>
    go_wp2_with fail;go_region_law (fail)
    all_goals
     go_wp2_with fail;go_ret3;refine⟨⟨E4.out.os,E4.out.tape,E4.out.output,E4.out.size,E4.out.block⟩,?_⟩;rw[HES.out];rfl
   |false=>
    go_wp2_with fail;go_ret3;refine⟨E4.out,?_⟩;rw[HES.out];exact⟨_,rfl,NdV.own E5.out (NdsC.frame (fun k hk _=>⟨hk.1,rfl⟩) (yI _) _ _ E6.out) (fun k hk=>(zKl E5.out hk).1),E3.out⟩
  |cons y r=>
   obtain⟨g,o,p,hv,c1,c2,hr,hp,hmx,-⟩:=E3.out.popped;have c0:wr.cell? ⟨c,0,none⟩=some (.slice (some ⟨g,o,none⟩) (r.length+1) p):=by rw[Lib.cell_of_heap hv];rfl
   obtain⟨n', rfl⟩:∃n', m' = n' + 1:=⟨m' - 1,by omega⟩;have ES:=E1.out;rw[seqN]at ES;have HES:=hid ES;have hi:(0:Int)<(r.length:Int)+1:=by omega
   have q1:((str y.2).toList==[125])=(y.2==[125]):=by rw[zAh]
   rw[yG]at e2 e7;unfold strV at c2;unfold maxLen at hmx;clear ES hr hv;cases hb:(inner&&y.2==[125])with
   |true=>
    have hin:inner=true:=by revert hb;cases inner<;>simp
    have hy:(y.2==[125])=true:=by revert hb;cases inner<;>simp
    subst hin;rw[hy]at q1;have HB:=hid hb;clear hb hy;go_wp2_with fail;refine(cnext_any E3.out).mono ?_;rintro e w2 ⟨rfl,h2,k2⟩;have H2:=hid h2;have K2:=hid k2;clear h2 k2;go_wp2_with fail;go_ret3;refine⟨zDi E4.out K2.out,?_⟩;rw[HES.out,if_pos HB.out];have hN:=NdV.own E5.out (NdsC.frame (S' := (w.heap.size≤·)) (fun k hk _=>⟨hk.1,rfl⟩) (yI _) _ _ E6.out) (fun k hk=>(zKl E5.out hk).1);exact⟨_,rfl,hN.frame (fun k hk hl=>⟨hk,K2.out.block k hl (fun e=>by injection e with e;omega)⟩) K2.out.size,H2.out⟩
   |false=>
    rw[if_neg (by rw[hb];decide)]at HES;obtain⟨hL1,hL2,hL3⟩:=HH.out;have HX:=hid (HN.out c B n' lines y r wr (by omega) (by omega) (by omega) E3.out);have hW:inner=false∨inner=true∧(y.2==[125])=false:=by revert hb;cases inner<;>simp
    clear hb;rcases hW with rfl|⟨rfl,hy⟩
    case' inr=>rw[hy]at q1
    all_goals
     go_wp2_with fail;refine HX.out.mono ?_;rintro e w2 ⟨hg2,hm2⟩;have K2:=hid (zDi E4.out hg2);have G2:=hid hg2;clear hg2 c0 c1 c2 HX;generalize hnd:nodeN lines n' y.1 (y :: r) []=nd at hm2;rw[hnd]at HES;have HND:=hid hnd;clear hnd;cases nd with
     |error l=>
      obtain rfl:e=_:=hm2;go_wp2_with fail;go_ret3;refine⟨⟨K2.out.os,K2.out.tape,K2.out.output,yJ K2.out.size (by simp),fun k hk hne=>(Below.heap_alloc _ _ k (Nat.lt_of_lt_of_le hk K2.out.size)).trans (K2.out.block k hk hne)⟩,?_⟩;rw[HES.out];rfl
     |ok a=>
      obtain⟨n1,r1⟩:=a;obtain⟨cs,rfl,hn1,hc1⟩:=hm2;obtain⟨line,ws,blk,kids⟩:=n1;have HN1:=hid hn1;obtain⟨wv,kv,ecs,hwd,hkd⟩:=NdC.iff.1 hn1;obtain rfl:cs=#[.int .i64 line,wv,.bool blk,kv]:=Array.toList_inj.1 (by rw[ecs]);have H2:=hid hc1;obtain⟨Aw,cw,rfl,-⟩:=id hwd;obtain⟨Ak,ck,rfl,-⟩:=id hkd;clear hn1 hc1 ecs hwd hkd;go_upto_region 7 with(fail)
      obtain⟨i0,z0,hi0,hz0,hk0,hs0,hb0⟩:=zLu Tryz.infoNode;have Hi0:=hid hi0;have Hz0:=hid hz0;have Hk0:=hid hk0;have Hs0:=hid hs0;have Hb0:=hid hb0;clear hi0 hz0 hk0 hs0 hb0;have HC3:=hid (HasC.new w2 180 #[.int .i64 line,.slice Aw ws.length cw,.bool blk,.slice Ak kids.length ck]);have HB3:=hid ((Below.refl w2.heap.size w2).alloc (yI _) (.cells #[.int .i64 line,.slice Aw ws.length cw,.bool blk,.slice Ak kids.length ck] 180));change Code.wp _ _ _ _ (w2.alloc (.cells #[.int .i64 line,.slice Aw ws.length cw,.bool blk,.slice Ak kids.length ck] 180));generalize w2.alloc (.cells #[.int .i64 line,.slice Aw ws.length cw,.bool blk,.slice Ak kids.length ck] 180)=w3 at HC3 HB3⊢;obtain⟨x0,x1,x2,x3⟩:=bl4 HC3.out
      have R3:w3.ownsRow w.heap.size 180 4 (.slice A0 ns.length k0) ns.length css:=(E5.out.kept G2.out (.inr (fun e=>by have:=(zKl E5.out e).1;omega))).kept (zDf (yI _) HB3.out none) (by
       cases hx:(Value.slice A0 ns.length k0).ownBlock with
       |none=>exact .inl rfl
       |some k=>exact .inr (by simp))
      have hsz2:=G2.out.size;have hsz3:=HB3.out.size;have hszr:=E4.out.size;have N3:Hid (NdsC w3 (fun k=>w.heap.size≤k∧(Value.slice A0 ns.length k0).ownBlock≠some k) ns css):=hid (NdsC.frame (fun k hk hl=>⟨hk,(HB3.out.block k (by omega)).trans (G2.out.block k hl (fun e=>by injection e with e;have:=hk.1;omega))⟩) (by omega) _ _ E6.out);have M3:Hid (NdC w3 (fun k=>w.heap.size≤k∧(Value.slice A0 ns.length k0).ownBlock≠some k) (.mk line ws blk kids) [.int .i64 line,.slice Aw ws.length cw,.bool blk,.slice Ak kids.length ck]):=hid (NdC.frame (fun k hk hl=>⟨⟨by omega,fun e=>by have:=(zKl E5.out e).2;omega⟩,HB3.out.block k hl⟩) (by omega) _ _ HN1.out);have HR3:=hid R3;have hlen:=(seq_len lines n').2 y.1 (y :: r) [] _ r1 HND.out;rw[yG]at hlen;clear R3 HC3;go_wp2_with (at_builtin;refine zIq w3 rfl _ _ _ rfl w.heap.size _ i0 _ _ _ Tryz.underlying119 Hi0.out Hz0.out Hs0.out Hb0.out Hk0.out (by decide) (.slice A0 ns.length k0) ns.length _ rfl HR3.out #[.int .i64 line,.slice Aw ws.length cw,.bool blk,.slice Ak kids.length ck] rfl rfl (fun u hu=>by simp only[List.mem_cons,List.not_mem_nil,or_false]at hu;rcases hu with rfl|rfl|rfl|rfl<;>rfl) (by omega) (by decide) (by omega) ?_;intro v5 w5 ho5 hg5 hat5);have hb5:∀k,(Value.slice A0 ns.length k0).ownBlock=some k→w.heap.size≤k∧k<wr.heap.size:=fun k hk=>zKl E5.out hk
      go_roundg r1.length;case measure=>omega
      case rel=>
       have hcB:=E3.out.1;refine⟨r1,rfl,hid ⟨n', ns++[.mk line ws blk kids],css++[.int .i64 line,.slice Aw ws.length cw,.bool blk,.slice Ak kids.length ck],HES.out,by omega,(H2.out.keep HB3.out).other hg5 (fun k hk=>⟨by have:=(hb5 k hk).1;omega,by have:=(hb5 k hk).1;omega⟩),?_,by simpa using ho5,NdsC.snoc (NdsC.frame (fun k hk hl=>⟨⟨hk.1,fun e=>?_⟩,hg5.block k hl (fun e=>hk.2 e.symm)⟩) hg5.size _ _ N3.out) (NdC.frame (fun k hk hl=>⟨⟨hk.1,fun e=>?_⟩,hg5.block k hl (fun e=>hk.2 e.symm)⟩) hg5.size _ _ M3.out),by simp only[yA,yG,yH];omega⟩⟩
       ·refine⟨hg5.os.trans (HB3.out.os.trans K2.out.os),hg5.tape.trans (HB3.out.tape.trans K2.out.tape),hg5.output.trans (HB3.out.output.trans K2.out.output),yJ K2.out.size (yJ hsz3 hg5.size),fun k hk hne=>?_⟩
        have hk2:=K2.out.size;exact(hg5.block k (by omega) (fun e=>by have:=(hb5 k e.symm).1;omega)).trans ((HB3.out.block k (by omega)).trans (K2.out.block k hk hne))
       ·rcases hat5 with q|q
        ·exact hk.2 (q.symm.trans e)
        ·rw[q]at e;injection e with e;omega
       ·rcases hat5 with q|q
        ·exact hk.2 (q.symm.trans e)
        ·rw[q]at e;injection e with e;omega
theorem Tryz.infoStr:(Tryz.prog.info? 9).map (fun i=>(i.zero.map (fun z=>z.cells.size),i.size,i.bytes))=some (some 1,1,16):=by kernel_rfl
theorem zMg{W:World}{z:Nat}{T:TypeId}{a0 a1 a2 a3 b0 b1 b2 b3:Value}(h:HasC T z #[b0,b1,b2,b3] W) :
  HasC T z #[a0,a1,a2,a3] ((((W.setCell ⟨z,0,none⟩ a0).setCell ⟨z,1,none⟩ a1).setCell ⟨z,2,none⟩ a2).setCell ⟨z,3,none⟩ a3)∧W.grownBy ((((W.setCell ⟨z,0,none⟩ a0).setCell ⟨z,1,none⟩ a1).setCell ⟨z,2,none⟩ a2).setCell ⟨z,3,none⟩ a3) (some z) :=
 ⟨Lib.heap_setCell_same (i:=3) (Lib.heap_setCell_same (i:=2) (Lib.heap_setCell_same (i:=1) (Lib.heap_setCell_same (i:=0) h _) _) _) _,zDi (zDi (zDi (zBb _ _ _ _) (zBb _ _ _ _)) (zBb _ _ _ _)) (zBb _ _ _ _)⟩
theorem zEt{w W W' : World}{c z:Nat}(h:w.grownBy W (some c))(hg:W.grownBy W' (some z))(hz:w.heap.size≤z):w.grownBy W' (some c) :=
 ⟨hg.os.trans h.os,hg.tape.trans h.tape,hg.output.trans h.output,yJ h.size hg.size,fun k hk hne=>(hg.block k (Nat.lt_of_lt_of_le hk h.size) (fun e=>by injection e;omega)).trans (h.block k hk hne)⟩
theorem grown_newR{w W W' : World}{c:Nat}{row:Option Nat}(h:w.grownBy W (some c))(hg:W.grownBy W' row)(hz:∀k,row=some k→w.heap.size≤k):w.grownBy W' (some c) :=
 ⟨hg.os.trans h.os,hg.tape.trans h.tape,hg.output.trans h.output,yJ h.size hg.size,fun k hk hne=>(hg.block k (Nat.lt_of_lt_of_le hk h.size) (fun e=>by have:=hz k e.symm;omega)).trans (h.block k hk hne)⟩
def NdI(c B:Nat)(lines:Int)(m:Nat)(x:Tk)(t:List Tk)(w:World)(z q:Nat)(t' : List Tk)(wr:World):Prop :=
 ∃(m' : Nat) (ws:List (List UInt8)) (v:Value),nodeN lines m x.1 (x :: t) []=nodeN lines m' x.1 t' ws∧2*t'.length+1≤m' ∧ Cu c B lines t' wr∧w.grownBy wr (some c)∧HasC 180 z #[.int .i64 0,.slice none 0 0,.bool false,.slice none 0 0] wr∧HasC 180 q #[.int .i64 x.1,v,.bool false,.slice none 0 0] wr ∧
  wr.ownsRow w.heap.size 9 1 v ws.length (ws.map strV)∧v.ownBlock≠some z∧v.ownBlock≠some q∧t'.length+ws.length≤t.length+1
theorem own_form1{w:World}{B:Nat}{T:TypeId}{v:Value}{n:Nat}{css:List Value}(h:w.ownsRow B T 1 v n css):∃A cap,v=.slice A n cap:=by
 rcases h.2 with⟨e,h0⟩|⟨g,cap,cur,e,-⟩
 ·exact⟨none,0,by rw[h0];exact e⟩
 ·exact⟨_,_,e⟩
theorem node_step(N:Nat)(SC:SeqC N):NodC (N+1):=by
 intro c B m lines x t w hN h6 hm h;have H:=hid h;have HS:=hid SC;have HH:=hid (show t.length≤N∧t.length+1≤65536∧2*(t.length+1)+1≤m from⟨by omega,h6,hm⟩);have hcl:=h.lt;clear h SC hN h6 hm;go_enter Tryz.func134,Tryz.ntmps134;go_upto_region 1 with(fail)
 have HZ:=hid (HasC.new w 180 #[.int .i64 0,.slice none 0 0,.bool false,.slice none 0 0]);have HB1:=hid ((Below.refl w.heap.size w).alloc (yI _) (.cells #[.int .i64 0,.slice none 0 0,.bool false,.slice none 0 0] 180));change Code.wp _ _ _ _ (w.alloc (.cells #[.int .i64 0,.slice none 0 0,.bool false,.slice none 0 0] 180));generalize w.alloc (.cells #[.int .i64 0,.slice none 0 0,.bool false,.slice none 0 0] 180)=wA at HZ HB1⊢;have H1:=hid (H.out.keep HB1.out);obtain⟨g,o,p,hv,c1,c2,-,hp,hmx,-⟩:=H1.out.popped;have c0:wA.cell? ⟨c,0,none⟩=some (.slice (some ⟨g,o,none⟩) (t.length+1) p):=by rw[Lib.cell_of_heap hv];rfl
 have hi:(0:Int)<(t.length:Int)+1:=by omega
 have hzl:=zBj HZ.out;unfold maxLen at hmx;clear hv;go_upto_region 2 with(fail)
 have HQ:=hid (HasC.new wA 180 #[.int .i64 x.1,.slice none 0 0,.bool false,.slice none 0 0]);have HB2:=hid ((Below.refl wA.heap.size wA).alloc (yI _) (.cells #[.int .i64 x.1,.slice none 0 0,.bool false,.slice none 0 0] 180));change Code.wp _ _ _ _ (wA.alloc (.cells #[.int .i64 x.1,.slice none 0 0,.bool false,.slice none 0 0] 180));generalize wA.alloc (.cells #[.int .i64 x.1,.slice none 0 0,.bool false,.slice none 0 0] 180)=w2 at HQ HB2⊢;have HZ2:=hid (HZ.out.keep HB2.out);have H2:=hid (H1.out.keep HB2.out);have HG2:Hid (w.grownBy w2 (some c)):=hid (zDf (yI _) (HB1.out.trans (HB2.out.mono HB1.out.size)) _);have HI0:Hid (NdI c B lines m x t w w.heap.size wA.heap.size (x :: t) w2):=hid ⟨m,[],.slice none 0 0,rfl,by have:=HH.out.2.2;rw[yG];omega,H2.out,HG2.out,HZ2.out,HQ.out,World.ownsRow_nil _ _ _ _,by simp[Value.ownBlock],by simp[Value.ownBlock],by simp⟩;generalize hz:w.heap.size=z at HI0⊢;generalize hq:wA.heap.size=q at HI0⊢;have hzq:z<q:=by omega
 clear c0 c1 c2 HZ HZ2 HQ H2 HG2 HB1 HB2 H1 hi hp hmx hzl hq;go_loopg [] (t.length+1) (fun gh wr=>∃t' : List Tk,gh=t'.length∧Hid (NdI c B lines m x t w z q t' wr));case atStart=>exact⟨x :: t,rfl,HI0⟩
 case round=>
  clear HI0;obtain⟨t', rfl,HI⟩:=hrel;obtain⟨m', ws,v,e1,e2,e3,e4,e5,e6,e7,e8,e9,e10⟩:=HI.out;obtain⟨A0,k0,rfl⟩:=own_form1 e7;have E1:=hid e1;have E3:=hid e3;have E4:=hid e4;have E5:=hid e5;have E6:=hid e6;have E7:=hid e7;have E8:=hid e8;have E9:=hid e9;clear e1 e3 e4 e5 e6 e7 e8 e9 HI;obtain⟨n', rfl⟩:∃n', m' = n' + 1:=⟨m' - 1,by omega⟩;cases t' with
  |nil=>
   obtain⟨A,p,c0⟩:=E3.out.rest0;have cl:=E3.out.linesC;have ES:=E1.out;rw[nodeN]at ES;have HES:=hid ES;rw[yH]at c0;have z0:=E5.out.cell 0;have z1:=E5.out.cell 1;have z2:=E5.out.cell 2;have z3:=E5.out.cell 3;have fz:=E5.out.frz;clear ES;go_wp2_with fail;go_region_law (fail)
   all_goals
    go_wp2_with fail;have q4:=zMg (a0:=.int .i64 0) (a1:=.slice none 0 0) (a2:=.bool false) (a3:=.slice none 0 0) E5.out;refine bodyPost_ret (zBi rfl rfl rfl rfl (HasC.loadR (T:=180) (g:=z) (cs:=#[.int .i64 0,.slice none 0 0,.bool false,.slice none 0 0]) ?hz Tryz.rowNode Tryz.sizeNode)) rfl ?_;case hz=>exact q4.1
    have gg:=zEt E4.out q4.2 (by omega);refine⟨⟨gg.os,gg.tape,gg.output,gg.size,gg.block⟩,?_⟩;rw[HES.out];rfl
  |cons y r=>
   obtain⟨yl,yt⟩:=y;obtain⟨g2,o2,p2,hv,-,-,-,-,hmx,-⟩:=E3.out.popped;have c0:wr.cell? ⟨c,0,none⟩=some (.slice (some ⟨g2,o2,none⟩) (r.length+1) p2):=by rw[Lib.cell_of_heap hv];rfl
   have hi:(0:Int)<(r.length:Int)+1:=by omega
   have ES:=E1.out;rw[nodeN]at ES;have HES:=hid ES;rw[yG]at e2 e10;unfold maxLen at hmx;clear ES hv;go_wp2_with fail;refine(cnext_any E3.out).mono ?_;rintro e w3 ⟨rfl,h3,k3⟩;have H3:=hid h3;have K3:=hid k3;clear h3 k3 c0;unfold strV;go_upto_region 9 with(fail)
   have HT:=hid (HasC.new w3 65 #[.int .i64 yl,.string (str yt)]);have HB4:=hid ((Below.refl w3.heap.size w3).alloc (yI _) (.cells #[.int .i64 yl,.string (str yt)] 65));change Code.wp _ _ _ _ (w3.alloc (.cells #[.int .i64 yl,.string (str yt)] 65));generalize w3.alloc (.cells #[.int .i64 yl,.string (str yt)] 65)=w4 at HT HB4⊢;have hzl:=zBj E5.out;have hql:=zBj E6.out;have hs3:=K3.out.size;have hs4:=HB4.out.size;have hcB:=E3.out.1;have H4:=hid (H3.out.keep HB4.out);have G4:Hid (w.grownBy w4 (some c)):=hid (zDi E4.out (zDi K3.out (zDf (yI _) HB4.out _)));have Z4:Hid (HasC 180 z #[.int .i64 0,.slice none 0 0,.bool false,.slice none 0 0] w4):=hid ((E5.out.grown K3.out (fun e=>by injection e;omega)).keep HB4.out);have Q4:Hid (HasC 180 q #[.int .i64 x.1,.slice A0 ws.length k0,.bool false,.slice none 0 0] w4):=hid ((E6.out.grown K3.out (fun e=>by injection e;omega)).keep HB4.out)
   have R4:Hid (w4.ownsRow w.heap.size 9 1 (.slice A0 ws.length k0) ws.length (ws.map strV)):=hid ((E7.out.kept K3.out (.inr (fun e=>by have:=(E7.out.lt _ e).1;omega))).kept (zDf (yI _) HB4.out none) (by
    cases hx:(Value.slice A0 ws.length k0).ownBlock with
    |none=>exact .inl rfl
    |some k=>exact .inr (by simp)))
   have t0:w4.cell? ⟨w3.heap.size,0,none⟩=some (.int .i64 yl):=HT.out.cell 0;have t1:w4.cell? ⟨w3.heap.size,1,none⟩=some (.string (str yt)):=HT.out.cell 1;have qc0:w4.cell? ⟨q,0,none⟩=some (.int .i64 x.1):=Q4.out.cell 0;have qc1:w4.cell? ⟨q,1,none⟩=some (.slice A0 ws.length k0):=Q4.out.cell 1;have qc2:w4.cell? ⟨q,2,none⟩=some (.bool false):=Q4.out.cell 2;have qc3:w4.cell? ⟨q,3,none⟩=some (.slice none 0 0):=Q4.out.cell 3;have z0:=Z4.out.cell 0;have z1:=Z4.out.cell 1;have z2:=Z4.out.cell 2;have z3:=Z4.out.cell 3;have fz:=Z4.out.frz;have p59:=wq yt [59];have p123:=wq yt [123];have p125:=wq yt [125];clear HT;cases h59:(yt==[59])with
   |true=>
    rw[h59]at p59;obtain rfl:yt=[59]:=by simpa using h59
    have d123:(([59]:List UInt8)==[123])=false:=by decide
    have d125:(([59]:List UInt8)==[125])=false:=by decide
    rw[d123]at p123;rw[d125]at p125;by_cases hw:ws=[]
    ·subst hw
     have HES2:Hid (nodeN lines m x.1 (x :: t) []=.error yl):=hid HES.out;clear HES;have HES:=HES2;clear HES2;go_wp2_with fail;go_region_law (fail)
     all_goals
      go_wp2_with fail;have q4:=zMg (a0:=.int .i64 0) (a1:=.slice none 0 0) (a2:=.bool false) (a3:=.slice none 0 0) Z4.out;refine bodyPost_ret (zBi rfl rfl rfl rfl (HasC.loadR (T:=180) (g:=z) (cs:=#[.int .i64 0,.slice none 0 0,.bool false,.slice none 0 0]) ?hz Tryz.rowNode Tryz.sizeNode)) rfl ?_;case hz=>exact q4.1
      have gg:=zEt G4.out q4.2 (by omega);refine⟨⟨gg.os,gg.tape,gg.output,gg.size,gg.block⟩,?_⟩;rw[HES.out];rfl
    ·have hw0:((ws.length:Int)==0)=false:=by simp;exact hw
     have hwe:ws.isEmpty=false:=by cases ws with|nil=>exact absurd rfl hw|cons _ _=>rfl
     go_wp2_with fail;have q4:=zMg (a0:=.int .i64 x.1) (a1:=.slice A0 ws.length k0) (a2:=.bool false) (a3:=.slice none 0 0) Z4.out;refine bodyPost_ret (zBi rfl rfl rfl rfl (HasC.loadR (T:=180) (g:=z) (cs:=#[.int .i64 x.1,.slice A0 ws.length k0,.bool false,.slice none 0 0]) ?hz Tryz.rowNode Tryz.sizeNode)) rfl ?_;case hz=>exact q4.1
     have gg:=zEt G4.out q4.2 (by omega);refine⟨⟨gg.os,gg.tape,gg.output,gg.size,gg.block⟩,?_⟩;have HES2:nodeN lines m x.1 (x :: t) []=.ok (.mk x.1 ws false [],r):=by rw[HES.out,hwe];rfl
     rw[HES2];have R5:=R4.out.kept q4.2 (.inr E8.out);exact⟨_,rfl,NdC.iff.2 ⟨_,_,rfl,WdS.own R5 (fun k hk=>(R5.lt k hk).1),NdV.nil⟩,H4.out.other q4.2 (fun k hk=>by injection hk with hk;omega)⟩
   |false=>
    rw[h59]at p59;cases h123:(yt==[123])with
    |true=>
     rw[h123]at p123;obtain rfl:yt=[123]:=by simpa using h123
     have d125:(([123]:List UInt8)==[125])=false:=by decide
     rw[d125]at p125;by_cases hw:ws=[]
     ·subst hw
      have HES2:Hid (nodeN lines m x.1 (x :: t) []=.error yl):=hid HES.out;clear HES;have HES:=HES2;clear HES2;go_wp2_with fail;go_region_law (fail)
      all_goals
       go_wp2_with fail;have q4:=zMg (a0:=.int .i64 0) (a1:=.slice none 0 0) (a2:=.bool false) (a3:=.slice none 0 0) Z4.out;refine bodyPost_ret (zBi rfl rfl rfl rfl (HasC.loadR (T:=180) (g:=z) (cs:=#[.int .i64 0,.slice none 0 0,.bool false,.slice none 0 0]) ?hz Tryz.rowNode Tryz.sizeNode)) rfl ?_;case hz=>exact q4.1
       have gg:=zEt G4.out q4.2 (by omega);refine⟨⟨gg.os,gg.tape,gg.output,gg.size,gg.block⟩,?_⟩;rw[HES.out];rfl
     ·have hw0:((ws.length:Int)==0)=false:=by simp;exact hw
      have hwe:ws.isEmpty=false:=by cases ws with|nil=>exact absurd rfl hw|cons _ _=>rfl
      have HSQ:=hid (HS.out c B n' lines true r w4 (by have:=HH.out.1;omega) (by have:=HH.out.2.1;omega) (by omega) H4.out);clear z0 z1 z2 z3 fz;go_wp2_with fail;refine HSQ.out.mono ?_;rintro e w5 ⟨hg5,hm5⟩;have G5:=hid hg5;have hs5:=G5.out.size;have Z5:=hid (Z4.out.grown hg5 (fun e=>by injection e;omega));have Q5:=hid (Q4.out.grown hg5 (fun e=>by injection e;omega));have R5:=hid (R4.out.kept hg5 (.inr (fun e=>by have:=(R4.out.lt _ e).1;omega)));clear hg5 HSQ t0 t1 qc0 qc1 qc2 qc3;have hse:nodeN lines m x.1 (x :: t) []=(match seqN lines n' true r []with|.error l=>.error l|.ok (ks,r')=>.ok (.mk x.1 ws true ks,r')):=by rw[HES.out,hwe];rfl
      generalize seqN lines n' true r []=sq at hm5 hse;have HSE:=hid hse;have z0:=Z5.out.cell 0;have z1:=Z5.out.cell 1;have z2:=Z5.out.cell 2;have z3:=Z5.out.cell 3;have fz:=Z5.out.frz;clear hse HES;cases sq with
      |error l=>
       obtain rfl:e=_:=hm5;go_wp2_with fail;have q4:=zMg (a0:=.int .i64 0) (a1:=.slice none 0 0) (a2:=.bool false) (a3:=.slice none 0 0) Z5.out;refine bodyPost_ret (zBi rfl rfl rfl rfl (HasC.loadR (T:=180) (g:=z) (cs:=#[.int .i64 0,.slice none 0 0,.bool false,.slice none 0 0]) ?hz Tryz.rowNode Tryz.sizeNode)) rfl ?_;case hz=>exact q4.1
       have gg:=zEt (zDi G4.out G5.out) q4.2 (by omega);refine⟨⟨gg.os,gg.tape,gg.output,gg.size,gg.block⟩,?_⟩;rw[HSE.out];rfl
      |ok a=>
       obtain⟨ks,r'⟩:=a;obtain⟨kv,rfl,hkd,hcu⟩:=hm5;obtain⟨Ak,ck,rfl,-⟩:=id hkd;have KD:=hid hkd;have CU:=hid hcu;clear hkd hcu;have qc0:w5.cell? ⟨q,0,none⟩=some (.int .i64 x.1):=Q5.out.cell 0;have qc1:w5.cell? ⟨q,1,none⟩=some (.slice A0 ws.length k0):=Q5.out.cell 1;have qc2:w5.cell? ⟨q,2,none⟩=some (.bool false):=Q5.out.cell 2;have qc3:w5.cell? ⟨q,3,none⟩=some (.slice none 0 0):=Q5.out.cell 3;have fq:=Q5.out.frz;go_wp2_with fail;have gq:w5.grownBy ((w5.setCell ⟨q,2,none⟩ (.bool true)).setCell ⟨q,3,none⟩ (.slice Ak ks.length ck)) (some q):=zDi (zBb _ _ _ _) (zBb _ _ _ _);have Z6:=Z5.out.grown gq (fun e=>by injection e;omega);have q4:=zMg (a0:=.int .i64 x.1) (a1:=.slice A0 ws.length k0) (a2:=.bool true) (a3:=.slice Ak ks.length ck) Z6;refine bodyPost_ret (zBi rfl rfl rfl rfl (HasC.loadR (T:=180) (g:=z) (cs:=#[.int .i64 x.1,.slice A0 ws.length k0,.bool true,.slice Ak ks.length ck]) ?hz Tryz.rowNode Tryz.sizeNode)) rfl ?_;case hz=>exact q4.1
       have g6:=zEt (zDi G4.out G5.out) gq (by omega);have gg:=zEt g6 q4.2 (by omega);refine⟨⟨gg.os,gg.tape,gg.output,gg.size,gg.block⟩,?_⟩;rw[HSE.out];have R6:=(R5.out.kept gq (.inr E9.out)).kept q4.2 (.inr E8.out);exact⟨_,rfl,NdC.iff.2 ⟨_,_,rfl,WdS.own R6 (fun k hk=>(R6.lt k hk).1),KD.out.frame (fun k hk hl=>⟨by omega,(q4.2.block k (by have:=gq.size;omega) (fun e=>by injection e;omega)).trans (gq.block k hl (fun e=>by injection e;omega))⟩) (yJ gq.size q4.2.size)⟩,(CU.out.other gq (fun k hk=>by injection hk with hk;omega)).other q4.2 (fun k hk=>by injection hk with hk;omega)⟩
    |false=>
     rw[h123]at p123;cases h125:(yt==[125])with
     |true=>
      rw[h125]at p125;obtain rfl:yt=[125]:=by simpa using h125
      have HES2:Hid (nodeN lines m x.1 (x :: t) []=.error yl):=hid (by rw[HES.out];cases ws<;>rfl);clear HES;have HES:=HES2;clear HES2;by_cases hw:ws=[]
      ·subst hw
       go_wp2_with fail;go_region_law (fail)
       all_goals
        go_wp2_with fail;have q4:=zMg (a0:=.int .i64 0) (a1:=.slice none 0 0) (a2:=.bool false) (a3:=.slice none 0 0) Z4.out;refine bodyPost_ret (zBi rfl rfl rfl rfl (HasC.loadR (T:=180) (g:=z) (cs:=#[.int .i64 0,.slice none 0 0,.bool false,.slice none 0 0]) ?hz Tryz.rowNode Tryz.sizeNode)) rfl ?_;case hz=>exact q4.1
        have gg:=zEt G4.out q4.2 (by omega);refine⟨⟨gg.os,gg.tape,gg.output,gg.size,gg.block⟩,?_⟩;rw[HES.out];rfl
      ·have hw0:((ws.length:Int)==0)=false:=by simp;exact hw
       go_wp2_with fail;go_region_law (fail)
       all_goals
        go_wp2_with fail;have q4:=zMg (a0:=.int .i64 0) (a1:=.slice none 0 0) (a2:=.bool false) (a3:=.slice none 0 0) Z4.out;refine bodyPost_ret (zBi rfl rfl rfl rfl (HasC.loadR (T:=180) (g:=z) (cs:=#[.int .i64 0,.slice none 0 0,.bool false,.slice none 0 0]) ?hz Tryz.rowNode Tryz.sizeNode)) rfl ?_;case hz=>exact q4.1
        have gg:=zEt G4.out q4.2 (by omega);refine⟨⟨gg.os,gg.tape,gg.output,gg.size,gg.block⟩,?_⟩;rw[HES.out];rfl
     |false=>
      rw[h125]at p125;obtain⟨i0,zz0,hi0,hz0,hk0,hs0,hb0⟩:=zLu Tryz.infoStr;have Hi0:=hid hi0;have Hz0:=hid hz0;have Hk0:=hid hk0;have Hs0:=hid hs0;have Hb0:=hid hb0;clear hi0 hz0 hk0 hs0 hb0;have h65:=HH.out.2.1;have hsz4:=G4.out.size;have hsp:special yt=false:=by unfold special;rw[h59,h123,h125];rfl
      have HES2:Hid (nodeN lines m x.1 (x :: t) []=nodeN lines n' x.1 r (ws++[yt])):=hid (by rw[HES.out,if_pos (by rw[hsp];rfl)]);clear HES;go_wp2_with (at_builtin;refine zIq w4 rfl _ _ _ rfl w.heap.size _ i0 _ _ _ Tryz.underlying52 Hi0.out Hz0.out Hs0.out Hb0.out Hk0.out (by decide) (.slice A0 ws.length k0) ws.length _ rfl R4.out #[.string (str yt)] rfl rfl (fun u hu=>by simp only[List.mem_cons,List.not_mem_nil,or_false]at hu;subst hu;rfl) (by omega) (by decide) (by omega) ?_;intro v5 w5 ho5 hg5 hat5;obtain⟨A5,k5,rfl⟩:=own_form1 ho5;have Q5:=Q4.out.grown hg5 (fun e=>E9.out e.symm);have q51:=Q5.cell 1;have fq5:=Q5.frz);have hb5:∀k,(Value.slice A0 ws.length k0).ownBlock=some k→w.heap.size≤k∧k<wr.heap.size:=fun k hk=>E7.out.lt k hk
      have hq5:(Value.slice A5 (ws.length+1) k5).ownBlock≠some q:=by
       rcases hat5 with e|e
       ·rw[e];exact E9.out
       ·rw[e];intro h;injection h with h;omega
      have hz5:(Value.slice A5 (ws.length+1) k5).ownBlock≠some z:=by
       rcases hat5 with e|e
       ·rw[e];exact E8.out
       ·rw[e];intro h;injection h with h;omega
      go_roundg r.length;case measure=>omega
      case rel=>
       refine⟨r,rfl,hid ⟨n', ws++[yt],.slice A5 (ws.length+1) k5,HES2.out,by omega,(H4.out.other hg5 (fun k hk=>⟨by have:=(hb5 k hk).1;omega,by have:=(hb5 k hk).1;omega⟩)).other (zBb _ _ _ _) (fun k hk=>by injection hk with hk;omega),zEt (grown_newR G4.out hg5 (fun k hk=>(hb5 k hk).1)) (zBb _ _ _ _) (by omega),(Z4.out.grown hg5 (fun e=>E8.out e.symm)).grown (zBb _ _ _ _) (fun e=>by injection e;omega),Lib.heap_setCell_same (i:=1) (Q4.out.grown hg5 (fun e=>E9.out e.symm)) _,?_,hz5,hq5,by simp only[yA,yG,yH];omega⟩⟩;rw[yA,List.map_append];exact ho5.kept (zBb _ _ _ _) (.inr hq5)
theorem nod_all:∀N,NodC N∧SeqC N:=fun N=>by
 induction N with
 |zero=>
  have h0:NodC 0:=fun c B m lines x t w h=>absurd h (by omega)
  exact⟨h0,seq_step 0 h0⟩
 |succ N ih=>exact⟨node_step N ih.2,seq_step (N+1) (node_step N ih.2)⟩
theorem seq_any(N c B m:Nat)(lines:Int)(inner:Bool)(t:List Tk)(w:World)(hN:t.length≤N)(h6:t.length≤65536)(hm:2*t.length+2≤m)(h:Cu c B lines t w) :
  Calls Tryz.prog 66 #[.pointer (some ⟨c,0,none⟩),.bool inner] w (SeqP c B lines (seqN lines m inner t []) w):=(nod_all N).2 c B m lines inner t w hN h6 hm h
theorem own_nil{w:World}{B:Nat}:∀{l:List Orow},(∀o∈l,o.own w B∧o.v.ownBlock=none)→OwnAll w B l∧blks l=[]:=fun h=>by
 have hb:blks _=[]:=List.filterMap_eq_nil_iff.2 (fun o ho=>(h o ho).2);exact⟨⟨fun o ho=>(h o ho).1,by show(blks _).Nodup;rw[hb];exact List.nodup_nil⟩,hb⟩
theorem BR.zero{w w' : World}(hh:HasC 124 w.heap.size rtN.C w')(hB:Below w.heap.size w w'):BR w.heap.size w.heap.size w rtN [] w' := by
 obtain⟨h1,h2⟩:=own_nil (w:=w') (B:=w.heap.size) (l:=btR rtN) (fun o ho=>by
  simp only[btR,rtN,List.map_nil,List.nil_append,List.mem_cons,List.not_mem_nil,or_false]at ho
  rcases ho with rfl|rfl|rfl|rfl|rfl|rfl|rfl|rfl|rfl|rfl|rfl|rfl|rfl|rfl<;>exact⟨rowE_own.2 OwnE.nil,rfl⟩)
 exact⟨hh,h1,hB,yI _,yI _,by rw[h2];exact List.not_mem_nil,fun k hk=>by cases hk⟩
theorem BRes.stored{E:Rt→Int}{x:Int × Int × Rt}{B B' g:Nat}{e:Ending}{w w' : World}(h:BRes E x B e w)(hg:w.grownBy w' (some g))(hB:B' ≤ g)(hgB:g<B):BRes E x B' e w' := by
 obtain⟨r,h1,h2,h3,h4⟩:=h;exact⟨r,h1,h2,fun ks w'' hk hf=>h3 (g :: ks) w'' (fun k hm=>(List.mem_cons.1 hm).elim (fun e=>e ▸ hgB) (fun hm=>by have:=hk k hm;omega)) ((Fr.ofOne hg (by simp)).trans (hf.mono (fun k hm=>List.mem_cons_of_mem _ hm))),h4⟩
theorem bparse_gen(E:Rt→Int)(CR:CRt E)(hE:∀r,E r.plain=E r)(FC:∀f,FormC f)(v:Value)(t:List Tk)(lines:Int)(w:World)(hs:Slc w w.heap.size 2 v t.length (t.flatMap zDo))(hv:∃A p,v=.slice A t.length p∧t.length≤p)(hl:0≤lines)(ht:∀x∈t,TkN x)(hn:t.length≤65536)(he:EnvA w.heap.size w) :
  Calls Tryz.prog 20 #[v,.int .i64 lines] w fun e w' => Below w.heap.size w w' ∧ BRes E (zHj E lines t) w.heap.size e w' := by
 have HSO:=hid ((seq_ok hl (2*t.length+2)).1 false t [] ht (by rw[NdsOk];trivial));obtain⟨A0,p0,rfl,hp0⟩:=hv;have HSL:=hid hs;have HE:=hid he;have HCR:=hid CR;have HPE:=hid hE;have HFC:=hid FC;have HN:=hid hn;have HP0:=hid hp0;clear hs hl ht hn he CR hE FC hp0;go_enter Tryz.func20,Tryz.ntmps20;go_upto_region 1 with(fail)
 have HRES:=hid (HasC.new w 41 rtE);have HB1:=hid ((Below.refl w.heap.size w).alloc (yI _) (.cells rtE 41));change Code.wp _ _ _ _ (w.alloc (.cells rtE 41));generalize w.alloc (.cells rtE 41)=wA at HRES HB1⊢;have hlt:=zBj HRES.out;go_upto_region 2 with(fail)
 have HCN:=hid (HasC.new wA 118 #[.slice A0 t.length p0,.int .i64 lines]);have HB2:=hid ((Below.refl wA.heap.size wA).alloc (yI _) (.cells #[.slice A0 t.length p0,.int .i64 lines] 118));change Code.wp _ _ _ _ (wA.alloc (.cells #[.slice A0 t.length p0,.int .i64 lines] 118));generalize wA.alloc (.cells #[.slice A0 t.length p0,.int .i64 lines] 118)=w2 at HCN HB2⊢;have HCU:Hid (Cu wA.heap.size wA.heap.size lines t w2):=hid ⟨yI _,_,HCN.out,((HSL.out.below HB1.out).mono HB1.out.size).below HB2.out,A0,p0,rfl,HP0.out⟩;have HSQ:=hid (seq_any t.length wA.heap.size wA.heap.size (2*t.length+2) lines false t w2 (yI _) HN.out (yI _) HCU.out);have hcl:=zBj HCN.out;clear HCU HCN;go_wp2_with fail;refine HSQ.out.mono ?_;rintro e w3 ⟨hg3,hm3⟩;have HB3:Hid (Below wA.heap.size wA w3):=hid (HB2.out.trans (zCd hg3 (yI _) HB2.out.size));have HBW:Hid (Below w.heap.size w w3):=hid (HB1.out.trans (HB3.out.mono HB1.out.size));have HR3:=hid (HRES.out.below HB3.out hlt);have HSO2:=HSO.out;clear hg3 HSQ HB2 HRES HSO;generalize hsq:seqN lines (2*t.length+2) false t []=sq at hm3 HSO2;have HSE:=hid hsq;clear hsq;cases sq with
 |error l=>
  obtain rfl:e=_:=hm3;have EP:Hid (zHj E lines t=(l,2,rtN)):=hid (by unfold zHj;rw[HSE.out]);clear HSO2;go_wp2_with (first|(refine zAd rfl 41 _ _ rfl rfl (ds:=rtE) rfl HR3.out rfl Tryz.sizeRt rtE_one ?_;intro wz hz1 hz2));refine bodyPost_ret (zBi rfl rfl rfl rfl (hz1.loadR Tryz.rowRt Tryz.sizeRt)) rfl ?_;exact⟨HBW.out.trans (zCd hz2 (yI _) HBW.out.size),by rw[EP.out];exact BRes.bad (by decide)⟩
 |ok a=>
  obtain⟨ns,tr⟩:=a;obtain⟨v3,rfl,hnd,-⟩:=hm3;obtain⟨hok,-,hsz⟩:=HSO2;have HOK:=hid hok;have HSZ:Hid (sizeL ns≤65536):=hid (by rw[show sizeL ([]:List Nd)=0 from by rw[sizeL]]at hsz;have:=HN.out;dsimp only at hsz;omega);have HND:Hid (NdV w3 (·<w3.heap.size) v3 ns):=hid (hnd.frame (fun k _ hl=>⟨hl,rfl⟩) (yI _));obtain⟨A3,p3,rfl⟩:∃A c,v3=.slice A ns.length c:=by obtain⟨A,c,e,-⟩:=hnd;exact⟨A,c,e⟩
  have HE3:=hid ((HE.out.keep HBW.out).up HBW.out.size);clear hnd hok hsz;go_upto_region 6 with(fail)
  have HRD0:=hid (HasC.new w3 124 rtN.C);have HB4:=hid ((Below.refl w3.heap.size w3).alloc (yI _) (.cells rtN.C 124));change Code.wp _ _ _ _ (w3.alloc (.cells rtN.C 124));generalize w3.alloc (.cells rtN.C 124)=w4 at HRD0 HB4⊢;have HZ:=hid (BR.zero HRD0.out HB4.out);have HRD:=hid (read_all HFC.out (sizeL ns) .top ns (.slice A3 ns.length p3) (.func (.func 68) #[.pointer (some ⟨w3.heap.size,0,none⟩)] #[]) w3.heap.size w3.heap.size 0 w3 w4 rtN [] (yI _) HZ.out rfl HND.out HOK.out HE3.out rtN_ok (by have:=HSZ.out;omega));have HLT3:=hid (Nat.lt_of_lt_of_le hlt HB3.out.size);clear HRD0 HZ HB4;go_wp2_with fail;refine HRD.out.mono ?_;rintro e w5 ⟨r,res,hq,rfl,hbr,-⟩;have hq' : readN .top [] ns rtN=(r.plain,res):=hq;have HQ:=hid hq';have HBR:=hid hbr;have HB5:=hid hbr.bel;have HR5:=hid (HR3.out.below HB5.out HLT3.out);have HBX:Hid (Below w.heap.size w w5):=hid (HBW.out.trans (HB5.out.mono HBW.out.size));clear hq hq' hbr HRD;cases res with
  |some le=>
   obtain⟨l,e'⟩:=le;have he2:e' = 2∨e' = 4:=zIk .top ns [] rtN (l,e') (by rw[HQ.out]);have EP:Hid (zHj E lines t=(l,e', rtN)):=hid (by unfold zHj;rw[HSE.out];dsimp only;rw[HQ.out]);have hz:e' ≠ 0:=by rcases he2 with rfl|rfl<;>decide
   have d1:(e' != 0)=true:=by simpa using hz
   have HZ0:=hid hz;rw[show resL (some (l,e'))=l from rfl,show resE (some (l,e'))=e' from rfl];clear he2 hz;go_wp2_with (first|(refine zAd rfl 41 _ _ rfl rfl (ds:=rtE) rfl HR5.out rfl Tryz.sizeRt rtE_one ?_;intro wz hz1 hz2));refine bodyPost_ret (zBi rfl rfl rfl rfl (hz1.loadR Tryz.rowRt Tryz.sizeRt)) rfl ?_;exact⟨HBX.out.trans (zCd hz2 (yI _) HBX.out.size),by rw[EP.out];exact BRes.bad HZ0.out⟩
  |none=>
   have EP:Hid (zHj E lines t=if E r=0 then(lines,0,r.plain)else(lines,E r,rtN)):=hid (by unfold zHj;rw[HSE.out];dsimp only;rw[HQ.out];dsimp only;rw[HPE.out]);have HFT:Hid r.fit:=hid (RtI.fits (by have h:=zLd .top ns [] rtN 0 rtN_ok;rw[HQ.out]at h;exact h) rfl);have HA5:=hid (HBR.out.at (ks:=[]) (fun _ h=>by cases h) (Fr.refl _ _));have HC5:=hid (HCR.out r w5 w5.heap.size HA5.out (yI _) HFT.out);have HG5:=hid HBR.out.has;rw[show resL none=0 from rfl,show resE none=0 from rfl];clear HQ HFC;go_wp2_with (first|(refine zAa rfl 41 _ rfl rfl HG5.out.range Tryz.rowRt Tryz.sizeRt ?_));refine HC5.out.mono ?_;rintro e w6 ⟨rfl,hb6⟩;have HB6:=hid hb6;have HR6:=hid (HR5.out.keep hb6);have HG6:=hid (HG5.out.keep hb6);have HBR6:=hid (HBR.out.on hb6);have HBY:Hid (Below w.heap.size w w6):=hid (HBX.out.trans (hb6.mono HBX.out.size));have HONE:=hid HA5.out.one;clear hb6 HC5 HA5;cases hE:(E r != 0)with
   |true=>
    have hne:E r≠0:=by simpa using hE
    have EP2:Hid (zHj E lines t=(lines,E r,rtN)):=hid (by rw[EP.out,if_neg hne]);have HNE:=hid hne;clear hne EP;go_wp2_with (first|(refine zAd rfl 41 _ _ rfl rfl (ds:=rtE) rfl HR6.out rfl Tryz.sizeRt rtE_one ?_;intro wz hz1 hz2));refine bodyPost_ret (zBi rfl rfl rfl rfl (hz1.loadR Tryz.rowRt Tryz.sizeRt)) rfl ?_;exact⟨HBY.out.trans (zCd hz2 (yI _) HBY.out.size),by rw[EP2.out];exact BRes.bad HNE.out⟩
   |false=>
    have h0:E r=0:=by simpa using hE
    have EP2:Hid (zHj E lines t=(lines,0,r.plain)):=hid (by rw[EP.out,if_pos h0]);have H0:=hid h0;clear h0 EP;go_wp2_with (first|(refine zAa rfl 41 _ rfl rfl HG6.out.range Tryz.rowRt Tryz.sizeRt ?_)|(refine zAd rfl 41 _ _ rfl rfl (ds:=r.C) rfl HR6.out rfl Tryz.sizeRt HONE.out ?_;intro wz hz1 hz2));refine bodyPost_ret (zBi rfl rfl rfl rfl (hz1.loadR Tryz.rowRt Tryz.sizeRt)) rfl ?_;refine⟨HBY.out.trans (zCd hz2 (yI _) HBY.out.size),?_⟩;rw[EP2.out];exact BRes.ok rfl (fun ks wq hk hf=>HBR6.out.at (ks:=w.heap.size :: ks) (fun k hm=>(List.mem_cons.1 hm).elim (fun e=>e ▸ HLT3.out) (fun hm=>Nat.lt_trans (hk k hm) HLT3.out)) ((Fr.ofOne hz2 (by simp)).trans (hf.mono (fun k hm=>List.mem_cons_of_mem _ hm)))) HFT.out H0.out
theorem bParse_gen(E:Rt→Int)(CR:CRt E)(hE:∀r,E r.plain=E r)(FC:∀f,FormC f):PRt E:=by
 intro s w he;have HE:=hid he;have HP:=hid (fun v t lines W=>bparse_gen E CR hE FC v t lines W);clear he CR hE FC;go_enter Tryz.func9,Tryz.ntmps9;go_upto_region 1 with(fail)
 have HRES:=hid (HasC.new w 41 rtE);have HB1:=hid ((Below.refl w.heap.size w).alloc (yI _) (.cells rtE 41));change Code.wp _ _ _ _ (w.alloc (.cells rtE 41));generalize w.alloc (.cells rtE 41)=wA at HRES HB1⊢;have hlt:=zBj HRES.out;have HX:=hid (tokens_any s wA);by_cases hk:zBr (bytes s)=0
 ·have HK:=hid hk
  have HT:=hid (toks_ok hk);have e1:tokRes (bytes s)=zDq (bytes s):=if_pos hk;have e2:zFu (bytes s)=zCs (bytes s):=if_pos hk;have HPB:Hid (zKe E (bytes s)=zHj E ((zCs (bytes s)).length:Int) (zDq (bytes s))):=hid (if_pos hk);go_wp2_with fail;refine HX.out.mono ?_;rintro e w1 ⟨v1,rfl,ho1,hb1⟩;rw[HK.out,e2];rw[e1]at ho1;have HB2:=hid hb1;have HO1:=hid (Slc.of_own ho1)
  have HF:Hid (∃A p,v1=.slice A (zDq (bytes s)).length p∧(zDq (bytes s)).length≤p):=hid (by
   obtain⟨-,h⟩:=ho1;rcases h with⟨rfl,h0⟩|⟨g,cap,cur,rfl,-,-,h4,-⟩
   ·exact⟨none,0,by rw[h0],by omega⟩
   ·exact⟨_,_,rfl,h4⟩)
  have HBW:Hid (Below w.heap.size w w1):=hid (HB1.out.trans (hb1.mono HB1.out.size));have HR1:=hid (HRES.out.below hb1 hlt);have hlt1:=Nat.lt_of_lt_of_le hlt hb1.size;clear ho1 hb1 hk e1 e2 HX;go_wp2_with fail;refine(HP.out v1 (zDq (bytes s)) ((zCs (bytes s)).length:Int) w1 HO1.out HF.out (by omega) HT.out.1 HT.out.2 ((HE.out.keep HBW.out).up HBW.out.size)).mono ?_;rintro e w2 ⟨hb2,hr⟩;have HB3:=hid (HBW.out.trans (hb2.mono HBW.out.size));have HR2:=hid (HR1.out.below hb2 hlt1);have HR:=hid hr;obtain⟨r,-,rfl,hat,-⟩:=hr;have HONE:=hid (hat [] w2 (fun _ h=>by cases h) (Fr.refl _ _)).one;clear hb2 hat;go_wp2_with (first|(refine zAd rfl 41 _ _ rfl rfl (ds:=r.C) rfl HR2.out rfl Tryz.sizeRt HONE.out ?_;intro wz hz1 hz2));refine bodyPost_ret (zBi rfl rfl rfl rfl (hz1.loadR Tryz.rowRt Tryz.sizeRt)) rfl ?_;exact⟨HB3.out.trans (zCd hz2 (yI _) HB3.out.size),by rw[HPB.out];exact HR.out.stored hz2 (yI _) hlt1⟩
 ·have d:(zBr (bytes s) != 0)=true:=by simpa using hk
  have HPB:Hid (zKe E (bytes s)=(0,zBr (bytes s),rtN)):=hid (if_neg hk);have HK:=hid hk;clear hk;go_wp2_with fail;refine HX.out.mono ?_;rintro e w1 ⟨v1,rfl,-,hb1⟩;have HBW:Hid (Below w.heap.size w w1):=hid (HB1.out.trans (hb1.mono HB1.out.size));have HR1:=hid (HRES.out.below hb1 hlt);clear hb1;go_wp2_with (first|(refine zAd rfl 41 _ _ rfl rfl (ds:=rtE) rfl HR1.out rfl Tryz.sizeRt rtE_one ?_;intro wz hz1 hz2));refine bodyPost_ret (zBi rfl rfl rfl rfl (hz1.loadR Tryz.rowRt Tryz.sizeRt)) rfl ?_;exact⟨HBW.out.trans (zCd hz2 (yI _) HBW.out.size),by rw[HPB.out];exact BRes.bad HK.out⟩
end Go.Proofs.YtdlgnhefpoalnaaGreatDoor
