/- The reference's neighbors, of any router. Conditions: the router lies in memory, addresses are numbers below 2^32. -/
import Derived.Test.YthcnojmldldpeaaGreatDoorGad
import Derived.StillTailTactics
set_option maxHeartbeats 8000000
set_option maxRecDepth 100000
namespace Go.Proofs.YthcnojmldldpeaaGreatDoor
open Lib (hid)
open Go.RowKit
theorem zCd(n lo hi:Int)(w:World):Calls Tryz.prog 53 #[.int .i64 n,.int .i64 lo,.int .i64 hi] w fun e w' => e=.returned (.bool (zAb n lo hi))∧w=w' := by
 by_cases h1:lo≤n
 ·have E:Hid (zAb n lo hi=decide (n≤hi)):=hid (by simp[zAb,h1])
  go_enter Tryz.func53,Tryz.ntmps53;go_wp2;go_ret;exact⟨zAg E.out.symm,rfl⟩
 ·have E:Hid (zAb n lo hi=false):=hid (by simp[zAb,h1])
  go_enter Tryz.func53,Tryz.ntmps53;go_wp2;go_ret;exact⟨zAg E.out.symm,rfl⟩
theorem idxF_at{α:Type}{p:α→Bool}{l:List α}{k:Nat}(h:k<l.length){R:Int}(hR:idxF p (l.drop k) k=R):R=if p l[k]then(k:Int)else idxF p (l.drop (k+1)) (k+1):=by
 rw[zHq h,idxF]at hR;exact hR.symm
abbrev LookSt(F:Nat){α:Type}(nm:α→List UInt8)(L:Rt→List α):Prop:=∀(r:Rt) (name:List UInt8) (w:World) (B:Nat),r.at w B→B≤w.heap.size →
 Calls Tryz.prog F #[.agg r.C,.string (str name)] w fun e w' => e=.returned (.int .i64 (idxF (fun x=>nm x==name) (L r) 0))∧Below w.heap.size w w'
abbrev LookK{α:Type}(j n:Nat)(C:α→Array Value)(nm:α→List UInt8)(V:Rt→Value)(L:Rt→List α):Prop :=
 (∀r:Rt,r.C[j]? = some (V r))∧(∀x,(C x).toList.length=n)∧(∀x,(C x).toList[0]? = some (.string (str (nm x))))∧∀(r:Rt) (w:World) (B:Nat),r.at w B→SlV w B n C (V r) (L r)
abbrev LookG(j n F:Nat):Prop:=∀{α:Type} (nm:α→List UInt8) (L:Rt→List α) (V:Rt→Value) (C:α→Array Value),LookK j n C nm V L→LookSt F nm L
theorem rlook_all:(Tryz.prog.funcs[104]? = some Tryz.f104→LookG 3 2 104)∧(Tryz.prog.funcs[141]? = some Tryz.f141→LookG 4 2 141)∧(Tryz.prog.funcs[106]? = some Tryz.f106→LookG 5 2 106)∧(Tryz.prog.funcs[109]? = some Tryz.f109→LookG 2 12 109):=by
 refine⟨?_,?_,?_,?_⟩
 all_goals
  intro hf α nm L V C ⟨hJ,hC,hN,hA⟩ r name w B h hB;obtain⟨A,c,hv,hle,-⟩:=hA r w B h;have H0:=hid (HasC.new w 41 r.C);have B0:Below w.heap.size w (w.alloc (.cells r.C 41)):=(Below.refl _ w).alloc (Nat.le_refl _) _;have HV:=hid hv;have c2:=(H0.out.cell _).trans (hJ r);rw[hv]at c2;have SV:=hid ((hA r w B h).below (B0.mono hB));have hlm:(L r).length≤9223372036854775807:=by have:=SV.out.len;simp only[maxLen]at this;omega
  generalize L r=l at *;obtain⟨R,hR⟩:∃R,idxF (fun x=>nm x==name) l 0=R:=⟨_,rfl⟩;rw[hR];have E:=hid hR;have HN:=hid hN;have HC:=hid hC;have B0:=hid B0;clear h hB hv hA hJ hR hN hC;refine calls_of_wp hf rfl ?_;clear hf;simp only[Tryz.ntmps104,Tryz.ntmps141,Tryz.ntmps106,Tryz.ntmps109,List.size_toArray,List.length_cons,List.length_nil,Nat.reduceAdd,Nat.reduceSub,Array.replicate_succ,Array.replicate_zero,List.push_toArray,List.append_toArray,List.nil_append,List.cons_append];go_upto_region 1 with(fail)
  change Code.wp _ _ _ _ (w.alloc (.cells r.C 41));generalize w.alloc (.cells r.C 41)=wA at H0 B0 SV c2⊢;go_wp2;go_loopg [5] l.length (fun gh ix wr=>wr=wA∧∃k:Nat,k+gh=l.length∧ix=.int .i64 k∧Hid (idxF (fun x=>nm x==name) (l.drop k) k=R));case atStart=>exact⟨rfl,0,by omega,rfl,E⟩
  case round=>
   obtain⟨rfl,k,hk,rfl,E⟩:=hrel;by_cases hlt:k<l.length
   ·have E2:=hid (idxF_at hlt E.out)
    obtain⟨g,o,c', e',-,hg,R0⟩:=SV.out.elem (by decide) HC.out hlt;rw[HV.out]at e';injection e' with e1 e2 e3
    subst e1 e3;have c4:=R0 0 _ (HN.out _);generalize l[k]=x at E2 R0 c4;clear R0 E e2;rw[Nat.add_zero]at c4;have hlz:(k:Int)<(l.length:Int):=by omega
    have hs:((str (nm x)).toList==(str name).toList)=(nm x==name):=by rw[zAe,zAe]
    cases hq:nm x==name with
    |true=>
     rw[hq]at hs;go_wp2;go_ret;exact⟨zAc (by rw[E2.out,hq];rfl),B0.out⟩
    |false=>
     rw[hq]at hs;go_wp2;go_roundg (l.length - (k+1));case measure=>omega
     case rel=>exact⟨rfl,k+1,by omega,by go_num,hid (by rw[E2.out,hq];rfl)⟩
   ·have hlz:¬(k:Int)<(l.length:Int):=by omega
    have E2:=hid (idxF_end hlt E.out);go_wp2;go_ret;exact⟨zAc E2.out.symm,B0.out⟩
theorem zEx:LookSt 104 (·.name) (fun r=>r.lists):=rlook_all.1 Tryz.func104 _ _ (fun r=>r.listsV) PList.C ⟨fun _=>rfl,fun _=>rfl,fun _=>rfl,fun _ _ _ h=>h.hlists⟩
theorem zGk:LookSt 141 (·.name) (fun r=>r.maps):=rlook_all.2.1 Tryz.func141 _ _ (fun r=>r.mapsV) RMap.C ⟨fun _=>rfl,fun _=>rfl,fun _=>rfl,fun _ _ _ h=>h.hmaps⟩
theorem zEy:LookSt 106 (·.name) (fun r=>r.acls):=rlook_all.2.2.1 Tryz.func106 _ _ (fun r=>r.aclsV) AList.C ⟨fun _=>rfl,fun _=>rfl,fun _=>rfl,fun _ _ _ h=>h.hacls⟩
theorem rlookIf_any:LookSt 109 (·.name) (fun r=>r.ifs):=rlook_all.2.2.2 Tryz.func109 _ _ (fun r=>r.ifsV) If.C ⟨fun _=>rfl,fun _=>rfl,fun _=>rfl,fun _ _ _ h=>h.hifs⟩
theorem idxF_way{α:Type}(p:α→Bool):∀(l:List α) (i:Nat),(idxF p l i = -1∧∀j (hj:j<l.length),p l[j]=false)∨∃(k:Nat) (h:k<l.length),idxF p l i=((i+k:Nat):Int)∧p l[k]=true∧∀j (hj:j<l.length),j<k→p l[j]=false
 |[],_=>.inl ⟨rfl,fun _ hj=>absurd hj (Nat.not_lt_zero _)⟩
 |y :: r,i=>by
  unfold idxF;cases hp:p y with
  |true=>exact .inr ⟨0,by simp,by simp,hp,fun _ _ h=>absurd h (Nat.not_lt_zero _)⟩
  |false=>
   rcases idxF_way p r (i+1)with⟨e,h⟩|⟨k,hk,e,h1,h2⟩
   ·refine .inl ⟨by simpa using e,fun j hj=>?_⟩
    cases j with
    |zero=>exact hp
    |succ j=>exact h j (by simpa using hj)
   ·refine .inr ⟨k+1,by simpa using hk,by rw[if_neg (by decide),e];omega,by simpa using h1,fun j hj hlt=>?_⟩
    cases j with
    |zero=>exact hp
    |succ j=>exact h2 j (by simpa using hj) (by omega)
theorem zKn{α:Type}{p:α→Bool}{l:List α}{j k:Nat}(hj:j<l.length)(h:p l[j]=true)(hk:j<k):idxF p l 0<(k:Int):=by
 rcases idxF_way p l 0 with⟨_,hn⟩|⟨i,hi,e,_,hn⟩
 ·rw[hn j hj]at h;cases h
 ·rcases Nat.lt_or_ge j i with hlt|hge
  ·rw[hn j hj hlt]at h;cases h
  ·omega
theorem zKi{α:Type}{p:α→Bool}{l:List α}{k:Nat}(hk:k<l.length)(h:∀j (hj:j<l.length),j<k→p l[j]=false)(hs:p l[k]=true):¬idxF p l 0<(k:Int):=fun hlt=>by
 rcases idxF_way p l 0 with⟨_,hn⟩|⟨i,hi,e,hp,_⟩
 ·rw[hn k hk]at hs;cases hs
 ·rw[h i hi (by omega)]at hp;cases hp
theorem zFu{α:Type}{p:α→Bool}{l:List α}{k:Nat}(hk:k≤l.length)(h:∀j (hj:j<l.length),j<k→p l[j]=false):(l.take k).any p=false:=by
 rw[List.any_eq_false];intro x hx;obtain⟨j,hj,rfl⟩:=List.getElem_of_mem hx;rw[List.length_take]at hj;rw[List.getElem_take,h j (by omega) (by omega)];decide
theorem zFt{α:Type}{p:α→Bool}{l:List α}{j k:Nat}(hj:j<l.length)(hk:j<k)(h:p l[j]=true):(l.take k).any p=true :=
 List.any_eq_true.2 ⟨l[j],List.mem_take_iff_getElem.2 ⟨j,by omega,rfl⟩,h⟩
theorem rightIf_ok{x:If}(h:zCs x=true):zAb x.len 0 32=true∧zAb x.vlan 0 4094=true∧zAb x.side 0 2=true∧((x.len=0∧x.addr=0∧x.vlan=0∧x.side=0∧x.ls=false∧x.dv=false∧x.inn=[]∧x.out=[])∨(x.len≠0∧x.addr≠0))∧((x.ls=true∧zAb x.area 0 255=true∧zAb x.cost 1 65535=true)∨(x.ls=false∧x.area=0∧x.cost=0)):=by
 unfold zCs at h;simp only[Bool.and_eq_true]at h;obtain⟨⟨⟨⟨⟨h1,h2⟩,h3⟩,h4⟩,h5⟩,h6⟩:=h;refine⟨h1,h2,h3,?_,?_⟩
 ·by_cases h0:x.len=0
  ·rw[h0]at h4
   simp at h4;obtain⟨a1,a2,a3,a4,a5,a6,a7⟩:x.addr=0∧x.vlan=0∧x.side=0∧x.ls=false∧x.dv=false∧x.inn=[]∧x.out=[]:=by simp_all
   exact .inl ⟨h0,a1,a2,a3,a4,a5,a6,a7⟩
  ·refine .inr ⟨h0,fun ha=>?_⟩
   rw[ha]at h5;simp[h0]at h5
 ·cases hl:x.ls with
  |true=>
   rw[hl]at h6;simp only[if_true,Bool.and_eq_true]at h6;exact .inl ⟨rfl,h6⟩
  |false=>
   rw[hl]at h6;simp at h6;exact .inr ⟨rfl,h6⟩
def NZ(n:Int):Prop:=(n==0)=false∧(n != 0)=true
theorem nzI{n:Int}(h:n≠0):NZ n:=by simp[NZ,h]
theorem if_ways{x:If}(h:zCs x=false):zAb x.len 0 32=false∨(zAb x.len 0 32=true∧zAb x.vlan 0 4094=false)∨(zAb x.len 0 32=true∧zAb x.vlan 0 4094=true∧zAb x.side 0 2=false)∨(zAb x.len 0 32=true∧zAb x.vlan 0 4094=true∧zAb x.side 0 2=true ∧
  ((x.len=0∧(NZ (x.addr:Int)∨(x.addr=0∧NZ x.vlan)∨(x.addr=0∧x.vlan=0∧NZ x.side)∨(x.addr=0∧x.vlan=0∧x.side=0∧x.ls=true)∨(x.addr=0∧x.vlan=0∧x.side=0∧x.ls=false∧x.dv=true)∨(x.addr=0∧x.vlan=0∧x.side=0∧x.ls=false∧x.dv=false∧(str x.inn).toList.isEmpty=false)∨(x.addr=0∧x.vlan=0∧x.side=0∧x.ls=false∧x.dv=false∧x.inn=[]∧(str x.out).toList.isEmpty=false)))∨(NZ x.len∧x.addr=0) ∨
  (((x.len=0∧x.addr=0∧x.vlan=0∧x.side=0∧x.ls=false∧x.dv=false∧x.inn=[]∧x.out=[])∨(NZ x.len∧NZ (x.addr:Int)))∧((x.ls=true∧zAb x.area 0 255=false)∨(x.ls=true∧zAb x.area 0 255=true∧zAb x.cost 1 65535=false)∨(x.ls=false∧NZ x.area)∨(x.ls=false∧x.area=0∧NZ x.cost))))):=by
 obtain⟨name,addr,len,vlan,down,ls,area,cost,dv,inn,out,side⟩:=x;unfold zCs at h;dsimp only at h⊢;generalize zAb len 0 32=q1 at h⊢;generalize zAb vlan 0 4094=q2 at h⊢;generalize zAb side 0 2=q3 at h⊢;cases q1 with
 |false=>exact .inl rfl
 |true=>
 cases q2 with
 |false=>exact .inr (.inl ⟨rfl,rfl⟩)
 |true=>
 cases q3 with
 |false=>exact .inr (.inr (.inl ⟨rfl,rfl,rfl⟩))
 |true=>
 refine .inr (.inr (.inr ⟨rfl,rfl,rfl,?_⟩))
 have P:(ls=true∧zAb area 0 255=false)∨(ls=true∧zAb area 0 255=true∧zAb cost 1 65535=false)∨(ls=false∧NZ area)∨(ls=false∧area=0∧NZ cost)∨(if ls then zAb area 0 255&&zAb cost 1 65535 else area==0&&cost==0)=true:=by
  cases ls<;>cases zAb area 0 255<;>cases zAb cost 1 65535<;>simp[NZ]<;>omega
 generalize (if ls then zAb area 0 255&&zAb cost 1 65535 else area==0&&cost==0)=z at h P;by_cases hl:len=0
 ·subst hl
  by_cases ha:addr=0;case neg=>exact .inl ⟨rfl,.inl (nzI (by omega))⟩
  by_cases hv:vlan=0;case neg=>exact .inl ⟨rfl,.inr (.inl ⟨ha,nzI hv⟩)⟩
  by_cases hs:side=0;case neg=>exact .inl ⟨rfl,.inr (.inr (.inl ⟨ha,hv,nzI hs⟩))⟩
  subst ha hv hs;cases ls with
  |true=>exact .inl ⟨rfl,.inr (.inr (.inr (.inl ⟨rfl,rfl,rfl,rfl⟩)))⟩
  |false=>
  cases dv with
  |true=>exact .inl ⟨rfl,.inr (.inr (.inr (.inr (.inl ⟨rfl,rfl,rfl,rfl,rfl⟩))))⟩
  |false=>
  cases inn with
  |cons a b=>exact .inl ⟨rfl,.inr (.inr (.inr (.inr (.inr (.inl ⟨rfl,rfl,rfl,rfl,rfl,by rw[zAe];rfl⟩)))))⟩
  |nil=>
  cases out with
  |cons a b=>exact .inl ⟨rfl,.inr (.inr (.inr (.inr (.inr (.inr ⟨rfl,rfl,rfl,rfl,rfl,rfl,by rw[zAe];rfl⟩)))))⟩
  |nil=>
   refine .inr (.inr ⟨.inl ⟨rfl,rfl,rfl,rfl,rfl,rfl,rfl,rfl⟩,?_⟩);rcases P with P|P|P|P|P
   ·exact .inl P
   ·exact .inr (.inl P)
   ·exact .inr (.inr (.inl P))
   ·exact .inr (.inr (.inr P))
   ·rw[P]at h;simp at h
 ·by_cases ha:addr=0
  ·exact .inr (.inl ⟨nzI hl,ha⟩)
  refine .inr (.inr ⟨.inr ⟨nzI hl,nzI (by omega)⟩,?_⟩);rcases P with P|P|P|P|P
  ·exact .inl P
  ·exact .inr (.inl P)
  ·exact .inr (.inr (.inl P))
  ·exact .inr (.inr (.inr P))
  ·rw[P]at h;simp[hl,ha]at h
theorem rinterfaces_all(l:List If)(v:Value)(w:World)(B:Nat)(hB:B≤w.heap.size)(hl:SlV w B 12 If.C v l)(hf:∀x∈l,x.fit):Calls Tryz.prog 54 #[v] w fun e w' => e=.returned (.int .i64 (ifsE l))∧Below w.heap.size w w' := by
 have HBB:=hid hB;have HF:=hid hf;have HS:=hid hl;have HWI:=hid zCd;obtain⟨A,c,rfl,-⟩:=hl;have HB:=hid (Below.refl w.heap.size w);obtain⟨res,hres⟩:∃res,ifsE l=res:=⟨_,rfl⟩;rw[hres];clear hf;by_cases h8:8<l.length
 ·have E:Hid (res=7):=hid (by rw[←hres];exact if_pos h8)
  have d8:(8:Int)<(l.length:Int):=by omega
  clear hres;go_enter Tryz.func54,Tryz.ntmps54;go_wp2;go_ret;exact⟨zAc E.out.symm,HB.out⟩
 have d8:¬((8:Int)<(l.length:Int)):=by omega
 have E:Hid (ifsGo l l 0=res):=hid (by rw[←hres];exact(if_neg h8).symm);clear hres;go_enter Tryz.func54,Tryz.ntmps54;go_wp2_with fail;clear d8;go_loopg [3] l.length (fun gh ix wr=>∃k:Nat,k+gh=l.length∧ix=.int .i64 k∧Hid (Below w.heap.size w wr)∧Hid (ifsGo l (l.drop k) k=res));case atStart=>exact⟨0,by omega,rfl,HB,E⟩
 case round=>
  clear HB E;obtain⟨k,hk,rfl,HB,HG⟩:=hrel;by_cases hlt:k<l.length;case neg=>
   have hkz:¬((k:Int)<(l.length:Int)):=by omega
   have E:=hid (ifsGo_end hlt HG.out);go_wp2;go_ret;exact⟨zAc E.out.symm,HB.out⟩
  have hkz:(k:Int)<(l.length:Int):=by omega
  have HAT:=hid (ifsGo_at hlt HG.out);clear HG;obtain⟨g,o,c', e',-,hg,R0⟩:=HS.out.elem (n:=12) (by decide) (fun _=>rfl) hlt;injection e' with e1 e2 e3
  subst e1 e3;have r1:=hid (zAf R0 (HB.out.mono HBB.out) hg);have FX:=hid (HF.out _ (List.getElem_mem hlt));clear R0 e2;obtain⟨x,hxk⟩:∃x,x=l[k]:=⟨_,rfl⟩;rw[←hxk]at HAT r1 FX;have HXK:=hid hxk;clear hxk;go_upto_region 7 with(first|(refine zAa rfl 68 _ rfl rfl r1.out Tryz.rowIf Tryz.sizeIf ?_)|(refine zAd rfl 68 _ _ rfl rfl rfl (HasC.new wr _ _) rfl Tryz.sizeIf (If.one x) ?_;intro w5 hz1 hz2))
  have H5:Hid (Below w.heap.size w w5):=hid (HB.out.trans ((zAi hz2).mono HB.out.size));have X5:=hz1;clear hz1 hz2 r1 HB;generalize wr.heap.size=gx at X5⊢;replace X5:=hid X5;have x0:w5.cell? ⟨gx,0,none⟩=some (.string (str x.name)):=X5.out.cell 0;go_wp2_with fail;refine(rnameL x.name w5).mono ?_;rintro e w' ⟨rfl,rfl⟩;cases hn:nameB x.name with
  |false=>
   have E:Hid (res=3):=hid (by rw[HAT.out,hn];rfl);go_wp2;go_ret;exact⟨zAc E.out.symm,H5.out⟩
  |true=>
  have HT:=hid (show res=if idxF (fun y=>y.name==x.name) l 0<k then 4 else if !zCs x then 1 else if(l.take k).any (zCw x)then 6 else ifsGo l (l.drop (k+1)) (k+1) by rw[HAT.out,hn];rfl);clear HAT hn;go_wp2_with fail;clear x0;go_loopg [5] k (fun gh ix wq=>∃j:Nat,j+gh=k∧ix=.int .i64 j∧Hid (Below w.heap.size w wq)∧Hid (HasC 68 gx x.C wq)∧Hid (∀i (hi:i<l.length),i<j→(l[i].name==x.name)=false));case atStart=>exact⟨0,by omega,rfl,H5,X5,hid fun _ _ h=>absurd h (Nat.not_lt_zero _)⟩
  case round=>
   clear H5 X5;obtain⟨j,hj,rfl,HQ,XQ,HN⟩:=hrel;by_cases hjl:j<k;case pos=>
    have hjn:j<l.length:=by omega
    have hjz:(j:Int)<(k:Int):=by omega
    obtain⟨g', o', c'', e',-,hg', R0⟩:=HS.out.elem (n:=12) (by decide) (fun _=>rfl) hjn;injection e' with e1 e2 e3
    injection e1 with e1
    injection e1 with e1 e4
    subst e1 e4;have y0:wr.cell? ⟨g,o+j*12,none⟩=some (.string (str l[j].name)):=zAf R0 (HQ.out.mono HBB.out) hg' 0 _ rfl;have x0:wr.cell? ⟨gx,0,none⟩=some (.string (str x.name)):=XQ.out.cell 0;have hjm:(j:Int)<(l.length:Int):=by omega
    clear R0 e2 e3;have HB2:=hid (HQ.out.trans ((zAs wr).mono HQ.out.size));cases hs0:(l[j].name==x.name)with
    |true=>
     have E:Hid (res=4):=hid (by rw[HT.out,if_pos (zKn (p:=fun y:If=>y.name==x.name) hjn hs0 hjl)]);have hs:((str l[j].name).toList==(str x.name).toList)=true:=by rw[zAe,zAe];exact hs0
     clear hs0;generalize l[j].name=nm at y0 hs;go_wp2_with fail;go_still (by kernel_rfl);go_wp2;go_ret;exact⟨zAc E.out.symm,HB2.out⟩
    |false=>
    have HN2:Hid (∀i (hi:i<l.length),i<j+1→(l[i].name==x.name)=false):=hid fun i hi h=>by
     rcases Nat.lt_or_ge i j with h1|h1
     ·exact HN.out i hi h1
     ·obtain rfl:i=j:=by omega
      exact hs0
    have hs:((str l[j].name).toList==(str x.name).toList)=false:=by rw[zAe,zAe];exact hs0
    clear hs0 HN;generalize l[j].name=nm at y0 hs;go_wp2_with fail;go_still (by kernel_rfl);go_wp2;go_roundg (k - (j+1));case measure=>omega
    case rel=>exact⟨j+1,by omega,by go_num,HB2,hid (XQ.out.keep (zAs wr)),HN2⟩
   have hjz:¬((j:Int)<(k:Int)):=by omega
   obtain rfl:j=k:=by omega
   have HT2:=hid (show res=if !zCs x then 1 else if(l.take j).any (zCw x)then 6 else ifsGo l (l.drop (j+1)) (j+1) by rw[HT.out,if_neg (zKi (p:=fun y:If=>y.name==x.name) hlt HN.out (by show(l[j].name==x.name)=true;rw[←HXK.out];simp))]);clear HT HN HXK;obtain⟨name,addr,len,vlan,down,ls,area,cost,dv,inn,out,side⟩:=x;obtain⟨-,x1,x2,x3,-,x5,x6,x7,x8⟩:=bl9 XQ.out;have x9:wr.cell? ⟨gx,9,none⟩=some (.string (str inn)):=XQ.out.cell 9;have x10:wr.cell? ⟨gx,10,none⟩=some (.string (str out)):=XQ.out.cell 10;have x11:wr.cell? ⟨gx,11,none⟩=some (.int .i64 side):=XQ.out.cell 11;have CX:Hid (∀W,HasC 68 gx (If.C ⟨name,addr,len,vlan,down,ls,area,cost,dv,inn,out,side⟩) W→W.cell? ⟨gx,1,none⟩=some (.int .u32 (addr:Int))∧W.cell? ⟨gx,2,none⟩=some (.int .i64 len)):=hid (fun W h=>⟨h.cell 1,h.cell 2⟩);generalize hcs:If.C ⟨name,addr,len,vlan,down,ls,area,cost,dv,inn,out,side⟩=cs at XQ CX;cases hr:zCs ⟨name,addr,len,vlan,down,ls,area,cost,dv,inn,out,side⟩with
   |false=>
    have E:Hid (res=1):=hid (by rw[HT2.out,hr];rfl);have HW:=hid (if_ways hr);clear HT2 hr CX;have tn:=zAe ([]:List UInt8);have Q:=HW.out;unfold NZ at Q;dsimp only at Q;clear HW;have WARM:True:=trivial;rcases Q with q1|⟨q1,q2⟩|⟨q1,q2,q3⟩|⟨q1,q2,q3,(⟨rfl,(⟨a0,a1⟩|⟨rfl,a0,a1⟩|⟨rfl,rfl,a0,a1⟩|⟨rfl,rfl,rfl,rfl⟩|⟨rfl,rfl,rfl,rfl,rfl⟩|⟨rfl,rfl,rfl,rfl,rfl,a0⟩|⟨rfl,rfl,rfl,rfl,rfl,rfl,a0⟩)⟩|⟨⟨l0,l1⟩,rfl⟩|⟨(⟨rfl,rfl,rfl,rfl,rfl,rfl,rfl,rfl⟩|⟨⟨l0,l1⟩,a0,a1⟩),(⟨q5,q6⟩|⟨q5,q6,q7⟩|⟨q5,q6,q7⟩|⟨q5,rfl,q6,q7⟩)⟩)⟩
    all_goals
     first
      |(exfalso;cases q5;done)
      | ((try subst q5)
         go_wp2_with (go_at_call 53;refine(HWI.out _ _ _ _).mono ?_;rintro e w' ⟨rfl,rfl⟩);go_ret
         exact⟨zAc E.out.symm,HQ.out⟩)
   |true=>
   obtain⟨xx,hxx⟩:∃xx,xx=(⟨name,addr,len,vlan,down,ls,area,cost,dv,inn,out,side⟩:If):=⟨_,rfl⟩;have HT3:=hid (show res=if(l.take j).any (zCw xx)then 6 else ifsGo l (l.drop (j+1)) (j+1) by rw[HT2.out,hr,hxx];rfl);have HCL:Hid (∀y,zCw xx y=(!(len==0) && !(y.len==0)&&overP (addr / sz len*sz len) (zBc len) (y.addr / sz y.len*sz y.len) (zBc y.len))):=hid fun y=>by rw[hxx];rfl
   clear HT2 hxx;obtain⟨q1,q2,q3,q4,q5⟩:=rightIf_ok hr;clear hr;dsimp only at q1 q2 q3 q4 q5;have WARM:True:=trivial;rcases q4 with⟨e1,e2,e3,e4,e5,e6,e7,e8⟩|⟨l0,a0⟩
   case' inl=>
    have tn:=zAe ([]:List UInt8);rw[e1]at x2 q1;rw[e2]at x1;rw[e3]at x3 q2;rw[e4]at x11 q3;rw[e6]at x8;rw[e7]at x9;rw[e8]at x10;replace q5:=q5.resolve_left (fun z=>by rw[e5]at z;cases z.1);obtain⟨z1,z2,z3⟩:=q5;rw[e5]at x5;rw[z2]at x6;rw[z3]at x7;clear e1 e2 e3 e4 e5 e6 e7 e8 z1 z2 z3;go_wp2_with (go_at_call 53;refine(HWI.out _ _ _ _).mono ?_;rintro e w' ⟨rfl,rfl⟩)
   case' inr=>
    have l1:(len==0)=false:=by simpa using l0
    have l2:(len != 0)=true:=by simpa using l0
    have a1:((addr:Int)==0)=false:=by simp;omega
    rcases q5 with⟨rfl,z2,z3⟩|⟨rfl,rfl,rfl⟩
    all_goals go_wp2_with (go_at_call 53;refine(HWI.out _ _ _ _).mono ?_;rintro e w' ⟨rfl,rfl⟩)
   all_goals
    have HZ:=HQ;have XZ:=XQ;clear HQ XQ x1 x2 x3 x5 x6 x7 x8 x9 x10 x11 q1 q2 q3 WARM;generalize j=k at *;go_loopg [6] k (fun gh ix wq=>∃j:Nat,j+gh=k∧ix=.int .i64 j∧Hid (Below w.heap.size w wq)∧Hid (HasC 68 gx cs wq)∧Hid (∀i (hi:i<l.length),i<j→zCw xx l[i]=false));case atStart=>exact⟨0,by omega,rfl,HZ,XZ,hid fun _ _ h=>absurd h (Nat.not_lt_zero _)⟩
    case round=>
     clear HZ XZ;obtain⟨j,hj,rfl,HQ,XQ,HN⟩:=hrel;by_cases hjl:j<k;case neg=>
      have hjz:¬((j:Int)<(k:Int)):=by omega
      obtain rfl:j=k:=by omega
      have EN:Hid (ifsGo l (l.drop (j+1)) (j+1)=res):=hid (by rw[HT3.out,zFu (by omega) HN.out];rfl);go_wp2;go_roundg (l.length - (j+1));case measure=>omega
      case rel=>exact⟨j+1,by omega,by go_num,HQ,EN⟩
     have hjn:j<l.length:=by omega
     have hjz:(j:Int)<(k:Int):=by omega
     have hjm:(j:Int)<(l.length:Int):=by omega
     obtain⟨g', o', c'', e',-,hg', R0⟩:=HS.out.elem (n:=12) (by decide) (fun _=>rfl) hjn;injection e' with e1 e2 e3
     injection e1 with e1
     injection e1 with e1 e4
     subst e1 e4;have FY:=hid (HF.out _ (List.getElem_mem hjn));have NC:Hid (zCw xx l[j]=true→res=6):=hid fun h=>by rw[HT3.out,zFt hjn hjl h];rfl
     have NN:Hid (zCw xx l[j]=false→∀i (hi:i<l.length),i<j+1→zCw xx l[i]=false):=hid fun h i hi hlt=>by
      rcases Nat.lt_or_ge i j with h1|h1
      ·exact HN.out i hi h1
      ·obtain rfl:i=j:=by omega
       exact h
     clear HN;have YA:Hid (∀W,Below w.heap.size w W→W.cell? ⟨g,o+j*12+1,none⟩=some (.int .u32 (l[j].addr:Int))∧W.cell? ⟨g,o+j*12+2,none⟩=some (.int .i64 l[j].len)):=hid (fun W h=>have q:=zAf R0 (h.mono HBB.out) hg';⟨q 1 _ rfl,q 2 _ rfl⟩);clear R0 e2 e3;generalize l[j]=y at FY NC NN YA;obtain⟨yname,ya,yl,yvlan,ydown,yls,yarea,ycost,ydv,yinn,yout,yside⟩:=y;have FYA:Hid (ya<4294967296):=hid FY.out;dsimp only at YA;clear FY;have PX:=hid (fun W=>zJz addr len W FX.out);have PY:=hid (fun W=>zJz ya yl W FYA.out);have PO:=hid (fun W=>zIg (addr / sz len*sz len) (zBc len) (ya / sz yl*sz yl) (zBc yl) W (net_lt FX.out) (net_lt FYA.out));unfold PV at PX PY PO;have CB:=HCL.out ⟨yname,ya,yl,yvlan,ydown,yls,yarea,ycost,ydv,yinn,yout,yside⟩;dsimp only at CB
     have NE2:(len=0∧Hid (zCw xx ⟨yname,ya,yl,yvlan,ydown,yls,yarea,ycost,ydv,yinn,yout,yside⟩=false))∨((len==0)=false∧(len != 0)=true∧yl=0∧Hid (zCw xx ⟨yname,ya,yl,yvlan,ydown,yls,yarea,ycost,ydv,yinn,yout,yside⟩=false))∨((len==0)=false∧(len != 0)=true∧(yl==0)=false∧(yl != 0)=true∧overP (addr / sz len*sz len) (zBc len) (ya / sz yl*sz yl) (zBc yl)=false∧Hid (zCw xx ⟨yname,ya,yl,yvlan,ydown,yls,yarea,ycost,ydv,yinn,yout,yside⟩=false))∨((len==0)=false∧(len != 0)=true∧(yl==0)=false∧(yl != 0)=true∧overP (addr / sz len*sz len) (zBc len) (ya / sz yl*sz yl) (zBc yl)=true∧Hid (zCw xx ⟨yname,ya,yl,yvlan,ydown,yls,yarea,ycost,ydv,yinn,yout,yside⟩=true)):=by
      by_cases h1:len=0
      ·exact .inl ⟨h1,hid (by rw[CB,h1];rfl)⟩
      by_cases h2:yl=0
      ·exact .inr (.inl ⟨by simpa using h1,by simpa using h1,h2,hid (by rw[CB,h2];simp)⟩)
      have h1' : (len==0)=false:=by simpa using h1
      have h2' : (yl==0)=false:=by simpa using h2
      rw[h1', h2']at CB;cases ho:overP (addr / sz len*sz len) (zBc len) (ya / sz yl*sz yl) (zBc yl)with
      |false=>exact .inr (.inr (.inl ⟨h1', by simpa using h1,h2', by simpa using h2,rfl,hid (by rw[CB,ho];rfl)⟩))
      |true=>exact .inr (.inr (.inr ⟨h1', by simpa using h1,h2', by simpa using h2,rfl,hid (by rw[CB,ho];rfl)⟩))
     clear CB HCL;have NC2:=hid NC.out;clear HT3;go_wp2_with fail;refine zAo (fun W=>Below w.heap.size w W∧HasC 68 gx cs W) (by kernel_rfl) (by kernel_rfl) ⟨HQ.out.trans ((zAs wr).mono HQ.out.size),XQ.out.keep (zAs wr)⟩ ?_;generalize hyy:(⟨yname,ya,yl,yvlan,ydown,yls,yarea,ycost,ydv,yinn,yout,yside⟩:If)=yy at NC NC2 NN NE2;clear hyy;rcases NE2 with⟨rfl,HC⟩|⟨n1,n1', rfl,HC⟩|⟨n1,n1', n2,n2', n3,HC⟩|⟨n1,n1', n2,n2', n3,HC⟩
     all_goals
      repeat
       (first
        |(refine zIs ?_ ?_;(· rfl))
        |(refine zBd (v:=?_) ?_ ?_ ?_;rotate_left;(· rfl);(· (intro W hW;obtain⟨y1,y2⟩:=YA.out W hW.1;obtain⟨x1,x2⟩:=CX.out W hW.2;go_simp<;>rfl)))
        |(refine zAm ?_ ?_ (fun W hW=>(PX.out W).mono fun e w' ⟨he,hb⟩=>⟨he,hW.1.trans (hb.mono hW.1.size),hW.2.keep hb⟩) ?_;(· rfl);(· (intro W hW;go_simp<;>rfl)))
        |(refine zAm ?_ ?_ (fun W hW=>(PY.out W).mono fun e w' ⟨he,hb⟩=>⟨he,hW.1.trans (hb.mono hW.1.size),hW.2.keep hb⟩) ?_;(· rfl);(· (intro W hW;go_simp<;>rfl)))
        |(refine zAm ?_ ?_ (fun W hW=>(PO.out W).mono fun e w' ⟨he,hb⟩=>⟨he,hW.1.trans (hb.mono hW.1.size),hW.2.keep hb⟩) ?_;(· rfl);(· (intro W hW;go_simp<;>rfl))))
       simp only[Act.put,List.setIfInBounds_toArray,List.set_cons_zero,List.set_cons_succ]
      refine zBo (fun wq hS=>?_);obtain⟨hs1,hs2⟩:=hS;have HS1:=hid hs1;have HS2:=hid hs2;clear hs1 hs2 YA PX PY PO HQ XQ;go_wp2_with fail
      first
       | (go_ret
          exact⟨zAc (NC.out HC.out).symm,HS1.out⟩)
       | (go_roundg (k - (j + 1))
          case measure=>omega
          case rel=>exact⟨j+1,by omega,by go_num,HS1,HS2,hid (NN.out HC.out)⟩)
theorem rports_any(lo hi:Int)(w:World):Calls Tryz.prog 139 #[.agg #[.int .i64 lo,.int .i64 hi]] w fun e w' => e=.returned (.bool (zEm lo hi))∧Below w.heap.size w w' := by
 have B0:=hid (fun o=>(Below.refl w.heap.size w).alloc (Nat.le_refl _) o);have E:Hid (zEm lo hi=(decide (0≤lo)&&decide (lo≤hi)&&decide (hi≤65535))):=hid rfl;generalize zEm lo hi=res at E⊢;cases h1:decide (0≤lo)<;>cases h2:decide (lo≤hi)<;>cases h3:decide (hi≤65535)
 all_goals
  rw[h1,h2,h3]at E;go_enter Tryz.func139,Tryz.ntmps139;go_wp2_with fail
  all_goals (go_ret;exact⟨zAg E.out.symm,B0.out _⟩)
theorem rall_any(lo hi:Int)(w:World):Calls Tryz.prog 140 #[.agg #[.int .i64 lo,.int .i64 hi]] w fun e w' => e=.returned (.bool (allP lo hi))∧Below w.heap.size w w' := by
 have B0:=hid (fun o=>(Below.refl w.heap.size w).alloc (Nat.le_refl _) o);have r1:∀w,(binOp .eql 101 (.agg #[.int .i64 lo,.int .i64 hi]) (.agg #[.int .i64 0,.int .i64 65535])).run Tryz.prog w=.ok (.bool (allP lo hi)) w:=fun w=>rng_eqlP lo hi w
 have g:=Tryz.rngGuard;go_enter Tryz.func140,Tryz.ntmps140;go_wp2;go_ret;exact⟨rfl,B0.out _⟩
theorem rvpr_any(x:PRule)(hx:x.pa<4294967296)(w:World):Calls Tryz.prog 103 #[.agg x.C] w fun e w' => e=.returned (.bool (zEg x))∧Below w.heap.size w w' := by
 have HV:=hid (fun W=>zEi x.pa x.pl W hx);have H0:=hid (HasC.new w 92 x.C);have B0:=hid ((Below.refl w.heap.size w).alloc (Nat.le_refl _) (.cells x.C 92));have E:Hid (zEg x=(zAv x.pa x.pl&&decide (x.pl≤x.min)&&decide (x.min≤x.max)&&decide (x.max≤32))):=hid (by unfold zEg;simp only[←Int.not_lt,decide_not]);generalize zEg x=res at E⊢;clear hx;obtain⟨permit,pa,pl,min,max⟩:=x;dsimp only at *;go_enter Tryz.func103,Tryz.ntmps103;go_upto_region 1 with(fail)
 change Code.wp _ _ _ _ (w.alloc (.cells _ 92));generalize w.alloc (.cells _ 92)=wA at H0 B0⊢;obtain⟨-,c1,c2⟩:=bl3 H0.out;go_wp2_with fail;refine(HV.out _).mono ?_;rintro e w1 ⟨rfl,hb⟩;have H1:=hid (H0.out.keep hb);have B1:=hid (B0.out.trans (hb.mono B0.out.size));obtain⟨-,-,d2,d3,d4⟩:=bl5 H1.out;clear hb c1 c2 H0 B0;cases h1:zAv pa pl<;>cases h2:decide (pl≤min)<;>cases h3:decide (min≤max)<;>cases h4:decide (max≤32)
 all_goals
  rw[h1,h2,h3,h4]at E;go_wp2_with fail
  all_goals (go_ret;exact⟨zAg E.out.symm,B1.out⟩)
theorem raddress_any(r:Rt)(a:Nat)(w:World)(B:Nat)(h:r.at w B)(hB:B≤w.heap.size):Calls Tryz.prog 108 #[.agg r.C,.int .u32 (a:Int)] w fun e w' => e=.returned (.int .i64 (idxF (hasA a) r.ifs 0))∧Below w.heap.size w w' := by
 have HS:=h.hifs;obtain⟨A,c,hv,hle,-⟩:=h.hifs;have H0:=hid (HasC.new w 41 r.C);have B0:Below w.heap.size w (w.alloc (.cells r.C 41)):=(Below.refl _ w).alloc (Nat.le_refl _) _;have HV:=hid hv;have c2:=cl2 H0.out;rw[hv]at c2;have SV:=hid (HS.below (B0.mono hB));have hlm:r.ifs.length≤9223372036854775807:=by have:=SV.out.len;simp only[maxLen]at this;omega
 clear HS;generalize r.ifs=l at *;obtain⟨R,hR⟩:∃R,idxF (hasA a) l 0=R:=⟨_,rfl⟩;rw[hR];have E:=hid hR;have B0:=hid B0;clear h hB hv hR;go_enter Tryz.func108,Tryz.ntmps108;go_upto_region 1 with(fail)
 change Code.wp _ _ _ _ (w.alloc (.cells r.C 41));generalize w.alloc (.cells r.C 41)=wA at H0 B0 SV c2⊢;go_wp2;go_loopg [5] l.length (fun gh ix wr=>wr=wA∧∃k:Nat,k+gh=l.length∧ix=.int .i64 k∧Hid (idxF (hasA a) (l.drop k) k=R));case atStart=>exact⟨rfl,0,by omega,rfl,E⟩
 case round=>
  obtain⟨rfl,k,hk,rfl,E⟩:=hrel;by_cases hlt:k<l.length
  ·have E2:=hid (idxF_at hlt E.out)
   obtain⟨g,o,c', e',-,hg,R0⟩:=SV.out.elem (n:=12) (by decide) (fun _=>rfl) hlt;rw[HV.out]at e';injection e' with e1 e2 e3
   subst e1 e3;have c4:=R0 2 _ rfl;have c5:=R0 1 _ rfl;generalize l[k]=x at E2 R0 c4 c5;clear R0 E e2;have hlz:(k:Int)<(l.length:Int):=by omega
   have HA:Hid (hasA a x=(!(x.len==0)&&x.addr==a)):=hid rfl;cases h1:(x.len != 0)<;>cases h2:((x.addr:Int)==(a:Int))
   all_goals
    have h3:(x.len==0) = !(x.len != 0):=by simp[bne]
    have h4:(x.addr==a)=((x.addr:Int)==(a:Int)):=by rw[Bool.eq_iff_iff];simp only[beq_iff_eq];exact Int.ofNat_inj.symm
    rw[h1]at h3;rw[h2]at h4;have HA2:Hid (hasA a x=_):=hid (HA.out.trans (by rw[h3,h4]));clear HA h3 h4;go_wp2_with fail
    first
     | (go_roundg (l.length - (k + 1))
        case measure=>omega
        case rel=>exact⟨rfl,k+1,by omega,by go_num,hid (by rw[E2.out,HA2.out];rfl)⟩)
     |(go_ret;exact⟨zAc (by rw[E2.out,HA2.out];rfl),B0.out⟩)
  ·have hlz:¬(k:Int)<(l.length:Int):=by omega
   have E2:=hid (idxF_end hlt E.out);go_wp2;go_ret;exact⟨zAc E2.out.symm,B0.out⟩
theorem list_ways{k first size most X inner res:Int}{name:List UInt8}(h:res=if listE k first name size most=0 then(if inner=0 then X else inner)else listE k first name size most) :
  (nameB name=false∧res=3)∨(nameB name=true∧res=if first<k then 4 else if size=0 then 1 else if most<size then 7 else if inner=0 then X else inner):=by
 subst h;cases hn:nameB name with
 |false=>exact .inl ⟨rfl,by simp[listE,hn]⟩
 |true=>
  refine .inr ⟨rfl,?_⟩;simp only[listE,hn,Bool.not_true,Bool.false_eq_true,if_false];split
  ·rfl
  ·split
   ·rfl
   ·split
    ·rfl
    ·rfl
theorem ru_ways{x:Ru}:(zAb x.proto (-1) 255=false∧zCp x=false)∨(zAb x.proto (-1) 255=true∧x.sa &&& x.sm≠0∧zCp x=false)∨(zAb x.proto (-1) 255=true∧x.sa &&& x.sm=0∧x.da &&& x.dm≠0∧zCp x=false)∨(zAb x.proto (-1) 255=true∧x.sa &&& x.sm=0∧x.da &&& x.dm=0∧zCp x=(zEm x.slo x.shi&&zEm x.dlo x.dhi&&(x.proto==6||x.proto==17||(allP x.slo x.shi&&allP x.dlo x.dhi)))):=by
 unfold zCp;cases zAb x.proto (-1) 255 with
 |false=>exact .inl ⟨rfl,rfl⟩
 |true=>
 by_cases h2:x.sa &&& x.sm=0
 ·by_cases h3:x.da &&& x.dm=0
  ·exact .inr (.inr (.inr ⟨rfl,h2,h3,by rw[h2,h3];rfl⟩))
  ·exact .inr (.inr (.inl ⟨rfl,h2,h3,by rw[h2,show(x.da &&& x.dm==0)=false by simpa using h3];rfl⟩))
 ·exact .inr (.inl ⟨rfl,h2,by rw[show(x.sa &&& x.sm==0)=false by simpa using h2];rfl⟩)
theorem rvru_any(x:Ru)(hx:x.fit)(w:World):Calls Tryz.prog 105 #[.agg x.C] w fun e w' => e=.returned (.bool (zCp x))∧Below w.heap.size w w' := by
 have HWI:=hid zCd;have HP:=hid rports_any;have HA:=hid rall_any;have H0:=hid (HasC.new w 103 x.C);have B0:=hid ((Below.refl w.heap.size w).alloc (Nat.le_refl _) (.cells x.C 103));obtain⟨f1,f2,f3,f4⟩:=hx;have b1:=u32_and_nat _ _ f1 f2;have b2:=u32_and_nat _ _ f3 f4;have W:=ru_ways (x:=x);generalize zCp x=R at W⊢;clear f1 f2 f3 f4;unfold Ru.C at H0 B0⊢;obtain⟨permit,proto,sa,sm,da,dm,slo,shi,dlo,dhi⟩:=x;dsimp only at *;have WARM:True:=trivial;rcases W with⟨q1,rfl⟩|⟨q1,q2,rfl⟩|⟨q1,q2,q3,rfl⟩|⟨q1,q2,q3,q4⟩
 case' inr.inl=>have d2:(((sa &&& sm:Nat):Int) != 0)=true:=by simp;omega
 case' inr.inr.inl=>
  rw[q2]at b1;have d2:(((da &&& dm:Nat):Int) != 0)=true:=by simp;omega
 case' inr.inr.inr=>
  rw[q2]at b1;rw[q3]at b2;have HQ:=hid q4;clear q4
 all_goals
  go_enter Tryz.func105,Tryz.ntmps105;go_wp2_with (go_at_call 53;refine(HWI.out _ _ _ _).mono ?_;rintro e w' ⟨rfl,rfl⟩)
 any_goals (go_ret;exact⟨rfl,B0.out⟩)
 clear q1 q2 q3 b1 b2;refine(HP.out slo shi _).mono ?_;rintro e w1 ⟨rfl,hb⟩;have H1:=hid (H0.out.keep hb);have B1:=hid (B0.out.trans (hb.mono (by simp)));have c8:=cl8 H1.out;have c9:=cl9 H1.out;clear hb H0 B0;generalize zEm slo shi=p1 at *;cases p1 with
 |false=>
  have E:Hid (R=false):=hid HQ.out;go_wp2;go_ret;exact⟨zAg E.out.symm,B1.out⟩
 |true=>
 go_wp2_with fail;refine(HP.out dlo dhi _).mono ?_;rintro e w2 ⟨rfl,hb⟩;have H2:=hid (H1.out.keep hb);have B2:=hid (B1.out.trans (hb.mono B1.out.size));clear hb H1 B1 c8 c9;generalize zEm dlo dhi=p2 at *;cases p2 with
 |false=>
  have E:Hid (R=false):=hid HQ.out;go_wp2;go_ret;exact⟨zAg E.out.symm,B2.out⟩
 |true=>
 obtain⟨-,c1,-,-,-,-,c6,c7⟩:=bl8 H2.out;by_cases h6:proto=6
 ·subst h6
  have E:Hid (R=true):=hid HQ.out;go_wp2;go_ret;exact⟨zAg E.out.symm,B2.out⟩
 have d6:(proto==6)=false:=by simpa using h6
 by_cases h17:proto=17
 ·subst h17
  have E:Hid (R=true):=hid HQ.out;go_wp2;go_ret;exact⟨zAg E.out.symm,B2.out⟩
 have d17:(proto==17)=false:=by simpa using h17
 have HL:Hid (R=(allP slo shi&&allP dlo dhi)):=hid (by rw[HQ.out,d6,d17];rfl);clear HQ h6 h17;go_wp2_with fail;refine(HA.out slo shi _).mono ?_;rintro e w3 ⟨rfl,hb⟩;have H3:=hid (H2.out.keep hb);have B3:=hid (B2.out.trans (hb.mono B2.out.size));clear hb H2 B2 c1 c6 c7;generalize allP slo shi=p3 at *;cases p3 with
 |false=>
  have E:Hid (R=false):=hid HL.out;go_wp2;go_ret;exact⟨zAg E.out.symm,B3.out⟩
 |true=>
 have c8:=cl8 H3.out;have c9:=cl9 H3.out;go_wp2_with fail;refine(HA.out dlo dhi _).mono ?_;rintro e w4 ⟨rfl,hb⟩;have E:Hid (R=allP dlo dhi):=hid (by rw[HL.out];rfl);have B4:=hid (B3.out.trans (hb.mono B3.out.size));clear hb;go_wp2;go_ret;exact⟨zAg E.out.symm,B4.out⟩
theorem zKf(l:List PList)(v:Value)(w:World)(B:Nat)(hB:B≤w.heap.size)(hl:SlV w B 2 PList.C v l)(hn:∀x∈l,x.at w B)(hf:∀x∈l,x.fit):Calls Tryz.prog 55 #[v] w fun e w' => e=.returned (.int .i64 (plsE l))∧Below w.heap.size w w' := by
 have HBB:=hid hB;have HN:=hid hn;have HF:=hid hf;have HB:=hid (Below.refl w.heap.size w);obtain⟨A,c,rfl,-⟩:=id hl;clear hn hf;have HS:=hid hl;clear hl;obtain⟨res,hres⟩:∃res,plsE l=res:=⟨_,rfl⟩;rw[hres];by_cases h8:8<l.length
 ·have E:Hid (res=7):=hid (by rw[←hres];exact if_pos h8)
  have d8:(8:Int)<(l.length:Int):=by omega
  clear hres;go_enter Tryz.func55,Tryz.ntmps55;go_wp2;go_ret;exact⟨zAc E.out.symm,HB.out⟩
 have d8:¬((8:Int)<(l.length:Int)):=by omega
 have E:Hid (lsGo (·.name) (·.rules.length) (fun(x:PList)=>zAl prE x.rules) 16 l l 0=res):=hid (by rw[←hres];exact(if_neg h8).symm);clear hres;go_enter Tryz.func55,Tryz.ntmps55;go_wp2_with fail;clear d8;go_loopg [3] l.length (fun gh ix wr=>∃k:Nat,k+gh=l.length∧ix=.int .i64 k∧Hid (Below w.heap.size w wr)∧Hid (lsGo (·.name) (·.rules.length) (fun(x:PList)=>zAl prE x.rules) 16 l (l.drop k) k=res));case atStart=>exact⟨0,by omega,rfl,HB,E⟩
 case round=>
  clear HB E;obtain⟨k,hk,rfl,HB,HG⟩:=hrel;by_cases hlt:k<l.length;case neg=>
   have hkz:¬((k:Int)<(l.length:Int)):=by omega
   have E:=hid (zHi hlt HG.out);go_wp2;go_ret;exact⟨zAc E.out.symm,HB.out⟩
  have hkz:(k:Int)<(l.length:Int):=by omega
  have HW:=hid (list_ways (zIc hlt HG.out));clear HG;obtain⟨g,o,c', e',-,hg,R0⟩:=HS.out.elem (n:=2) (by decide) (fun _=>rfl) hlt;injection e' with e1 e2 e3
  subst e1 e3;obtain⟨A2,c2,hv2,-⟩:=id (HN.out _ (List.getElem_mem hlt));have HNK:=hid (HN.out _ (List.getElem_mem hlt));have HFK:=hid (HF.out _ (List.getElem_mem hlt));unfold PList.at at HNK;rw[hv2]at HNK;have XA:Hid (∀W,Below w.heap.size w W→W.cell? ⟨g,o+k*2,none⟩=some (.string (str l[k].name))∧W.cell? ⟨g,o+k*2+1,none⟩=some (.slice A2 l[k].rules.length c2)):=hid (fun W hW=>⟨zAf R0 (hW.mono HBB.out) hg 0 _ rfl,by rw[←hv2];exact zAf R0 (hW.mono HBB.out) hg 1 _ rfl⟩);clear R0 e2 hv2;unfold PList.fit at HFK;have HXK:Hid ((l[k].name==l[k].name)=true):=hid (by simp);obtain⟨nm,hnm⟩:∃nm,nm=l[k].name:=⟨_,rfl⟩;rw[←hnm]at XA HW;have HNM:=hid hnm;clear hnm HXK;generalize l[k].rules=rs at *;obtain⟨xa,xv⟩:=XA.out wr HB.out;go_wp2_with fail;refine(rnameL nm wr).mono ?_;rintro e w' ⟨rfl,rfl⟩;rcases HW.out with⟨n1,h3⟩|⟨n1,h3⟩
  ·have E:=hid h3
   rw[n1];clear h3;go_wp2;go_ret;exact⟨zAc E.out.symm,HB.out⟩
  have HT:=hid h3;rw[n1];clear h3 HW;go_wp2_with fail;clear xa xv n1;go_loopg [4] k (fun gh ix wq=>∃j:Nat,j+gh=k∧ix=.int .i64 j∧Hid (Below w.heap.size w wq)∧Hid (∀i (hi:i<l.length),i<j→(l[i].name==nm)=false));case atStart=>exact⟨0,by omega,rfl,HB,hid fun _ _ h=>absurd h (Nat.not_lt_zero _)⟩
  case round=>
   clear HB;obtain⟨j,hj,rfl,HQ,HN2⟩:=hrel;obtain⟨xa,xv⟩:=XA.out wr HQ.out;by_cases hjl:j<k;case pos=>
    have hjn:j<l.length:=by omega
    have hjz:(j:Int)<(k:Int):=by omega
    have hjm:(j:Int)<(l.length:Int):=by omega
    obtain⟨g', o', c'', e',-,hg', R0⟩:=HS.out.elem (n:=2) (by decide) (fun _=>rfl) hjn;injection e' with e1 e2 e3
    injection e1 with e1
    injection e1 with e1 e4
    subst e1 e4;have y0:wr.cell? ⟨g,o+j*2,none⟩=some (.string (str l[j].name)):=zAf R0 (HQ.out.mono HBB.out) hg' 0 _ rfl;clear R0 e2 e3;have HB2:=hid (HQ.out.trans (Below.mono (zAs wr) HQ.out.size));have HH:Hid ((l[j].name==nm)=true→res=4):=hid fun h=>by rw[HT.out,if_pos (zKn (p:=fun y:PList=>y.name==nm) hjn h hjl)]
    have HM:Hid ((l[j].name==nm)=false→∀i (hi:i<l.length),i<j+1→(l[i].name==nm)=false):=hid fun h i hi hlt=>by
     rcases Nat.lt_or_ge i j with h1|h1
     ·exact HN2.out i hi h1
     ·obtain rfl:i=j:=by omega
      exact h
    clear HN2;have hs:((str l[j].name).toList==(str nm).toList)=(l[j].name==nm):=by rw[zAe,zAe]
    generalize l[j].name=mm at y0 hs HH HM;generalize hb0:(mm==nm)=b0 at hs HH HM;clear hb0;cases b0 with
    |true=>
     have E:=hid (HH.out rfl);clear HH HM;go_wp2_with fail;go_still (by kernel_rfl);go_wp2;go_ret;exact⟨zAc E.out.symm,HB2.out⟩
    |false=>
    have HN3:=hid (HM.out rfl);clear HH HM;go_wp2_with fail;go_still (by kernel_rfl);go_wp2;go_roundg (k - (j+1));case measure=>omega
    case rel=>exact⟨j+1,by omega,by go_num,HB2,HN3⟩
   have hjz:¬((j:Int)<(k:Int)):=by omega
   obtain rfl:j=k:=by omega
   have HT2:=hid (show res=_ by rw[HT.out,if_neg (zKi (p:=fun y:PList=>y.name==nm) hlt HN2.out (by show(l[j].name==nm)=true;rw[HNM.out];simp))]);clear HT HN2 HNM;by_cases hr0:rs.length=0
   ·have E:Hid (res=1):=hid (by rw[HT2.out,if_pos (by omega)])
    have hrz:((rs.length:Int)==0)=true:=by simp[hr0]
    go_wp2;go_ret;exact⟨zAc E.out.symm,HQ.out⟩
   have hrz:((rs.length:Int)==0)=false:=by simpa using hr0
   by_cases hr1:16<rs.length
   ·have E:Hid (res=7):=hid (by rw[HT2.out,if_neg (by omega),if_pos (by omega)])
    have hrm:(16:Int)<(rs.length:Int):=by omega
    go_wp2;go_ret;exact⟨zAc E.out.symm,HQ.out⟩
   have hrm:¬((16:Int)<(rs.length:Int)):=by omega
   have HT3:=hid (show res=_ by rw[HT2.out,if_neg (by omega),if_neg (by omega)]);clear HT2 hr0;generalize j=k at *;go_wp2_with fail;clear xa xv hrz hrm;go_loopg [5] rs.length (fun gh ix wq=>∃i:Nat,i+gh=rs.length∧ix=.int .i64 i∧Hid (Below w.heap.size w wq)∧Hid (zAl prE (rs.drop i)=zAl prE rs));case atStart=>exact⟨0,by omega,rfl,HQ,hid rfl⟩
   case round=>
    clear HQ;obtain⟨i,hi,rfl,HQ,HG⟩:=hrel;obtain⟨xa,xv⟩:=XA.out wr HQ.out;by_cases hil:i<rs.length;case neg=>
     have hiz:¬((i:Int)<(rs.length:Int)):=by omega
     have EN:Hid (lsGo (·.name) (·.rules.length) (fun(x:PList)=>zAl prE x.rules) 16 l (l.drop (k+1)) (k+1)=res):=hid (by rw[HT3.out,if_pos (zDm hil HG.out)]);go_wp2;go_roundg (l.length - (k+1));case measure=>omega
     case rel=>exact⟨k+1,by omega,by go_num,HQ,EN⟩
    have hiz:(i:Int)<(rs.length:Int):=by omega
    have HG2:=hid (zEd hil HG.out);obtain⟨g2,o2,c3,e',-,hg2,R0⟩:=HNK.out.elem (n:=5) (by decide) (fun _=>rfl) hil;injection e' with e1 e2 e3
    subst e1 e3;have r1:=hid (zAf R0 (HQ.out.mono HBB.out) hg2);have FX:=hid (HFK.out _ (List.getElem_mem hil));generalize rs[i]=x at r1 HG2 FX;clear R0 e2 HG;go_wp2_with (first|(refine zAa rfl 92 _ rfl rfl r1.out Tryz.rowPRule Tryz.sizePRule ?_));have hv:=rvpr_any x FX.out wr;with_reducible refine hv.mono ?_
    clear hv;rintro e w6 ⟨rfl,hb⟩;have H6:=hid (HQ.out.trans (hb.mono HQ.out.size));clear hb r1 xa xv;cases hr:zEg x with
    |false=>
     have E:Hid (res=1):=hid (by rw[HT3.out,HG2.out,show prE x=1 by unfold prE;rw[hr];rfl];rfl);clear hr;go_wp2;go_ret;exact⟨zAc E.out.symm,H6.out⟩
    |true=>
    have HG3:Hid (zAl prE (rs.drop (i+1))=zAl prE rs):=hid (by rw[HG2.out,show prE x=0 by unfold prE;rw[hr];rfl];rfl);clear hr HG2;go_wp2;go_roundg (rs.length - (i+1));case measure=>omega
    case rel=>exact⟨i+1,by omega,by go_num,H6,HG3⟩
theorem zKd(l:List AList)(v:Value)(w:World)(B:Nat)(hB:B≤w.heap.size)(hl:SlV w B 2 AList.C v l)(hn:∀x∈l,x.at w B)(hf:∀x∈l,x.fit):Calls Tryz.prog 57 #[v] w fun e w' => e=.returned (.int .i64 (aclsE l))∧Below w.heap.size w w' := by
 have HBB:=hid hB;have HN:=hid hn;have HF:=hid hf;have HB:=hid (Below.refl w.heap.size w);obtain⟨A,c,rfl,-⟩:=id hl;clear hn hf;have HS:=hid hl;clear hl;obtain⟨res,hres⟩:∃res,aclsE l=res:=⟨_,rfl⟩;rw[hres];by_cases h8:8<l.length
 ·have E:Hid (res=7):=hid (by rw[←hres];exact if_pos h8)
  have d8:(8:Int)<(l.length:Int):=by omega
  clear hres;go_enter Tryz.func57,Tryz.ntmps57;go_wp2;go_ret;exact⟨zAc E.out.symm,HB.out⟩
 have d8:¬((8:Int)<(l.length:Int)):=by omega
 have E:Hid (lsGo (·.name) (·.rules.length) (fun(x:AList)=>zAl ruE x.rules) 16 l l 0=res):=hid (by rw[←hres];exact(if_neg h8).symm);clear hres;go_enter Tryz.func57,Tryz.ntmps57;go_wp2_with fail;clear d8;go_loopg [3] l.length (fun gh ix wr=>∃k:Nat,k+gh=l.length∧ix=.int .i64 k∧Hid (Below w.heap.size w wr)∧Hid (lsGo (·.name) (·.rules.length) (fun(x:AList)=>zAl ruE x.rules) 16 l (l.drop k) k=res));case atStart=>exact⟨0,by omega,rfl,HB,E⟩
 case round=>
  clear HB E;obtain⟨k,hk,rfl,HB,HG⟩:=hrel;by_cases hlt:k<l.length;case neg=>
   have hkz:¬((k:Int)<(l.length:Int)):=by omega
   have E:=hid (zHi hlt HG.out);go_wp2;go_ret;exact⟨zAc E.out.symm,HB.out⟩
  have hkz:(k:Int)<(l.length:Int):=by omega
  have HW:=hid (list_ways (zIc hlt HG.out));clear HG;obtain⟨g,o,c', e',-,hg,R0⟩:=HS.out.elem (n:=2) (by decide) (fun _=>rfl) hlt;injection e' with e1 e2 e3
  subst e1 e3;obtain⟨A2,c2,hv2,-⟩:=id (HN.out _ (List.getElem_mem hlt));have HNK:=hid (HN.out _ (List.getElem_mem hlt));have HFK:=hid (HF.out _ (List.getElem_mem hlt));unfold AList.at at HNK;rw[hv2]at HNK;have XA:Hid (∀W,Below w.heap.size w W→W.cell? ⟨g,o+k*2,none⟩=some (.string (str l[k].name))∧W.cell? ⟨g,o+k*2+1,none⟩=some (.slice A2 l[k].rules.length c2)):=hid (fun W hW=>⟨zAf R0 (hW.mono HBB.out) hg 0 _ rfl,by rw[←hv2];exact zAf R0 (hW.mono HBB.out) hg 1 _ rfl⟩);clear R0 e2 hv2;unfold AList.fit at HFK;have HXK:Hid ((l[k].name==l[k].name)=true):=hid (by simp);obtain⟨nm,hnm⟩:∃nm,nm=l[k].name:=⟨_,rfl⟩;rw[←hnm]at XA HW;have HNM:=hid hnm;clear hnm HXK;generalize l[k].rules=rs at *;obtain⟨xa,xv⟩:=XA.out wr HB.out;go_wp2_with fail;refine(rnameL nm wr).mono ?_;rintro e w' ⟨rfl,rfl⟩;rcases HW.out with⟨n1,h3⟩|⟨n1,h3⟩
  ·have E:=hid h3
   rw[n1];clear h3;go_wp2;go_ret;exact⟨zAc E.out.symm,HB.out⟩
  have HT:=hid h3;rw[n1];clear h3 HW;go_wp2_with fail;clear xa xv n1;go_loopg [4] k (fun gh ix wq=>∃j:Nat,j+gh=k∧ix=.int .i64 j∧Hid (Below w.heap.size w wq)∧Hid (∀i (hi:i<l.length),i<j→(l[i].name==nm)=false));case atStart=>exact⟨0,by omega,rfl,HB,hid fun _ _ h=>absurd h (Nat.not_lt_zero _)⟩
  case round=>
   clear HB;obtain⟨j,hj,rfl,HQ,HN2⟩:=hrel;obtain⟨xa,xv⟩:=XA.out wr HQ.out;by_cases hjl:j<k;case pos=>
    have hjn:j<l.length:=by omega
    have hjz:(j:Int)<(k:Int):=by omega
    have hjm:(j:Int)<(l.length:Int):=by omega
    obtain⟨g', o', c'', e',-,hg', R0⟩:=HS.out.elem (n:=2) (by decide) (fun _=>rfl) hjn;injection e' with e1 e2 e3
    injection e1 with e1
    injection e1 with e1 e4
    subst e1 e4;have y0:wr.cell? ⟨g,o+j*2,none⟩=some (.string (str l[j].name)):=zAf R0 (HQ.out.mono HBB.out) hg' 0 _ rfl;clear R0 e2 e3;have HB2:=hid (HQ.out.trans (Below.mono (zAs wr) HQ.out.size));have HH:Hid ((l[j].name==nm)=true→res=4):=hid fun h=>by rw[HT.out,if_pos (zKn (p:=fun y:AList=>y.name==nm) hjn h hjl)]
    have HM:Hid ((l[j].name==nm)=false→∀i (hi:i<l.length),i<j+1→(l[i].name==nm)=false):=hid fun h i hi hlt=>by
     rcases Nat.lt_or_ge i j with h1|h1
     ·exact HN2.out i hi h1
     ·obtain rfl:i=j:=by omega
      exact h
    clear HN2;have hs:((str l[j].name).toList==(str nm).toList)=(l[j].name==nm):=by rw[zAe,zAe]
    generalize l[j].name=mm at y0 hs HH HM;generalize hb0:(mm==nm)=b0 at hs HH HM;clear hb0;cases b0 with
    |true=>
     have E:=hid (HH.out rfl);clear HH HM;go_wp2_with fail;go_still (by kernel_rfl);go_wp2;go_ret;exact⟨zAc E.out.symm,HB2.out⟩
    |false=>
    have HN3:=hid (HM.out rfl);clear HH HM;go_wp2_with fail;go_still (by kernel_rfl);go_wp2;go_roundg (k - (j+1));case measure=>omega
    case rel=>exact⟨j+1,by omega,by go_num,HB2,HN3⟩
   have hjz:¬((j:Int)<(k:Int)):=by omega
   obtain rfl:j=k:=by omega
   have HT2:=hid (show res=_ by rw[HT.out,if_neg (zKi (p:=fun y:AList=>y.name==nm) hlt HN2.out (by show(l[j].name==nm)=true;rw[HNM.out];simp))]);clear HT HN2 HNM;by_cases hr0:rs.length=0
   ·have E:Hid (res=1):=hid (by rw[HT2.out,if_pos (by omega)])
    have hrz:((rs.length:Int)==0)=true:=by simp[hr0]
    go_wp2;go_ret;exact⟨zAc E.out.symm,HQ.out⟩
   have hrz:((rs.length:Int)==0)=false:=by simpa using hr0
   by_cases hr1:16<rs.length
   ·have E:Hid (res=7):=hid (by rw[HT2.out,if_neg (by omega),if_pos (by omega)])
    have hrm:(16:Int)<(rs.length:Int):=by omega
    go_wp2;go_ret;exact⟨zAc E.out.symm,HQ.out⟩
   have hrm:¬((16:Int)<(rs.length:Int)):=by omega
   have HT3:=hid (show res=_ by rw[HT2.out,if_neg (by omega),if_neg (by omega)]);clear HT2 hr0;generalize j=k at *;go_wp2_with fail;clear xa xv hrz hrm;go_loopg [5] rs.length (fun gh ix wq=>∃i:Nat,i+gh=rs.length∧ix=.int .i64 i∧Hid (Below w.heap.size w wq)∧Hid (zAl ruE (rs.drop i)=zAl ruE rs));case atStart=>exact⟨0,by omega,rfl,HQ,hid rfl⟩
   case round=>
    clear HQ;obtain⟨i,hi,rfl,HQ,HG⟩:=hrel;obtain⟨xa,xv⟩:=XA.out wr HQ.out;by_cases hil:i<rs.length;case neg=>
     have hiz:¬((i:Int)<(rs.length:Int)):=by omega
     have EN:Hid (lsGo (·.name) (·.rules.length) (fun(x:AList)=>zAl ruE x.rules) 16 l (l.drop (k+1)) (k+1)=res):=hid (by rw[HT3.out,if_pos (zDm hil HG.out)]);go_wp2;go_roundg (l.length - (k+1));case measure=>omega
     case rel=>exact⟨k+1,by omega,by go_num,HQ,EN⟩
    have hiz:(i:Int)<(rs.length:Int):=by omega
    have HG2:=hid (zEd hil HG.out);obtain⟨g2,o2,c3,e',-,hg2,R0⟩:=HNK.out.elem (n:=10) (by decide) (fun _=>rfl) hil;injection e' with e1 e2 e3
    subst e1 e3;have r1:=hid (zAf R0 (HQ.out.mono HBB.out) hg2);have FX:=hid (HFK.out _ (List.getElem_mem hil));generalize rs[i]=x at r1 HG2 FX;clear R0 e2 HG;go_wp2_with (first|(refine zAa rfl 103 _ rfl rfl r1.out Tryz.rowRu Tryz.sizeRu ?_));have hv:=rvru_any x FX.out wr;with_reducible refine hv.mono ?_
    clear hv;rintro e w6 ⟨rfl,hb⟩;have H6:=hid (HQ.out.trans (hb.mono HQ.out.size));clear hb r1 xa xv;cases hr:zCp x with
    |false=>
     have E:Hid (res=1):=hid (by rw[HT3.out,HG2.out,show ruE x=1 by unfold ruE;rw[hr];rfl];rfl);clear hr;go_wp2;go_ret;exact⟨zAc E.out.symm,H6.out⟩
    |true=>
    have HG3:Hid (zAl ruE (rs.drop (i+1))=zAl ruE rs):=hid (by rw[HG2.out,show ruE x=0 by unfold ruE;rw[hr];rfl];rfl);clear hr HG2;go_wp2;go_roundg (rs.length - (i+1));case measure=>omega
    case rel=>exact⟨i+1,by omega,by go_num,H6,HG3⟩
theorem cl_ways(x:Cl):(zCr x=true∧zAb x.tag (-1) 65535=true∧zAb x.setT (-1) 65535=true∧zAb x.setM (-1) 16777215=true∧zAb x.setP (-1) 1000000=true∧zAb x.prep 0 8=true)∨(zCr x=false∧(zAb x.tag (-1) 65535=false∨(zAb x.tag (-1) 65535=true∧zAb x.setT (-1) 65535=false)∨(zAb x.tag (-1) 65535=true∧zAb x.setT (-1) 65535=true∧zAb x.setM (-1) 16777215=false) ∨
  (zAb x.tag (-1) 65535=true∧zAb x.setT (-1) 65535=true∧zAb x.setM (-1) 16777215=true∧zAb x.setP (-1) 1000000=false)∨(zAb x.tag (-1) 65535=true∧zAb x.setT (-1) 65535=true∧zAb x.setM (-1) 16777215=true∧zAb x.setP (-1) 1000000=true∧zAb x.prep 0 8=false))):=by
 unfold zCr;cases zAb x.tag (-1) 65535<;>cases zAb x.setT (-1) 65535<;>cases zAb x.setM (-1) 16777215<;>cases zAb x.setP (-1) 1000000<;>cases zAb x.prep 0 8<;>simp
theorem rrouteMaps_all(r:Rt)(w:World)(B:Nat)(hB:B≤w.heap.size)(h:r.at w B):Calls Tryz.prog 56 #[.agg r.C] w fun e w' => e=.returned (.int .i64 (mapsE r.lists r.maps))∧Below w.heap.size w w' := by
 have HBB:=hid hB;have HR:=hid h;have hl:=h.hmaps;have HN:=hid h.nmaps;have HB:=hid (RB.start r w);have c4:=cl4 HB.out.h;generalize r.maps=l at *;obtain⟨A,c,hv,-⟩:=id hl;rw[hv]at c4 hl;have HS:=hid hl;clear hl h hv;obtain⟨res,hres⟩:∃res,mapsE r.lists l=res:=⟨_,rfl⟩;rw[hres];by_cases h8:8<l.length
 ·have E:Hid (res=7):=hid (by rw[←hres];exact if_pos h8)
  have d8:(8:Int)<(l.length:Int):=by omega
  clear hres;go_enter Tryz.func56,Tryz.ntmps56;go_wp2;go_ret;exact⟨zAc E.out.symm,HB.out.b⟩
 have d8:¬((8:Int)<(l.length:Int)):=by omega
 have E:Hid (lsGo (·.name) (·.clauses.length) (fun(x:RMap)=>zAl (clE r.lists) x.clauses) 8 l l 0=res):=hid (by rw[←hres];exact(if_neg h8).symm);clear hres;go_enter Tryz.func56,Tryz.ntmps56;go_wp2_with fail;clear d8 c4;go_loopg [4] l.length (fun gh ix wr=>∃k:Nat,k+gh=l.length∧ix=.int .i64 k∧Hid (RB r w wr)∧Hid (lsGo (·.name) (·.clauses.length) (fun(x:RMap)=>zAl (clE r.lists) x.clauses) 8 l (l.drop k) k=res));case atStart=>exact⟨0,by omega,rfl,HB,E⟩
 case round=>
  clear HB E;obtain⟨k,hk,rfl,HB,HG⟩:=hrel;by_cases hlt:k<l.length;case neg=>
   have hkz:¬((k:Int)<(l.length:Int)):=by omega
   have E:=hid (zHi hlt HG.out);go_wp2;go_ret;exact⟨zAc E.out.symm,HB.out.b⟩
  have hkz:(k:Int)<(l.length:Int):=by omega
  have HW:=hid (list_ways (zIc hlt HG.out));clear HG;obtain⟨g,o,c', e',-,hg,R0⟩:=HS.out.elem (n:=2) (by decide) (fun _=>rfl) hlt;injection e' with e1 e2 e3
  subst e1 e3;obtain⟨A2,c2,hv2,-⟩:=id (HN.out _ (List.getElem_mem hlt));have HNK:=hid (HN.out _ (List.getElem_mem hlt));unfold RMap.at at HNK;rw[hv2]at HNK;have XA:Hid (∀W,Below w.heap.size w W→W.cell? ⟨g,o+k*2,none⟩=some (.string (str l[k].name))∧W.cell? ⟨g,o+k*2+1,none⟩=some (.slice A2 l[k].clauses.length c2)):=hid (fun W hW=>⟨zAf R0 (hW.mono HBB.out) hg 0 _ rfl,by rw[←hv2];exact zAf R0 (hW.mono HBB.out) hg 1 _ rfl⟩);clear R0 e2 hv2;have HXK:Hid ((l[k].name==l[k].name)=true):=hid (by simp);obtain⟨nm,hnm⟩:∃nm,nm=l[k].name:=⟨_,rfl⟩;rw[←hnm]at XA HW;have HNM:=hid hnm;clear hnm HXK;generalize l[k].clauses=rs at *;obtain⟨xa,xv⟩:=XA.out wr HB.out.b;go_wp2_with fail;refine(rnameL nm wr).mono ?_;rintro e w' ⟨rfl,rfl⟩;rcases HW.out with⟨n1,h3⟩|⟨n1,h3⟩
  ·have E:=hid h3
   rw[n1];clear h3;go_wp2;go_ret;exact⟨zAc E.out.symm,HB.out.b⟩
  have HT:=hid h3;rw[n1];clear h3 HW;go_wp2_with fail;clear xa xv n1;go_loopg [5] k (fun gh ix wq=>∃j:Nat,j+gh=k∧ix=.int .i64 j∧Hid (RB r w wq)∧Hid (∀i (hi:i<l.length),i<j→(l[i].name==nm)=false));case atStart=>exact⟨0,by omega,rfl,HB,hid fun _ _ h=>absurd h (Nat.not_lt_zero _)⟩
  case round=>
   clear HB;obtain⟨j,hj,rfl,HQ,HN2⟩:=hrel;obtain⟨xa,xv⟩:=XA.out wr HQ.out.b;by_cases hjl:j<k;case pos=>
    have hjn:j<l.length:=by omega
    have hjz:(j:Int)<(k:Int):=by omega
    have hjm:(j:Int)<(l.length:Int):=by omega
    obtain⟨g', o', c'', e',-,hg', R0⟩:=HS.out.elem (n:=2) (by decide) (fun _=>rfl) hjn;injection e' with e1 e2 e3
    injection e1 with e1
    injection e1 with e1 e4
    subst e1 e4;have y0:wr.cell? ⟨g,o+j*2,none⟩=some (.string (str l[j].name)):=zAf R0 (HQ.out.b.mono HBB.out) hg' 0 _ rfl;clear R0 e2 e3;have HB2:=hid (HQ.out.keep (zAs wr));have HH:Hid ((l[j].name==nm)=true→res=4):=hid fun h=>by rw[HT.out,if_pos (zKn (p:=fun y:RMap=>y.name==nm) hjn h hjl)]
    have HM:Hid ((l[j].name==nm)=false→∀i (hi:i<l.length),i<j+1→(l[i].name==nm)=false):=hid fun h i hi hlt=>by
     rcases Nat.lt_or_ge i j with h1|h1
     ·exact HN2.out i hi h1
     ·obtain rfl:i=j:=by omega
      exact h
    clear HN2;have hs:((str l[j].name).toList==(str nm).toList)=(l[j].name==nm):=by rw[zAe,zAe]
    generalize l[j].name=mm at y0 hs HH HM;generalize hb0:(mm==nm)=b0 at hs HH HM;clear hb0;cases b0 with
    |true=>
     have E:=hid (HH.out rfl);clear HH HM;go_wp2_with fail;go_still (by kernel_rfl);go_wp2;go_ret;exact⟨zAc E.out.symm,HB2.out.b⟩
    |false=>
    have HN3:=hid (HM.out rfl);clear HH HM;go_wp2_with fail;go_still (by kernel_rfl);go_wp2;go_roundg (k - (j+1));case measure=>omega
    case rel=>exact⟨j+1,by omega,by go_num,HB2,HN3⟩
   have hjz:¬((j:Int)<(k:Int)):=by omega
   obtain rfl:j=k:=by omega
   have HT2:=hid (show res=_ by rw[HT.out,if_neg (zKi (p:=fun y:RMap=>y.name==nm) hlt HN2.out (by show(l[j].name==nm)=true;rw[HNM.out];simp))]);clear HT HN2 HNM;by_cases hr0:rs.length=0
   ·have E:Hid (res=1):=hid (by rw[HT2.out,if_pos (by omega)])
    have hrz:((rs.length:Int)==0)=true:=by simp[hr0]
    go_wp2;go_ret;exact⟨zAc E.out.symm,HQ.out.b⟩
   have hrz:((rs.length:Int)==0)=false:=by simpa using hr0
   by_cases hr1:8<rs.length
   ·have E:Hid (res=7):=hid (by rw[HT2.out,if_neg (by omega),if_pos (by omega)])
    have hrm:(8:Int)<(rs.length:Int):=by omega
    go_wp2;go_ret;exact⟨zAc E.out.symm,HQ.out.b⟩
   have hrm:¬((8:Int)<(rs.length:Int)):=by omega
   have HT3:=hid (show res=_ by rw[HT2.out,if_neg (by omega),if_neg (by omega)]);clear HT2 hr0;generalize j=k at *;go_wp2_with fail;clear xa xv hrz hrm;go_loopg [6] rs.length (fun gh ix wq=>∃i:Nat,i+gh=rs.length∧ix=.int .i64 i∧Hid (RB r w wq)∧Hid (zAl (clE r.lists) (rs.drop i)=zAl (clE r.lists) rs));case atStart=>exact⟨0,by omega,rfl,HQ,hid rfl⟩
   case round=>
    clear HQ;obtain⟨i,hi,rfl,HQ,HG⟩:=hrel;obtain⟨xa,xv⟩:=XA.out wr HQ.out.b;by_cases hil:i<rs.length;case neg=>
     have hiz:¬((i:Int)<(rs.length:Int)):=by omega
     have EN:Hid (lsGo (·.name) (·.clauses.length) (fun(x:RMap)=>zAl (clE r.lists) x.clauses) 8 l (l.drop (k+1)) (k+1)=res):=hid (by rw[HT3.out,if_pos (zDm hil HG.out)]);go_wp2;go_roundg (l.length - (k+1));case measure=>omega
     case rel=>exact⟨k+1,by omega,by go_num,HQ,EN⟩
    have hiz:(i:Int)<(rs.length:Int):=by omega
    have HG2:=hid (zEd hil HG.out);obtain⟨g2,o2,c3,e',-,hg2,R0⟩:=HNK.out.elem (n:=7) (by decide) (fun _=>rfl) hil;injection e' with e1 e2 e3
    subst e1 e3;have r1:=hid (zAf R0 (HQ.out.b.mono HBB.out) hg2);have HR5:Hid (clE r.lists rs[i]≠0→res=clE r.lists rs[i]):=hid fun h=>zDw HT3.out HG2.out h
    have HR0:Hid (clE r.lists rs[i]=0→zAl (clE r.lists) (rs.drop (i+1))=zAl (clE r.lists) rs):=hid fun h=>zCx HG2.out h
    generalize rs[i]=x at r1 HR5 HR0;clear R0 e2 HG HG2;have HFX:Hid (clE r.lists x=if !x.list.isEmpty&&decide (idxF (fun y=>y.name==x.list) r.lists 0<0)then 5 else if zCr x then 0 else 1):=hid rfl;generalize clE r.lists x=fx at HFX HR5 HR0;go_upto_region 22 with(first|(refine zAa rfl 95 _ rfl rfl r1.out Tryz.rowCl Tryz.sizeCl ?_)|(refine zAd rfl 95 _ _ rfl rfl rfl (HasC.new wr _ _) rfl Tryz.sizeCl (Cl.one x) ?_;intro w5 hz1 hz2))
    have HW5:Hid (RBL r w 95 wr.heap.size x.C w5):=hid (let q:=HQ.out.keep (zAi hz2);⟨q.h,q.b,hz1⟩);clear hz1 hz2 r1 HQ xa xv;generalize wr.heap.size=gx at HW5⊢;have HCW:=hid (cl_ways x);have HWI:=hid zCd;have HC1:Hid (∀j v,x.C[j]? = some v→∀W,HasC 95 gx x.C W→W.cell? ⟨gx,j,none⟩=some v):=hid fun j v hv W h=>(h.cell j).trans hv
    have x1:w5.cell? ⟨gx,1,none⟩=some (.string (str x.list)):=HW5.out.l.cell 1;have XC:Hid (∀W,RBL r w 95 gx x.C W→W.cell? ⟨gx,2,none⟩=some (.int .i64 x.tag)∧W.cell? ⟨gx,3,none⟩=some (.int .i64 x.setM)∧W.cell? ⟨gx,4,none⟩=some (.int .i64 x.setT)∧W.cell? ⟨gx,5,none⟩=some (.int .i64 x.setP)∧W.cell? ⟨gx,6,none⟩=some (.int .i64 x.prep)):=hid fun W h=>⟨h.l.cell 2,h.l.cell 3,h.l.cell 4,h.l.cell 5,h.l.cell 6⟩
    clear HC1;generalize x.C=cx at HW5 XC;generalize zCr x=R at HCW HFX;obtain⟨permit,list,tag,setM,setT,setP,prep⟩:=x;dsimp only at HFX HCW XC x1;by_cases hli:list=[]
    ·subst hli
     have tn:=zAe ([]:List UInt8);have HFY:Hid (fx=if R then 0 else 1):=hid HFX.out;obtain⟨x2,x3,x4,x5,x6⟩:=XC.out _ HW5.out;have WARM:True:=trivial;rcases HCW.out with⟨rfl,k2,k3,k4,k5,k6⟩|⟨rfl,(k2|⟨k2,k3⟩|⟨k2,k3,k4⟩|⟨k2,k3,k4,k5⟩|⟨k2,k3,k4,k5,k6⟩)⟩
     all_goals
      have E1:Hid (fx=1→res=1):=hid fun q=>by rw[HR5.out (by rw[q];decide),q]
      clear HFX HCW HR5 XC;go_wp2_with (go_at_call 53;refine(HWI.out _ _ _ _).mono ?_;rintro e w' ⟨rfl,rfl⟩)
      first
       | (have E := hid (E1.out HFY.out)
          go_ret
          exact⟨zAc E.out.symm,HW5.out.b⟩)
       | (have HG3 := hid (HR0.out HFY.out)
          go_roundg (rs.length - (i+1));case measure=>omega
          case rel=>exact⟨i+1,by omega,by go_num,hid ⟨HW5.out.h,HW5.out.b⟩,HG3⟩)
    obtain⟨i1,i2,i3⟩:=zCe hli;have HFD:Hid (fx=if decide (idxF (fun y=>y.name==list) r.lists 0<0)then 5 else if R then 0 else 1):=hid (by rw[HFX.out,i1];rfl);clear HFX;go_wp2_with (refine zAj (by rfl) (zAa rfl 41 _ rfl rfl HW5.out.h.range Tryz.rowRt Tryz.sizeRt ?_));with_reducible refine(zEx r list w5 B (HR.out.below (HW5.out.b.mono HBB.out)) (Nat.le_trans HBB.out HW5.out.b.size)).mono ?_
    rintro e w6 ⟨rfl,hb⟩;have HW6:=hid (HW5.out.keep hb);clear hb HW5 x1 i1 i2 i3;cases di:decide (idxF (fun y:PList=>y.name==list) r.lists 0<0)with
    |true=>
     have E:Hid (res=5):=hid (by
      have q:fx=5:=by rw[HFD.out,di];rfl
      rw[HR5.out (by rw[q];decide),q])
     clear HFD HR5 HR0 HCW XC;go_wp2;go_ret;exact⟨zAc E.out.symm,HW6.out.b⟩
    |false=>
    have HFY:Hid (fx=if R then 0 else 1):=hid (by rw[HFD.out,di];rfl);obtain⟨x2,x3,x4,x5,x6⟩:=XC.out _ HW6.out;have WARM:True:=trivial;rcases HCW.out with⟨rfl,k2,k3,k4,k5,k6⟩|⟨rfl,(k2|⟨k2,k3⟩|⟨k2,k3,k4⟩|⟨k2,k3,k4,k5⟩|⟨k2,k3,k4,k5,k6⟩)⟩
    all_goals
     have E1:Hid (fx=1→res=1):=hid fun q=>by rw[HR5.out (by rw[q];decide),q]
     clear HFD HCW HR5 XC;go_wp2_with (go_at_call 53;refine(HWI.out _ _ _ _).mono ?_;rintro e w' ⟨rfl,rfl⟩)
     first
      | (have E := hid (E1.out HFY.out)
         go_ret
         exact⟨zAc E.out.symm,HW6.out.b⟩)
      | (have HG3 := hid (HR0.out HFY.out)
         go_roundg (rs.length - (i+1));case measure=>omega
         case rel=>exact⟨i+1,by omega,by go_num,hid ⟨HW6.out.h,HW6.out.b⟩,HG3⟩)
theorem zFd{α:Type}{name:α→List UInt8}{l:List α}{n:List UInt8}:(n≠[]∧decide (idxF (fun y=>name y==n) l 0<0)=true→zAu name l n=true)∧(n=[]∨decide (idxF (fun y=>name y==n) l 0<0)=false→zAu name l n=false):=by
 unfold zAu;refine⟨fun⟨h,h2⟩=>?_,fun h=>?_⟩
 ·rw[(zCe h).1,h2];rfl
 ·rcases h with rfl|h
  ·rfl
  ·rw[h,Bool.and_false]
theorem filt_way{acls:List AList}{x:If}{res X:Int}(h:res=if filtE acls x=0 then X else filtE acls x) :
  ((x.inn≠[]∧decide (idxF (fun y=>y.name==x.inn) acls 0<0)=true)∨(x.out≠[]∧decide (idxF (fun y=>y.name==x.out) acls 0<0)=true)→res=5) ∧
  ((x.inn=[]∨decide (idxF (fun y=>y.name==x.inn) acls 0<0)=false)→(x.out=[]∨decide (idxF (fun y=>y.name==x.out) acls 0<0)=false)→X=res):=by
 subst h;unfold filtE;refine⟨fun h=>?_,fun h1 h2=>?_⟩
 ·rcases h with h|h
  ·rw[(zFd (name:=fun y:AList=>y.name)).1 h];rfl
  ·rw[(zFd (name:=fun y:AList=>y.name) (l:=acls) (n:=x.out)).1 h,Bool.or_true];rfl
 ·rw[(zFd (name:=fun y:AList=>y.name)).2 h1,(zFd (name:=fun y:AList=>y.name)).2 h2];rfl
theorem rfilters_all(r:Rt)(w:World)(B:Nat)(hB:B≤w.heap.size)(h:r.at w B)(hf:∀x∈r.ifs,x.fit):Calls Tryz.prog 59 #[.agg r.C] w fun e w' => e=.returned (.int .i64 (zAl (filtE r.acls) r.ifs))∧Below w.heap.size w w' := by
 have HBB:=hid hB;have HR:=hid h;have HB:=hid (RB.start r w);have HF:=hid hf;have HWI:=hid zCd;have hl:=h.hifs;have hlen:=hl.len;simp only[maxLen]at hlen;obtain⟨res,hres⟩:∃res,zAl (filtE r.acls) r.ifs=res:=⟨_,rfl⟩;rw[hres];have E:=hid hres;clear hres;generalize r.ifs=l at *;obtain⟨A,c,hv,-⟩:=id hl;have HL:Hid (∀w', RB r w w' → w'.cell? ⟨w.heap.size,2,none⟩=some (.slice A l.length c)):=hid (fun w' h=>by rw[←hv];exact h.h.cell 2);rw[hv]at hl;have HS:=hid hl;have cl:=HL.out _ HB.out;clear h hf hl hv;go_enter Tryz.func59,Tryz.ntmps59;go_wp2_with fail;clear cl;go_loopg [3] l.length (fun gh ix wr=>∃k:Nat,k+gh=l.length∧ix=.int .i64 k∧Hid (RB r w wr)∧Hid (zAl (filtE r.acls) (l.drop k)=res));case atStart=>exact⟨0,by omega,rfl,HB,E⟩
 case round=>
  clear HB E;obtain⟨k,hk,rfl,HB,HG⟩:=hrel;have cl:=HL.out wr HB.out;by_cases hlt:k<l.length;case neg=>
   have hkz:¬((k:Int)<(l.length:Int)):=by omega
   have E:=hid (zDm hlt HG.out);go_wp2;go_ret;exact⟨zAc E.out.symm,HB.out.b⟩
  have hkz:(k:Int)<(l.length:Int):=by omega
  obtain⟨g,o,c', e',-,hg,R0⟩:=HS.out.elem (n:=12) (by decide) (fun _=>rfl) hlt;injection e' with e1 e2 e3
  subst e1 e3;have r1:=hid (zAf R0 (HB.out.b.mono HBB.out) hg);have FX:=hid (HF.out _ (List.getElem_mem hlt));have OK:=hid (zEd hlt HG.out);generalize l[k]=x at r1 FX OK;clear HG;clear R0 e2;go_upto_region 5 with(first|(refine zAa rfl 68 _ rfl rfl r1.out Tryz.rowIf Tryz.sizeIf ?_)|(refine zAd rfl 68 _ _ rfl rfl rfl (HasC.new wr _ _) rfl Tryz.sizeIf (If.one x) ?_;intro w5 hz1 hz2))
  have H5:Hid (RBL r w 68 wr.heap.size x.C w5):=hid (let q:=HB.out.keep (zAi hz2);⟨q.h,q.b,hz1⟩);clear hz1 hz2 r1 HB cl;generalize wr.heap.size=gx at H5⊢;have OW:=hid (filt_way (acls:=r.acls) (x:=x) OK.out);obtain⟨name,addr,len,vlan,down,ls,area,cost,dv,inn,out,side⟩:=x;dsimp only at OW;clear OK FX;have y9:w5.cell? ⟨gx,9,none⟩=some (.string (str inn)):=H5.out.l.cell 9;by_cases hi:inn=[]
  ·subst hi
   have tni:=zAe ([]:List UInt8);have y10:w5.cell? ⟨gx,10,none⟩=some (.string (str out)):=H5.out.l.cell 10;by_cases ho:out=[]
   ·subst ho
    have tno:=zAe ([]:List UInt8);have EG:=OW.out.2 (.inl (by trivial)) (.inl (by trivial));go_wp2;go_roundg (l.length - (k+1));case measure=>omega
    case rel=>exact⟨k+1,by omega,by go_num,hid ⟨H5.out.h,H5.out.b⟩,hid EG⟩
   obtain⟨j1,j2,j3⟩:=zCe ho;go_wp2_with (first|(refine zAa rfl 41 _ rfl rfl H5.out.h.range Tryz.rowRt Tryz.sizeRt ?_)|(refine zAj (by rfl) (zAa rfl 41 _ rfl rfl H5.out.h.range Tryz.rowRt Tryz.sizeRt ?_)));with_reducible refine(zEy r out w5 B (HR.out.below (H5.out.b.mono HBB.out)) (Nat.le_trans HBB.out H5.out.b.size)).mono ?_
   rintro e w8 ⟨rfl,hb⟩;have H8:=hid (H5.out.keep hb);clear hb;clear y10 j1 j2 j3;cases dd:decide (idxF (fun y:AList=>y.name==out) r.acls 0<0)with
   |true=>
    have E:Hid (res=5):=hid (OW.out.1 (.inr ⟨ho,dd⟩));go_wp2;go_ret;exact⟨zAc E.out.symm,H8.out.b⟩
   |false=>
   have EG:=OW.out.2 (.inl (by trivial)) (.inr dd);go_wp2;go_roundg (l.length - (k+1));case measure=>omega
   case rel=>exact⟨k+1,by omega,by go_num,hid ⟨H8.out.h,H8.out.b⟩,hid EG⟩
  obtain⟨i1,i2,i3⟩:=zCe hi;go_wp2_with (first|(refine zAa rfl 41 _ rfl rfl H5.out.h.range Tryz.rowRt Tryz.sizeRt ?_)|(refine zAj (by rfl) (zAa rfl 41 _ rfl rfl H5.out.h.range Tryz.rowRt Tryz.sizeRt ?_)));with_reducible refine(zEy r inn w5 B (HR.out.below (H5.out.b.mono HBB.out)) (Nat.le_trans HBB.out H5.out.b.size)).mono ?_
  rintro e w6 ⟨rfl,hb⟩;have H6:=hid (H5.out.keep hb);clear hb;clear y9 i1 i2 i3;cases de:decide (idxF (fun y:AList=>y.name==inn) r.acls 0<0)with
  |true=>
   have E:Hid (res=5):=hid (OW.out.1 (.inl ⟨hi,de⟩));go_wp2;go_ret;exact⟨zAc E.out.symm,H6.out.b⟩
  |false=>
  have y10:w6.cell? ⟨gx,10,none⟩=some (.string (str out)):=H6.out.l.cell 10;by_cases ho:out=[]
  ·subst ho
   have tno:=zAe ([]:List UInt8);have EG:=OW.out.2 (.inr de) (.inl (by trivial));go_wp2;go_roundg (l.length - (k+1));case measure=>omega
   case rel=>exact⟨k+1,by omega,by go_num,hid ⟨H6.out.h,H6.out.b⟩,hid EG⟩
  obtain⟨j1,j2,j3⟩:=zCe ho;go_wp2_with (first|(refine zAa rfl 41 _ rfl rfl H6.out.h.range Tryz.rowRt Tryz.sizeRt ?_)|(refine zAj (by rfl) (zAa rfl 41 _ rfl rfl H6.out.h.range Tryz.rowRt Tryz.sizeRt ?_)));with_reducible refine(zEy r out w6 B (HR.out.below (H6.out.b.mono HBB.out)) (Nat.le_trans HBB.out H6.out.b.size)).mono ?_
  rintro e w8 ⟨rfl,hb⟩;have H8:=hid (H6.out.keep hb);clear hb;clear y10 j1 j2 j3;cases dd:decide (idxF (fun y:AList=>y.name==out) r.acls 0<0)with
  |true=>
   have E:Hid (res=5):=hid (OW.out.1 (.inr ⟨ho,dd⟩));go_wp2;go_ret;exact⟨zAc E.out.symm,H8.out.b⟩
  |false=>
  have EG:=OW.out.2 (.inr de) (.inr dd);go_wp2;go_roundg (l.length - (k+1));case measure=>omega
  case rel=>exact⟨k+1,by omega,by go_num,hid ⟨H8.out.h,H8.out.b⟩,hid EG⟩
theorem within_ok' {n lo hi:Int}(h:zAb n lo hi=true):lo≤n∧n≤hi:=by simpa [zAb] using h
theorem rd_ways{maps:List RMap}{into least most types:Int}(x:Rd):(redF maps into least most types x=1∧(zAb x.frm 1 5=false∨(zAb x.frm 1 5=true∧(x.frm==into)=true)∨(zAb x.frm 1 5=true∧(x.frm==into)=false∧zAb x.metric least most=false)∨(zAb x.frm 1 5=true∧(x.frm==into)=false∧zAb x.metric least most=true∧zAb x.tag 0 65535=false))) ∨
  (zAb x.frm 1 5=true∧(x.frm==into)=false∧zAb x.metric least most=true∧zAb x.tag 0 65535=true∧redF maps into least most types x=if zAb x.typ (min 1 types) types then(if zAu (fun y:RMap=>y.name) maps x.map then 5 else 0)else 1):=by
 unfold redF;cases zAb x.frm 1 5<;>cases (x.frm==into)<;>cases zAb x.metric least most<;>cases zAb x.tag 0 65535<;>simp
theorem zHd(r:Rt)(l:List Rd)(v:Value)(into least most types:Int)(ht:into=3∧types=2∨into≠3∧types=0)(w:World)(B:Nat)(hB:B≤w.heap.size)(h:r.at w B)(hl:SlV w B 5 Rd.C v l):Calls Tryz.prog 110 #[.agg r.C,v,.int .i64 into,.int .i64 least,.int .i64 most] w fun e w' => e=.returned (.int .i64 (redE r.maps into least most types l))∧Below w.heap.size w w' := by
 have HBB:=hid hB;have HR:=hid h;have HB:=hid (RB.start r w);have HWI:=hid zCd;have hlen:=hl.len;simp only[maxLen]at hlen;obtain⟨A,c,rfl,-⟩:=id hl;have HS:=hid hl;have HT:=hid ht;clear h hl ht;obtain⟨res,hres⟩:∃res,redE r.maps into least most types l=res:=⟨_,rfl⟩;rw[hres];by_cases h8:4<l.length
 ·have E:Hid (res=7):=hid (by rw[←hres];exact if_pos h8)
  have d8:(4:Int)<(l.length:Int):=by omega
  clear hres;go_enter Tryz.func110,Tryz.ntmps110;go_wp2;go_ret;exact⟨zAc E.out.symm,HB.out.b⟩
 have d8:¬((4:Int)<(l.length:Int)):=by omega
 have E:Hid (zAt (redF r.maps into least most types) zCi 4 l l 0=res):=hid (by rw[←hres];exact(if_neg h8).symm);clear hres;go_enter Tryz.func110,Tryz.ntmps110;go_wp2_with fail;clear d8;go_loopg [11] l.length (fun gh ix wr=>∃k:Nat,k+gh=l.length∧ix=.int .i64 k∧Hid (RB r w wr)∧Hid (zAt (redF r.maps into least most types) zCi 4 l (l.drop k) k=res));case atStart=>exact⟨0,by omega,rfl,HB,E⟩
 case round=>
  clear HB E;obtain⟨k,hk,rfl,HB,HG⟩:=hrel;by_cases hlt:k<l.length;case neg=>
   have hkz:¬((k:Int)<(l.length:Int)):=by omega
   have E:=hid (zCb hlt HG.out);go_wp2;go_ret;exact⟨zAc E.out.symm,HB.out.b⟩
  have hkz:(k:Int)<(l.length:Int):=by omega
  obtain⟨g,o,c', e',-,hg,R0⟩:=HS.out.elem (n:=5) (by decide) (fun _=>rfl) hlt;injection e' with e1 e2 e3
  subst e1 e3;have r1:=hid (zAf R0 (HB.out.b.mono HBB.out) hg);have HPA:=zCk hlt HG.out;have HR5:Hid (redF r.maps into least most types l[k]≠0→res=redF r.maps into least most types l[k]):=hid (zBe HPA);have HT0:Hid (redF r.maps into least most types l[k]=0→res=if(l.take k).any (zCi l[k])then 4 else zAt (redF r.maps into least most types) zCi 4 l (l.drop (k+1)) (k+1)):=hid (zDg HPA);clear HPA HG;generalize l[k]=x at r1 HR5 HT0;clear R0 e2;go_upto_region 7 with(first|(refine zAa rfl 149 _ rfl rfl r1.out Tryz.rowRd Tryz.sizeRd ?_)|(refine zAd rfl 149 _ _ rfl rfl rfl (HasC.new wr _ _) rfl Tryz.sizeRd (Rd.one x) ?_;intro w5 hz1 hz2))
  have H5:Hid (RBL r w 149 wr.heap.size x.C w5):=hid (let q:=HB.out.keep (zAi hz2);⟨q.h,q.b,hz1⟩);clear hz1 hz2 r1 HB;generalize wr.heap.size=gx at H5⊢;have HW:=hid (rd_ways (maps:=r.maps) (into:=into) (least:=least) (most:=most) (types:=types) x);have HSX:Hid (∀y,zCi x y=(y.frm==x.frm)):=hid fun _=>rfl
  generalize zCi x=sx at HT0 HSX;generalize redF r.maps into least most types x=fx at HR5 HT0 HW;obtain⟨frm,metric,tag,map,typ⟩:=x;dsimp only at HW HSX;obtain⟨x0,x1,x2⟩:=bl3 H5.out.l;have x3:w5.cell? ⟨gx,3,none⟩=some (.string (str map)):=H5.out.l.cell 3;have x4:=cl4 H5.out.l;have IN:(into != 3) = !(into==3):=rfl;have LK:=hid (fun W (h:RBL r w 149 gx (Rd.C ⟨frm,metric,tag,map,typ⟩) W)=>zGk r map W B (HR.out.below (h.b.mono HBB.out)) (Nat.le_trans HBB.out h.b.size));have CF:Hid (∀W,RBL r w 149 gx (Rd.C ⟨frm,metric,tag,map,typ⟩) W→W.cell? ⟨gx,0,none⟩=some (.int .i64 frm)):=hid (fun W h=>h.l.cell 0);have CG:Hid (∀W,RBL r w 149 gx (Rd.C ⟨frm,metric,tag,map,typ⟩) W→W.cell? ⟨gx,3,none⟩=some (.string (str map))):=hid (fun W h=>h.l.cell 3);generalize Rd.C ⟨frm,metric,tag,map,typ⟩=cs at H5 LK CF CG;have WARM:True:=trivial;rcases HW.out with⟨hfx,(k1|⟨k1,k2⟩|⟨k1,k2,k3⟩|⟨k1,k2,k3,k4⟩)⟩|⟨k1,k2,k3,k4,hfx⟩
  iterate 4
   ·have E:Hid (res=1):=hid (by rw[HR5.out (by rw[hfx];decide),hfx])
    clear hfx HT0 HR5 HW HSX LK CF CG HT IN;go_wp2_with (go_at_call 53;refine(HWI.out _ _ _ _).mono ?_;rintro e w' ⟨rfl,rfl⟩);go_ret;exact⟨zAc E.out.symm,H5.out.b⟩
  have HFX:=hid hfx;clear HW hfx WARM
  have TY:(zAb typ (min 1 types) types=true∧((into=3∧(typ=1∨typ=2))∨((into==3)=false∧typ=0)))∨(zAb typ (min 1 types) types=false∧((into=3∧(typ==1)=false∧(typ != 1)=true∧(typ==2)=false∧(typ != 2)=true)∨((into==3)=false∧(typ==0)=false∧(typ != 0)=true))):=by
   rcases HT.out with⟨a1,a2⟩|⟨a1,a2⟩
   ·subst a1 a2
    by_cases h1:typ=1
    ·exact .inl ⟨by rw[h1];rfl,.inl ⟨rfl,.inl h1⟩⟩
    ·by_cases h2:typ=2
     ·exact .inl ⟨by rw[h2];rfl,.inl ⟨rfl,.inr h2⟩⟩
     ·refine .inr ⟨?_,.inl ⟨rfl,by simpa using h1,by simpa using h1,by simpa using h2,by simpa using h2⟩⟩
      rw[←Bool.not_eq_true];intro h;have:=within_ok' h;omega
   ·subst a2
    by_cases h1:typ=0
    ·exact .inl ⟨by rw[h1];rfl,.inr ⟨by simpa using a1,h1⟩⟩
    ·refine .inr ⟨?_,.inr ⟨by simpa using a1,by simpa using h1,by simpa using h1⟩⟩
     rw[←Bool.not_eq_true];intro h;have:=within_ok' h;omega
  generalize zAb typ (min 1 types) types=ty at TY HFX;clear HT;go_upto_region 9 with(go_at_call 53;refine(HWI.out _ _ _ _).mono ?_;rintro e w' ⟨rfl,rfl⟩)
  go_cut [71] (fun v wx=>v=.bool (!ty)∧RBL r w 149 gx cs wx)
  case first=>
   rcases TY with⟨rfl,(⟨rfl,rfl|rfl⟩|⟨t1,rfl⟩)⟩|⟨rfl,(⟨rfl,t2,t3,t4,t5⟩|⟨t1,t2,t3⟩)⟩
   all_goals
    try rw[t1]at IN
    go_wp2;go_meet;exact⟨rfl,H5.out⟩
  case rest=>
  obtain⟨hv5,h5⟩:=hcut;subst hv5;replace H5:=hid h5;clear h5 TY IN x0 x1 x2 x3 x4;cases ty with
  |false=>
   have E:Hid (res=1):=hid (by
    have q:fx=1:=HFX.out
    rw[HR5.out (by rw[q];decide),q])
   go_wp2;go_ret;exact⟨zAc E.out.symm,H5.out.b⟩
  |true=>
  have HFM:Hid (fx=if zAu (fun y:RMap=>y.name) r.maps map then 5 else 0):=hid HFX.out;clear HFX
  have MP:(map=[]∧(str map).toList=[]∧zAu (fun y:RMap=>y.name) r.maps map=false)∨(map≠[]∧((str map).toList==[])=false∧((str map).toList != [])=true∧decide (idxF (fun y=>y.name==map) r.maps 0<0)=zAu (fun y:RMap=>y.name) r.maps map):=by
   by_cases hm:map=[]
   ·exact .inl ⟨hm,by rw[hm,zAe],by rw[hm];rfl⟩
   ·refine .inr ⟨hm,(zCe hm).2.1,(zCe hm).2.2,?_⟩
    unfold zAu;rw[(zCe hm).1];rfl
  generalize zAu (fun y:RMap=>y.name) r.maps map=lk at MP HFM;have CM:=hid (CG.out _ H5.out);go_upto_region 11 with fail
  go_cut [81] (fun v wx=>v=.bool lk∧RBL r w 149 gx cs wx)
  case first=>
   have x3:=CM.out;rcases MP with⟨rfl,m2,rfl⟩|⟨m1,m2,m3,m4⟩
   ·go_wp2_with fail
    go_meet;exact⟨rfl,H5.out⟩
   ·go_wp2_with (first|(refine zAa rfl 41 _ rfl rfl H5.out.h.range Tryz.rowRt Tryz.sizeRt ?_)|(refine zAj (by rfl) (zAa rfl 41 _ rfl rfl H5.out.h.range Tryz.rowRt Tryz.sizeRt ?_)))
    with_reducible refine(LK.out _ H5.out).mono ?_
    rintro e wz ⟨rfl,hb⟩;have HZ:=hid (H5.out.keep hb);clear hb x3 CM;go_wp2;go_meet;exact⟨rfl,HZ.out⟩
  case rest=>
  obtain⟨hv5,h5⟩:=hcut;subst hv5;have HZ:=hid h5;clear h5 H5 MP LK CM CG;cases lk with
  |true=>
   have E:Hid (res=5):=hid (by
    have q:fx=5:=HFM.out
    rw[HR5.out (by rw[q];decide),q])
   go_wp2;go_ret;exact⟨zAc E.out.symm,HZ.out.b⟩
  |false=>
  have HT1:=hid (HT0.out HFM.out);clear HT0 HR5 HFM;go_wp2;go_loopg [13] k (fun gh ix wq=>∃j:Nat,j+gh=k∧ix=.int .i64 j∧Hid (RBL r w 149 gx cs wq)∧Hid (∀i (hi:i<l.length),i<j→sx l[i]=false));case atStart=>exact⟨0,by omega,rfl,HZ,hid fun _ _ h=>absurd h (Nat.not_lt_zero _)⟩
  case round=>
   clear HZ;obtain⟨j,hj,rfl,HQ,HN⟩:=hrel;by_cases hjl:j<k;case pos=>
    have hjn:j<l.length:=by omega
    have hjz:(j:Int)<(k:Int):=by omega
    have hjm:(j:Int)<(l.length:Int):=by omega
    obtain⟨g', o', c'', e',-,hg', R0⟩:=HS.out.elem (n:=5) (by decide) (fun _=>rfl) hjn;injection e' with e1 e2 e3
    injection e1 with e1
    injection e1 with e1 e4
    subst e1 e4;have y0:wr.cell? ⟨g,o+j*5,none⟩=some (.int .i64 l[j].frm):=zAf R0 (HQ.out.b.mono HBB.out) hg' 0 _ rfl;have x0:=CF.out wr HQ.out;have HH:Hid (sx l[j]=true→res=4):=hid fun h=>by rw[HT1.out,zFt hjn hjl h];rfl
    have HM:Hid (sx l[j]=false→∀i (hi:i<l.length),i<j+1→sx l[i]=false):=hid fun h i hi hlt=>by
     rcases Nat.lt_or_ge i j with h1|h1
     ·exact HN.out i hi h1
     ·obtain rfl:i=j:=by omega
      exact h
    have hs:(l[j].frm==frm)=sx l[j]:=(HSX.out _).symm;generalize l[j].frm=yf at y0 hs;generalize sx l[j]=b0 at hs HH HM;clear R0 e2 e3 HN;have HQ2:=hid (HQ.out.keep (zAs wr));cases b0 with
    |true=>
     have E:=hid (HH.out rfl);clear HH HM;go_wp2_with fail;go_still (by kernel_rfl);go_wp2;go_ret;exact⟨zAc E.out.symm,HQ2.out.b⟩
    |false=>
    have HN3:=hid (HM.out rfl);clear HH HM;go_wp2_with fail;go_still (by kernel_rfl);go_wp2;go_roundg (k - (j+1));case measure=>omega
    case rel=>exact⟨j+1,by omega,by go_num,HQ2,HN3⟩
   have hjz:¬((j:Int)<(k:Int)):=by omega
   obtain rfl:j=k:=by omega
   have EN:Hid (zAt (redF r.maps into least most types) zCi 4 l (l.drop (j+1)) (j+1)=res):=hid (by rw[HT1.out,zFu (by omega) HN.out];rfl);go_wp2;go_roundg (l.length - (j+1));case measure=>omega
   case rel=>exact⟨j+1,by omega,by go_num,hid ⟨HQ.out.h,HQ.out.b⟩,EN⟩
theorem dv_ways(r:Rt):(r.dvOn=false∧dvE r=1∧NZ r.dvAdmin)∨(r.dvOn=false∧dvE r=1∧r.dvAdmin=0∧r.dvIn.isEmpty=false∧((str r.dvIn).toList==[])=false∧((str r.dvIn).toList != [])=true)∨(r.dvOn=false∧dvE r=1∧r.dvAdmin=0∧r.dvIn=[]∧r.dvOut.isEmpty=false∧((str r.dvOut).toList==[])=false∧((str r.dvOut).toList != [])=true)∨(r.dvOn=false∧dvE r=1∧r.dvAdmin=0∧r.dvIn=[]∧r.dvOut=[]∧(0:Int)<(r.dvRed.length:Int))∨(r.dvOn=false∧dvE r=0∧r.dvAdmin=0∧r.dvIn=[]∧r.dvOut=[]∧r.dvRed.length=0)∨(r.dvOn=true∧dvE r=1∧zAb r.dvAdmin 1 255=false) ∨
  (r.dvOn=true∧zAb r.dvAdmin 1 255=true∧(((r.dvIn≠[]∧decide (idxF (fun y=>y.name==r.dvIn) r.lists 0<0)=true)∨(r.dvOut≠[]∧decide (idxF (fun y=>y.name==r.dvOut) r.lists 0<0)=true)→dvE r=5) ∧
   ((r.dvIn=[]∨decide (idxF (fun y=>y.name==r.dvIn) r.lists 0<0)=false)→(r.dvOut=[]∨decide (idxF (fun y=>y.name==r.dvOut) r.lists 0<0)=false)→redE r.maps 4 1 15 0 r.dvRed=dvE r))):=by
 unfold dvE;cases ho:r.dvOn with
 |false=>
  rw[if_neg (by decide)];by_cases h1:r.dvAdmin=0;case neg=>exact .inl ⟨rfl,by simp[h1],nzI h1⟩
  by_cases h2:r.dvIn=[];case neg=>exact .inr (.inl ⟨rfl,by simp[h2],h1,zCe h2⟩)
  by_cases h3:r.dvOut=[];case neg=>exact .inr (.inr (.inl ⟨rfl,by simp[h3],h1,h2,zCe h3⟩))
  by_cases h4:r.dvRed.length=0
  ·exact .inr (.inr (.inr (.inr (.inl ⟨rfl,by rw[h1,h2,h3,h4];rfl,h1,h2,h3,h4⟩))))
  ·exact .inr (.inr (.inr (.inl ⟨rfl,by rw[if_pos];rw[show decide ((0:Int)<r.dvRed.length)=true by simp;omega,Bool.or_true],h1,h2,h3,by omega⟩)))
 |true=>
  rw[if_pos rfl];cases hw:zAb r.dvAdmin 1 255 with
  |false=>exact .inr (.inr (.inr (.inr (.inr (.inl ⟨rfl,rfl,rfl⟩)))))
  |true=>
   refine .inr (.inr (.inr (.inr (.inr (.inr ⟨rfl,rfl,fun h=>?_,fun h1 h2=>?_⟩)))))
   ·unfold dnF
    rcases h with h|h
    ·rw[(zFd (name:=fun y:PList=>y.name)).1 h];rfl
    ·rw[(zFd (name:=fun y:PList=>y.name) (l:=r.lists) (n:=r.dvOut)).1 h,Bool.or_true];rfl
   ·unfold dnF
    rw[(zFd (name:=fun y:PList=>y.name)).2 h1,(zFd (name:=fun y:PList=>y.name)).2 h2];rfl
theorem rdistance_all(r:Rt)(w:World)(B:Nat)(hB:B≤w.heap.size)(h:r.at w B):Calls Tryz.prog 62 #[.agg r.C] w fun e w' => e=.returned (.int .i64 (dvE r))∧Below w.heap.size w w' := by
 have HBB:=hid hB;have H0:=RB.start r w;have HR:=hid h;have HWI:=hid zCd;obtain⟨A2,c2,hv2,-⟩:=id h.hdvRed;have HLR:=h.hdvRed;rw[hv2]at HLR;replace HLR:=hid HLR;have HW:=hid (dv_ways r);generalize dvE r=res at HW⊢
 have HO:(#[.bool r.dvOn,.int .i64 r.dvAdmin,.string (str r.dvIn),.string (str r.dvOut),.slice A2 r.dvRed.length c2]:Array Value).all (·.oneCell')=true:=by
  rw[Array.all_eq_true_iff_forall_mem];intro v hv;simp only[List.mem_toArray,List.mem_cons,List.not_mem_nil,or_false]at hv;rcases hv with rfl|rfl|rfl|rfl|rfl<;>rfl
 have HSh:=hid (H0.h.subM 12 #[.bool r.dvOn,.int .i64 r.dvAdmin,.string (str r.dvIn),.string (str r.dvOut),.slice A2 r.dvRed.length c2] (fun j hj=>by
  have hj' : j<5:=hj
  rcases(show j=0∨j=1∨j=2∨j=3∨j=4 by omega)with rfl|rfl|rfl|rfl|rfl<;>first|rfl|(show some _=some _;simp only[Option.some.injEq];assumption)))
 have H0h:=hid H0;clear H0 hv2 h hB;go_enter Tryz.func62,Tryz.ntmps62;go_upto_region 2 with(refine zAa rfl 33 _ rfl rfl HSh.out Tryz.rowDV Tryz.sizeDV ?_)
 have H5:Hid (RBL r w 33 (w.alloc (.cells r.C 41)).heap.size #[.bool r.dvOn,.int .i64 r.dvAdmin,.string (str r.dvIn),.string (str r.dvOut),.slice A2 r.dvRed.length c2] ((w.alloc (.cells r.C 41)).alloc (.cells #[.bool r.dvOn,.int .i64 r.dvAdmin,.string (str r.dvIn),.string (str r.dvOut),.slice A2 r.dvRed.length c2] 33))):=hid ⟨(H0h.out.keep ((Below.refl _ _).alloc (Nat.le_refl _) _)).h,(H0h.out.keep ((Below.refl _ _).alloc (Nat.le_refl _) _)).b,HasC.new _ _ _⟩;clear H0h HSh HO;generalize hw5:(w.alloc (.cells r.C 41)).alloc (.cells #[.bool r.dvOn,.int .i64 r.dvAdmin,.string (str r.dvIn),.string (str r.dvOut),.slice A2 r.dvRed.length c2] 33)=w5 at H5⊢;clear hw5;rw[show(w.alloc (.cells r.C 41)).heap.size=w.heap.size+1 from by simp]at H5;generalize w.heap.size+1=gl at H5⊢;obtain⟨lc0,lc1⟩:=bl2 H5.out.l;have lc2:w5.cell? ⟨gl,2,none⟩=some (.string (str r.dvIn)):=H5.out.l.cell 2;have lc3:w5.cell? ⟨gl,3,none⟩=some (.string (str r.dvOut)):=H5.out.l.cell 3;have lc4:=cl4 H5.out.l;have WARM:True:=trivial;have tn:=zAe ([]:List UInt8);have hlm:=HLR.out.len;unfold maxLen at hlm;rcases HW.out with⟨o1,E,v1,v2⟩|⟨o1,E,o2,v3,v4,v5⟩|⟨o1,E,o2,o3,v3,v4,v5⟩|⟨o1,E,o2,o3,o4,v9⟩|⟨o1,E,o2,o3,o4,o5⟩|⟨o1,E,v1⟩|⟨o1,o2,DW⟩
 case' inr.inr.inr.inr.inr.inr=>
  have OW:=hid DW;clear DW lc2 lc3 lc4 WARM tn
 all_goals
  first
   | (replace E := hid E
      clear HW HR HLR;rw[o1]at lc0
      try rw[o2]at lc1
      try rw[o3]at lc2
      try rw[o4]at lc3
      try rw[o5]at lc4
      go_wp2_with (go_at_call 53;refine(HWI.out _ _ _ _).mono ?_;rintro e w' ⟨rfl,rfl⟩);go_ret
      exact⟨zAc E.out.symm,H5.out.b⟩)
   |skip
 rw[o1]at lc0;have HLT:Hid (∀w', RBL r w 33 gl #[.bool r.dvOn,.int .i64 r.dvAdmin,.string (str r.dvIn),.string (str r.dvOut),.slice A2 r.dvRed.length c2] w' → w'.cell? ⟨gl,4,none⟩=some (.slice A2 r.dvRed.length c2)):=hid (fun w' h=>h.l.cell 4);clear HW;have y2:w5.cell? ⟨gl,2,none⟩=some (.string (str r.dvIn)):=H5.out.l.cell 2;by_cases hn6:r.dvIn=[]
 ·rw[hn6]at y2
  have tn6:=zAe ([]:List UInt8);have y3:w5.cell? ⟨gl,3,none⟩=some (.string (str r.dvOut)):=H5.out.l.cell 3;by_cases hn7:r.dvOut=[]
  ·rw[hn7]at y3
   have tn7:=zAe ([]:List UInt8);have lz:=HLT.out _ H5.out;go_wp2_with (first|(go_at_call 53;refine(HWI.out _ _ _ _).mono ?_;rintro e w' ⟨rfl,rfl⟩)|(first|(refine zAa rfl 41 _ rfl rfl H5.out.h.range Tryz.rowRt Tryz.sizeRt ?_)|(refine zAj (by rfl) (zAa rfl 41 _ rfl rfl H5.out.h.range Tryz.rowRt Tryz.sizeRt ?_))));have EF:=hid (OW.out.2 (.inl hn6) (.inl hn7));with_reducible refine(zHd r r.dvRed (.slice A2 r.dvRed.length c2) 4 1 15 0 (.inr ⟨by decide,rfl⟩) w5 B (Nat.le_trans HBB.out H5.out.b.size) (HR.out.below (H5.out.b.mono HBB.out)) (HLR.out.below (H5.out.b.mono HBB.out))).mono ?_
   rintro e wz ⟨rfl,hb⟩;have HZ:=hid (H5.out.keep hb);clear hb lz;go_wp2;go_ret;exact⟨zAc EF.out,HZ.out.b⟩
  obtain⟨i7,j7,k7⟩:=zCe hn7;go_wp2_with (first|(go_at_call 53;refine(HWI.out _ _ _ _).mono ?_;rintro e w' ⟨rfl,rfl⟩)|(first|(refine zAa rfl 41 _ rfl rfl H5.out.h.range Tryz.rowRt Tryz.sizeRt ?_)|(refine zAj (by rfl) (zAa rfl 41 _ rfl rfl H5.out.h.range Tryz.rowRt Tryz.sizeRt ?_))));with_reducible refine(zEx r r.dvOut w5 B (HR.out.below (H5.out.b.mono HBB.out)) (Nat.le_trans HBB.out H5.out.b.size)).mono ?_
  rintro e w7 ⟨rfl,hb⟩;have H7:=hid (H5.out.keep hb);clear hb y3 i7 j7 k7;cases d7:decide (idxF (fun y:PList=>y.name==r.dvOut) r.lists 0<0)with
  |true=>
   have E:Hid (res=5):=hid (OW.out.1 (.inr ⟨hn7,d7⟩));go_wp2;go_ret;exact⟨zAc E.out.symm,H7.out.b⟩
  |false=>
  have lz:=HLT.out _ H7.out;go_wp2_with (first|(go_at_call 53;refine(HWI.out _ _ _ _).mono ?_;rintro e w' ⟨rfl,rfl⟩)|(first|(refine zAa rfl 41 _ rfl rfl H7.out.h.range Tryz.rowRt Tryz.sizeRt ?_)|(refine zAj (by rfl) (zAa rfl 41 _ rfl rfl H7.out.h.range Tryz.rowRt Tryz.sizeRt ?_))));have EF:=hid (OW.out.2 (.inl hn6) (.inr d7));with_reducible refine(zHd r r.dvRed (.slice A2 r.dvRed.length c2) 4 1 15 0 (.inr ⟨by decide,rfl⟩) w7 B (Nat.le_trans HBB.out H7.out.b.size) (HR.out.below (H7.out.b.mono HBB.out)) (HLR.out.below (H7.out.b.mono HBB.out))).mono ?_
  rintro e wz ⟨rfl,hb⟩;have HZ:=hid (H7.out.keep hb);clear hb lz;go_wp2;go_ret;exact⟨zAc EF.out,HZ.out.b⟩
 obtain⟨i6,j6,k6⟩:=zCe hn6;go_wp2_with (first|(go_at_call 53;refine(HWI.out _ _ _ _).mono ?_;rintro e w' ⟨rfl,rfl⟩)|(first|(refine zAa rfl 41 _ rfl rfl H5.out.h.range Tryz.rowRt Tryz.sizeRt ?_)|(refine zAj (by rfl) (zAa rfl 41 _ rfl rfl H5.out.h.range Tryz.rowRt Tryz.sizeRt ?_))));with_reducible refine(zEx r r.dvIn w5 B (HR.out.below (H5.out.b.mono HBB.out)) (Nat.le_trans HBB.out H5.out.b.size)).mono ?_
 rintro e w6 ⟨rfl,hb⟩;have H6:=hid (H5.out.keep hb);clear hb y2 i6 j6 k6;cases d6:decide (idxF (fun y:PList=>y.name==r.dvIn) r.lists 0<0)with
 |true=>
  have E:Hid (res=5):=hid (OW.out.1 (.inl ⟨hn6,d6⟩));go_wp2;go_ret;exact⟨zAc E.out.symm,H6.out.b⟩
 |false=>
 have y3:w6.cell? ⟨gl,3,none⟩=some (.string (str r.dvOut)):=H6.out.l.cell 3;by_cases hn7:r.dvOut=[]
 ·rw[hn7]at y3
  have tn7:=zAe ([]:List UInt8);have lz:=HLT.out _ H6.out;go_wp2_with (first|(go_at_call 53;refine(HWI.out _ _ _ _).mono ?_;rintro e w' ⟨rfl,rfl⟩)|(first|(refine zAa rfl 41 _ rfl rfl H6.out.h.range Tryz.rowRt Tryz.sizeRt ?_)|(refine zAj (by rfl) (zAa rfl 41 _ rfl rfl H6.out.h.range Tryz.rowRt Tryz.sizeRt ?_))));have EF:=hid (OW.out.2 (.inr d6) (.inl hn7));with_reducible refine(zHd r r.dvRed (.slice A2 r.dvRed.length c2) 4 1 15 0 (.inr ⟨by decide,rfl⟩) w6 B (Nat.le_trans HBB.out H6.out.b.size) (HR.out.below (H6.out.b.mono HBB.out)) (HLR.out.below (H6.out.b.mono HBB.out))).mono ?_
  rintro e wz ⟨rfl,hb⟩;have HZ:=hid (H6.out.keep hb);clear hb lz;go_wp2;go_ret;exact⟨zAc EF.out,HZ.out.b⟩
 obtain⟨i7,j7,k7⟩:=zCe hn7;go_wp2_with (first|(go_at_call 53;refine(HWI.out _ _ _ _).mono ?_;rintro e w' ⟨rfl,rfl⟩)|(first|(refine zAa rfl 41 _ rfl rfl H6.out.h.range Tryz.rowRt Tryz.sizeRt ?_)|(refine zAj (by rfl) (zAa rfl 41 _ rfl rfl H6.out.h.range Tryz.rowRt Tryz.sizeRt ?_))));with_reducible refine(zEx r r.dvOut w6 B (HR.out.below (H6.out.b.mono HBB.out)) (Nat.le_trans HBB.out H6.out.b.size)).mono ?_
 rintro e w7 ⟨rfl,hb⟩;have H7:=hid (H6.out.keep hb);clear hb y3 i7 j7 k7;cases d7:decide (idxF (fun y:PList=>y.name==r.dvOut) r.lists 0<0)with
 |true=>
  have E:Hid (res=5):=hid (OW.out.1 (.inr ⟨hn7,d7⟩));go_wp2;go_ret;exact⟨zAc E.out.symm,H7.out.b⟩
 |false=>
 have lz:=HLT.out _ H7.out;go_wp2_with (first|(go_at_call 53;refine(HWI.out _ _ _ _).mono ?_;rintro e w' ⟨rfl,rfl⟩)|(first|(refine zAa rfl 41 _ rfl rfl H7.out.h.range Tryz.rowRt Tryz.sizeRt ?_)|(refine zAj (by rfl) (zAa rfl 41 _ rfl rfl H7.out.h.range Tryz.rowRt Tryz.sizeRt ?_))));have EF:=hid (OW.out.2 (.inr d6) (.inr d7));with_reducible refine(zHd r r.dvRed (.slice A2 r.dvRed.length c2) 4 1 15 0 (.inr ⟨by decide,rfl⟩) w7 B (Nat.le_trans HBB.out H7.out.b.size) (HR.out.below (H7.out.b.mono HBB.out)) (HLR.out.below (H7.out.b.mono HBB.out))).mono ?_
 rintro e wz ⟨rfl,hb⟩;have HZ:=hid (H7.out.keep hb);clear hb lz;go_wp2;go_ret;exact⟨zAc EF.out,HZ.out.b⟩
theorem RB.range{r:Rt}{w0 w:World}(h:RB r w0 w):w.rangeAt w0.heap.size 0 r.C.toList:=h.h.range
theorem nb_ways{maps:List RMap}(x:Nb):(nbF maps x=1∧((x.addr:Int)==0)=true)∨(nbF maps x=1∧((x.addr:Int)==0)=false∧zAb x.asn 1 65535=false)∨(((x.addr:Int)==0)=false∧zAb x.asn 1 65535=true∧nbF maps x=if zAu (fun y:RMap=>y.name) maps x.inn||zAu (fun y:RMap=>y.name) maps x.out then 5 else 0):=by
 unfold nbF;by_cases h:x.addr=0
 ·exact .inl ⟨by rw[h];rfl,by simp[h]⟩
 have h0:(x.addr==0)=false:=by simpa using h
 have h1:((x.addr:Int)==0)=false:=by simp;omega
 rw[h0,h1];cases zAb x.asn 1 65535 with
 |false=>exact .inr (.inl ⟨rfl,rfl,rfl⟩)
 |true=>exact .inr (.inr ⟨rfl,rfl,rfl⟩)
theorem nb_str{l:List RMap}(n:List UInt8):(n=[]∧zAu (fun y:RMap=>y.name) l n=false)∨(((str n).toList==[])=false∧((str n).toList != [])=true∧decide (idxF (fun y=>y.name==n) l 0<0)=zAu (fun y:RMap=>y.name) l n):=by
 by_cases hm:n=[]
 ·exact .inl ⟨hm,by rw[hm];rfl⟩
 ·refine .inr ⟨(zCe hm).2.1,(zCe hm).2.2,?_⟩
  unfold zAu;rw[(zCe hm).1];rfl
theorem rneighbors_all(r:Rt)(w:World)(B:Nat)(hB:B≤w.heap.size)(h:r.at w B):Calls Tryz.prog 111 #[.agg r.C] w fun e w' => e=.returned (.int .i64 (nbsE r.maps r.nb))∧Below w.heap.size w w' := by
 have HBB:=hid hB;have HR:=hid h;have HB:=hid (RB.start r w);have HWI:=hid zCd;have hl:=h.hnb;have hlen:=hl.len;simp only[maxLen]at hlen;have c20:(w.alloc (.cells r.C 41)).cell? ⟨w.heap.size,20,none⟩=some r.nbV:=HB.out.h.cell 20;generalize r.nb=l at *;obtain⟨A,c,hv,-⟩:=id hl;rw[hv]at hl c20;have HS:=hid hl;clear h hl hv;obtain⟨res,hres⟩:∃res,nbsE r.maps l=res:=⟨_,rfl⟩;rw[hres];by_cases h8:8<l.length
 ·have E:Hid (res=7):=hid (by rw[←hres];exact if_pos h8)
  have d8:(8:Int)<(l.length:Int):=by omega
  clear hres;go_enter Tryz.func111,Tryz.ntmps111;go_wp2;go_ret;exact⟨zAc E.out.symm,HB.out.b⟩
 have d8:¬((8:Int)<(l.length:Int)):=by omega
 have E:Hid (zAt (nbF r.maps) zBf 4 l l 0=res):=hid (by rw[←hres];exact(if_neg h8).symm);clear hres;go_enter Tryz.func111,Tryz.ntmps111;go_wp2_with fail;clear d8 c20;go_loopg [4] l.length (fun gh ix wr=>∃k:Nat,k+gh=l.length∧ix=.int .i64 k∧Hid (RB r w wr)∧Hid (zAt (nbF r.maps) zBf 4 l (l.drop k) k=res));case atStart=>exact⟨0,by omega,rfl,HB,E⟩
 case round=>
  clear HB E;obtain⟨k,hk,rfl,HB,HG⟩:=hrel;by_cases hlt:k<l.length;case neg=>
   have hkz:¬((k:Int)<(l.length:Int)):=by omega
   have E:=hid (zCb hlt HG.out);go_wp2;go_ret;exact⟨zAc E.out.symm,HB.out.b⟩
  have hkz:(k:Int)<(l.length:Int):=by omega
  obtain⟨g,o,c', e',-,hg,R0⟩:=HS.out.elem (n:=4) (by decide) (fun _=>rfl) hlt;injection e' with e1 e2 e3
  subst e1 e3;have HPA:=zCk hlt HG.out;have HR5:Hid (nbF r.maps l[k]≠0→res=nbF r.maps l[k]):=hid (zBe HPA);have HT0:Hid (nbF r.maps l[k]=0→res=if(l.take k).any (zBf l[k])then 4 else zAt (nbF r.maps) zBf 4 l (l.drop (k+1)) (k+1)):=hid (zDg HPA);clear HPA HG;have XA:Hid (∀W,RB r w W→W.cell? ⟨g,o+k*4,none⟩=some (.int .u32 (l[k].addr:Int))∧W.cell? ⟨g,o+k*4+1,none⟩=some (.int .i64 l[k].asn)∧W.cell? ⟨g,o+k*4+2,none⟩=some (.string (str l[k].inn))∧W.cell? ⟨g,o+k*4+3,none⟩=some (.string (str l[k].out))):=hid (fun W h=>have hb:=h.b.mono HBB.out;⟨(hb.cell (p:=⟨g,o+k*4,none⟩) hg).trans (R0 0 _ rfl),(hb.cell (p:=⟨g,o+k*4+1,none⟩) hg).trans (R0 1 _ rfl),(hb.cell (p:=⟨g,o+k*4+2,none⟩) hg).trans (R0 2 _ rfl),(hb.cell (p:=⟨g,o+k*4+3,none⟩) hg).trans (R0 3 _ rfl)⟩);clear R0 e2;generalize l[k]=x at *;have HW:=hid (nb_ways (maps:=r.maps) x);have HSX:Hid (∀y,zBf x y=(y.addr==x.addr)):=hid fun _=>rfl
  generalize zBf x=sx at HT0 HSX;generalize nbF r.maps x=fx at HR5 HT0 HW;have E1:Hid (fx=1→res=1):=hid fun q=>by rw[HR5.out (by rw[q];decide),q]
  have E5:Hid (fx=5→res=5):=hid fun q=>by rw[HR5.out (by rw[q];decide),q]
  obtain⟨addr,asn,inn,out⟩:=x;dsimp only at XA HW HSX;obtain⟨xa,xs,xi,xo⟩:=XA.out wr HB.out;rcases HW.out with⟨hfx,v1⟩|⟨hfx,v1,k2⟩|⟨v1,k2,hfx⟩
  iterate 2
   ·have E:=hid (E1.out hfx)
    clear hfx HT0 HR5 HW HSX;go_wp2_with (go_at_call 53;refine(HWI.out _ _ _ _).mono ?_;rintro e w' ⟨rfl,rfl⟩);go_ret;exact⟨zAc E.out.symm,HB.out.b⟩
  have HNF:=hid hfx;clear hfx HW E1 HR5;go_wp2_with (go_at_call 53;refine(HWI.out _ _ _ _).mono ?_;rintro e w' ⟨rfl,rfl⟩);clear xa xs xi xo v1 k2;have LI:=hid (fun W (h:RB r w W)=>zGk r inn W B (HR.out.below (h.b.mono HBB.out)) (Nat.le_trans HBB.out h.b.size));have LO:=hid (fun W (h:RB r w W)=>zGk r out W B (HR.out.below (h.b.mono HBB.out)) (Nat.le_trans HBB.out h.b.size));have SI:=nb_str (l:=r.maps) inn;have SO:=nb_str (l:=r.maps) out;generalize zAu (fun y:RMap=>y.name) r.maps inn=b1 at SI HNF;generalize zAu (fun y:RMap=>y.name) r.maps out=b2 at SO HNF;have tn:=zAe ([]:List UInt8);refine zAo (fun W=>RB r w W) (by kernel_rfl) (by kernel_rfl) (HB.out.keep (zAs wr)) ?_;rcases SI with⟨rfl,rfl⟩|⟨s1,s2,s3⟩
  case' inr=>cases b1
  all_goals rcases SO with⟨rfl,rfl⟩|⟨u1,u2,u3⟩
  all_goals try cases b2
  all_goals
   repeat
    (first
     |(refine zIs ?_ ?_;(· rfl))
     |refine zGd (zGc (by rfl) 41 _ rfl rfl (fun W hW=>RB.range hW) Tryz.rowRt Tryz.sizeRt) ?_
     |(refine zBd (v:=?_) ?_ ?_ ?_;rotate_left;(· rfl);(· (intro W hW;obtain⟨xa,xs,xi,xo⟩:=XA.out W hW;go_simp<;>rfl)))
     |(refine zAm ?_ ?_ (fun W hW=>(LI.out W hW).mono fun e w' ⟨he,hb⟩=>⟨he,hW.keep hb⟩) ?_;(· rfl);(· (intro W hW;go_simp<;>rfl)))
     |(refine zAm ?_ ?_ (fun W hW=>(LO.out W hW).mono fun e w' ⟨he,hb⟩=>⟨he,hW.keep hb⟩) ?_;(· rfl);(· (intro W hW;go_simp<;>rfl))))
    simp only[Act.put,List.setIfInBounds_toArray,List.set_cons_zero,List.set_cons_succ]
   refine zBo (fun wq hS=>?_);have HZ:=hid hS;clear hS LI LO HB;go_wp2_with fail
   first
    | (have E := hid (E5.out HNF.out)
       go_ret
       exact⟨zAc E.out.symm,HZ.out.b⟩)
    |skip
  all_goals
   have HT1:=hid (HT0.out HNF.out);clear HT0 HNF E5;go_loopg [5] k (fun gh ix wq=>∃j:Nat,j+gh=k∧ix=.int .i64 j∧Hid (RB r w wq)∧Hid (∀i (hi:i<l.length),i<j→sx l[i]=false));case atStart=>exact⟨0,by omega,rfl,HZ,hid fun _ _ h=>absurd h (Nat.not_lt_zero _)⟩
   case round=>
    clear HZ;obtain⟨j,hj,rfl,HQ,HN⟩:=hrel;obtain⟨xa,xs,xi,xo⟩:=XA.out wr HQ.out;by_cases hjl:j<k;case pos=>
     have hjn:j<l.length:=by omega
     have hjz:(j:Int)<(k:Int):=by omega
     have hjm:(j:Int)<(l.length:Int):=by omega
     obtain⟨g', o', c'', e',-,hg', R0⟩:=HS.out.elem (n:=4) (by decide) (fun _=>rfl) hjn;injection e' with e1 e2 e3
     injection e1 with e1
     injection e1 with e1 e4
     subst e1 e4;have y0:wr.cell? ⟨g,o+j*4,none⟩=some (.int .u32 (l[j].addr:Int)):=zAf R0 (HQ.out.b.mono HBB.out) hg' 0 _ rfl;have HH:Hid (sx l[j]=true→res=4):=hid fun h=>by rw[HT1.out,zFt hjn hjl h];rfl
     have HM:Hid (sx l[j]=false→∀i (hi:i<l.length),i<j+1→sx l[i]=false):=hid fun h i hi hlt=>by
      rcases Nat.lt_or_ge i j with h1|h1
      ·exact HN.out i hi h1
      ·obtain rfl:i=j:=by omega
       exact h
     have hs:((l[j].addr:Int)==(addr:Int))=sx l[j]:=by
      rw[HSX.out,Bool.eq_iff_iff];simp;omega
     generalize l[j].addr=ya at y0 hs;generalize sx l[j]=b0 at hs HH HM;clear R0 e2 e3 HN;have HQ2:=hid (HQ.out.keep (zAs wr));cases b0 with
     |true=>
      have E:=hid (HH.out rfl);clear HH HM;go_wp2_with fail;go_still (by kernel_rfl);go_wp2;go_ret;exact⟨zAc E.out.symm,HQ2.out.b⟩
     |false=>
     have HN3:=hid (HM.out rfl);clear HH HM;go_wp2_with fail;go_still (by kernel_rfl);go_wp2;go_roundg (k - (j+1));case measure=>omega
     case rel=>exact⟨j+1,by omega,by go_num,HQ2,HN3⟩
    have hjz:¬((j:Int)<(k:Int)):=by omega
    obtain rfl:j=k:=by omega
    have EN:Hid (zAt (nbF r.maps) zBf 4 l (l.drop (j+1)) (j+1)=res):=hid (by rw[HT1.out,zFu (by omega) HN.out];rfl);go_wp2;go_roundg (l.length - (j+1));case measure=>omega
    case rel=>exact⟨j+1,by omega,by go_num,HQ,EN⟩
end Go.Proofs.YthcnojmldldpeaaGreatDoor
