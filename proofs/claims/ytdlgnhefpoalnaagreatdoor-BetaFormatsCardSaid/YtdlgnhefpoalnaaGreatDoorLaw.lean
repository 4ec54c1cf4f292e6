/- The reference's translations, of any router. Conditions: the router lies in memory, addresses are numbers below 2^32. -/
import Derived.Test.YtdlgnhefpoalnaaGreatDoorLav
set_option maxHeartbeats 8000000
set_option maxRecDepth 100000
namespace Go.Proofs.YtdlgnhefpoalnaaGreatDoor
open Lib (hid)
open Go.RowKit
theorem list_ways{k first size most X inner res:Int}{name:List UInt8}(h:res=if listE k first name size most=0 then(if inner=0 then X else inner)else listE k first name size most) :
  (nameB name=false∧res=3)∨(nameB name=true∧res=if first<k then 4 else if size=0 then 1 else if most<size then 7 else if inner=0 then X else inner):=by
 subst h;cases hn:nameB name with
 |false=>exact .inl ⟨rfl,by simp[listE,hn]⟩
 |true=>
  refine .inr ⟨rfl,?_⟩;simp only[listE,hn,Bool.not_true,Bool.false_eq_true,if_false];split
  ·rfl
  ·split
   ·rfl
   ·split
    ·rfl
    ·rfl
theorem ru_ways{x:Ru}:(zAb x.proto (-1) 255=false∧zDl x=false)∨(zAb x.proto (-1) 255=true∧x.sa &&& x.sm≠0∧zDl x=false)∨(zAb x.proto (-1) 255=true∧x.sa &&& x.sm=0∧x.da &&& x.dm≠0∧zDl x=false)∨(zAb x.proto (-1) 255=true∧x.sa &&& x.sm=0∧x.da &&& x.dm=0∧zDl x=(zFf x.slo x.shi&&zFf x.dlo x.dhi&&(x.proto==6||x.proto==17||(allP x.slo x.shi&&allP x.dlo x.dhi)))):=by
 unfold zDl;cases zAb x.proto (-1) 255 with
 |false=>exact .inl ⟨rfl,rfl⟩
 |true=>
 by_cases h2:x.sa &&& x.sm=0
 ·by_cases h3:x.da &&& x.dm=0
  ·exact .inr (.inr (.inr ⟨rfl,h2,h3,by rw[h2,h3];rfl⟩))
  ·exact .inr (.inr (.inl ⟨rfl,h2,h3,by rw[h2,show(x.da &&& x.dm==0)=false by simpa using h3];rfl⟩))
 ·exact .inr (.inl ⟨rfl,h2,by rw[show(x.sa &&& x.sm==0)=false by simpa using h2];rfl⟩)
theorem rvru_any(x:Ru)(hx:x.fit)(w:World):Calls Tryz.prog 125 #[.agg x.C] w fun e w' => e=.returned (.bool (zDl x))∧Below w.heap.size w w' := by
 have HWI:=hid zCo;have HP:=hid rports_any;have HA:=hid rall_any;have H0:=hid (HasC.new w 144 x.C);have B0:=hid ((Below.refl w.heap.size w).alloc (yI _) (.cells x.C 144));obtain⟨f1,f2,f3,f4⟩:=hx;have b1:=u32_and_nat _ _ f1 f2;have b2:=u32_and_nat _ _ f3 f4;have W:=ru_ways (x:=x);generalize zDl x=R at W⊢;clear f1 f2 f3 f4;unfold Ru.C at H0 B0⊢;obtain⟨permit,proto,sa,sm,da,dm,slo,shi,dlo,dhi⟩:=x;dsimp only at *;have WARM:True:=trivial;rcases W with⟨q1,rfl⟩|⟨q1,q2,rfl⟩|⟨q1,q2,q3,rfl⟩|⟨q1,q2,q3,q4⟩
 case' inr.inl=>have d2:(((sa &&& sm:Nat):Int) != 0)=true:=by simp;omega
 case' inr.inr.inl=>
  rw[q2]at b1;have d2:(((da &&& dm:Nat):Int) != 0)=true:=by simp;omega
 case' inr.inr.inr=>
  rw[q2]at b1;rw[q3]at b2;have HQ:=hid q4;clear q4
 all_goals
  go_enter Tryz.func125,Tryz.ntmps125;go_wp2_with (go_at_call 51;refine(HWI.out _ _ _ _).mono ?_;rintro e w' ⟨rfl,rfl⟩)
 any_goals (go_ret;exact⟨rfl,B0.out⟩)
 clear q1 q2 q3 b1 b2;refine(HP.out slo shi _).mono ?_;rintro e w1 ⟨rfl,hb⟩;have H1:=hid (H0.out.keep hb);have B1:=hid (B0.out.trans (hb.mono (by simp)));have c8:=cl8 H1.out;have c9:=cl9 H1.out;clear hb H0 B0;generalize zFf slo shi=p1 at *;cases p1 with
 |false=>
  have E:Hid (R=false):=hid HQ.out;go_wp2;go_ret;exact⟨zAe E.out.symm,B1.out⟩
 |true=>
 go_wp2_with fail;refine(HP.out dlo dhi _).mono ?_;rintro e w2 ⟨rfl,hb⟩;have H2:=hid (H1.out.keep hb);have B2:=hid (B1.out.trans (hb.mono B1.out.size));clear hb H1 B1 c8 c9;generalize zFf dlo dhi=p2 at *;cases p2 with
 |false=>
  have E:Hid (R=false):=hid HQ.out;go_wp2;go_ret;exact⟨zAe E.out.symm,B2.out⟩
 |true=>
 obtain⟨-,c1,-,-,-,-,c6,c7⟩:=bl8 H2.out;by_cases h6:proto=6
 ·subst h6
  have E:Hid (R=true):=hid HQ.out;go_wp2;go_ret;exact⟨zAe E.out.symm,B2.out⟩
 have d6:(proto==6)=false:=by simpa using h6
 by_cases h17:proto=17
 ·subst h17
  have E:Hid (R=true):=hid HQ.out;go_wp2;go_ret;exact⟨zAe E.out.symm,B2.out⟩
 have d17:(proto==17)=false:=by simpa using h17
 have HL:Hid (R=(allP slo shi&&allP dlo dhi)):=hid (by rw[HQ.out,d6,d17];rfl);clear HQ h6 h17;go_wp2_with fail;refine(HA.out slo shi _).mono ?_;rintro e w3 ⟨rfl,hb⟩;have H3:=hid (H2.out.keep hb);have B3:=hid (B2.out.trans (hb.mono B2.out.size));clear hb H2 B2 c1 c6 c7;generalize allP slo shi=p3 at *;cases p3 with
 |false=>
  have E:Hid (R=false):=hid HL.out;go_wp2;go_ret;exact⟨zAe E.out.symm,B3.out⟩
 |true=>
 have c8:=cl8 H3.out;have c9:=cl9 H3.out;go_wp2_with fail;refine(HA.out dlo dhi _).mono ?_;rintro e w4 ⟨rfl,hb⟩;have E:Hid (R=allP dlo dhi):=hid (by rw[HL.out];rfl);have B4:=hid (B3.out.trans (hb.mono B3.out.size));clear hb;go_wp2;go_ret;exact⟨zAe E.out.symm,B4.out⟩
theorem zMp(l:List PList)(v:Value)(w:World)(B:Nat)(hB:B≤w.heap.size)(hl:SlV w B 2 PList.C v l)(hn:∀x∈l,x.at w B)(hf:∀x∈l,x.fit):Calls Tryz.prog 53 #[v] w fun e w' => e=.returned (.int .i64 (plsE l))∧Below w.heap.size w w' := by
 have HBB:=hid hB;have HN:=hid hn;have HF:=hid hf;have HB:=hid (Below.refl w.heap.size w);obtain⟨A,c,rfl,-⟩:=id hl;clear hn hf;have HS:=hid hl;clear hl;obtain⟨res,hres⟩:∃res,plsE l=res:=⟨_,rfl⟩;rw[hres];by_cases h8:8<l.length
 ·have E:Hid (res=7):=hid (by rw[←hres];exact if_pos h8)
  have d8:(8:Int)<(l.length:Int):=by omega
  clear hres;go_enter Tryz.func53,Tryz.ntmps53;go_wp2;go_ret;exact⟨zAc E.out.symm,HB.out⟩
 have d8:¬((8:Int)<(l.length:Int)):=by omega
 have E:Hid (lsGo (·.name) (·.rules.length) (fun(x:PList)=>zAk prE x.rules) 16 l l 0=res):=hid (by rw[←hres];exact(if_neg h8).symm);clear hres;go_enter Tryz.func53,Tryz.ntmps53;go_wp2_with fail;clear d8;go_loopg [3] l.length (fun gh ix wr=>∃k:Nat,k+gh=l.length∧ix=.int .i64 k∧Hid (Below w.heap.size w wr)∧Hid (lsGo (·.name) (·.rules.length) (fun(x:PList)=>zAk prE x.rules) 16 l (l.drop k) k=res));case atStart=>exact⟨0,by omega,rfl,HB,E⟩
 case round=>
  clear HB E;obtain⟨k,hk,rfl,HB,HG⟩:=hrel;by_cases hlt:k<l.length;case neg=>
   have hkz:¬((k:Int)<(l.length:Int)):=by omega
   have E:=hid (zIw hlt HG.out);go_wp2;go_ret;exact⟨zAc E.out.symm,HB.out⟩
  have hkz:(k:Int)<(l.length:Int):=by omega
  have HW:=hid (list_ways (zJn hlt HG.out));clear HG;obtain⟨g,o,c', e',-,hg,R0⟩:=HS.out.elem (n:=2) (by decide) (fun _=>rfl) hlt;injection e' with e1 e2 e3
  subst e1 e3;obtain⟨A2,c2,hv2,-⟩:=id (HN.out _ (List.getElem_mem hlt));have HNK:=hid (HN.out _ (List.getElem_mem hlt));have HFK:=hid (HF.out _ (List.getElem_mem hlt));unfold PList.at at HNK;rw[hv2]at HNK;have XA:Hid (∀W,Below w.heap.size w W→W.cell? ⟨g,o+k*2,none⟩=some (.string (str l[k].name))∧W.cell? ⟨g,o+k*2+1,none⟩=some (.slice A2 l[k].rules.length c2)):=hid (fun W hW=>⟨zAg R0 (hW.mono HBB.out) hg 0 _ rfl,by rw[←hv2];exact zAg R0 (hW.mono HBB.out) hg 1 _ rfl⟩);clear R0 e2 hv2;unfold PList.fit at HFK;have HXK:Hid ((l[k].name==l[k].name)=true):=hid (by simp);obtain⟨nm,hnm⟩:∃nm,nm=l[k].name:=⟨_,rfl⟩;rw[←hnm]at XA HW;have HNM:=hid hnm;clear hnm HXK;generalize l[k].rules=rs at *;obtain⟨xa,xv⟩:=XA.out wr HB.out;go_wp2_with fail;refine(rnameL nm wr).mono ?_;rintro e w' ⟨rfl,rfl⟩;rcases HW.out with⟨n1,h3⟩|⟨n1,h3⟩
  ·have E:=hid h3
   rw[n1];clear h3;go_wp2;go_ret;exact⟨zAc E.out.symm,HB.out⟩
  have HT:=hid h3;rw[n1];clear h3 HW;go_wp2_with fail;clear xa xv n1;go_loopg [4] k (fun gh ix wq=>∃j:Nat,j+gh=k∧ix=.int .i64 j∧Hid (Below w.heap.size w wq)∧Hid (∀i (hi:i<l.length),i<j→(l[i].name==nm)=false));case atStart=>exact⟨0,by omega,rfl,HB,hid fun _ _ h=>absurd h (Nat.not_lt_zero _)⟩
  case round=>
   clear HB;obtain⟨j,hj,rfl,HQ,HN2⟩:=hrel;obtain⟨xa,xv⟩:=XA.out wr HQ.out;by_cases hjl:j<k;case pos=>
    have hjn:j<l.length:=by omega
    have hjz:(j:Int)<(k:Int):=by omega
    have hjm:(j:Int)<(l.length:Int):=by omega
    obtain⟨g', o', c'', e',-,hg', R0⟩:=HS.out.elem (n:=2) (by decide) (fun _=>rfl) hjn;injection e' with e1 e2 e3
    injection e1 with e1
    injection e1 with e1 e4
    subst e1 e4;have y0:wr.cell? ⟨g,o+j*2,none⟩=some (.string (str l[j].name)):=zAg R0 (HQ.out.mono HBB.out) hg' 0 _ rfl;clear R0 e2 e3;have HB2:=hid (HQ.out.trans (Below.mono (zAo wr) HQ.out.size));have HH:Hid ((l[j].name==nm)=true→res=4):=hid fun h=>by rw[HT.out,if_pos (zMz (p:=fun y:PList=>y.name==nm) hjn h hjl)]
    have HM:Hid ((l[j].name==nm)=false→∀i (hi:i<l.length),i<j+1→(l[i].name==nm)=false):=hid fun h i hi hlt=>by
     rcases Nat.lt_or_ge i j with h1|h1
     ·exact HN2.out i hi h1
     ·obtain rfl:i=j:=by omega
      exact h
    clear HN2;have hs:((str l[j].name).toList==(str nm).toList)=(l[j].name==nm):=by rw[zAh,zAh]
    generalize l[j].name=mm at y0 hs HH HM;generalize hb0:(mm==nm)=b0 at hs HH HM;clear hb0;cases b0 with
    |true=>
     have E:=hid (HH.out rfl);clear HH HM;go_wp2_with fail;go_still (by kernel_rfl);go_wp2;go_ret;exact⟨zAc E.out.symm,HB2.out⟩
    |false=>
    have HN3:=hid (HM.out rfl);clear HH HM;go_wp2_with fail;go_still (by kernel_rfl);go_wp2;go_roundg (k - (j+1));case measure=>omega
    case rel=>exact⟨j+1,by omega,by go_num,HB2,HN3⟩
   have hjz:¬((j:Int)<(k:Int)):=by omega
   obtain rfl:j=k:=by omega
   have HT2:=hid (show res=_ by rw[HT.out,if_neg (zNb (p:=fun y:PList=>y.name==nm) hlt HN2.out (by show(l[j].name==nm)=true;rw[HNM.out];simp))]);clear HT HN2 HNM;by_cases hr0:rs.length=0
   ·have E:Hid (res=1):=hid (by rw[HT2.out,if_pos (by omega)])
    have hrz:((rs.length:Int)==0)=true:=by simp[hr0]
    go_wp2;go_ret;exact⟨zAc E.out.symm,HQ.out⟩
   have hrz:((rs.length:Int)==0)=false:=by simpa using hr0
   by_cases hr1:16<rs.length
   ·have E:Hid (res=7):=hid (by rw[HT2.out,if_neg (by omega),if_pos (by omega)])
    have hrm:(16:Int)<(rs.length:Int):=by omega
    go_wp2;go_ret;exact⟨zAc E.out.symm,HQ.out⟩
   have hrm:¬((16:Int)<(rs.length:Int)):=by omega
   have HT3:=hid (show res=_ by rw[HT2.out,if_neg (by omega),if_neg (by omega)]);clear HT2 hr0;generalize j=k at *;go_wp2_with fail;clear xa xv hrz hrm;go_loopg [5] rs.length (fun gh ix wq=>∃i:Nat,i+gh=rs.length∧ix=.int .i64 i∧Hid (Below w.heap.size w wq)∧Hid (zAk prE (rs.drop i)=zAk prE rs));case atStart=>exact⟨0,by omega,rfl,HQ,hid rfl⟩
   case round=>
    clear HQ;obtain⟨i,hi,rfl,HQ,HG⟩:=hrel;obtain⟨xa,xv⟩:=XA.out wr HQ.out;by_cases hil:i<rs.length;case neg=>
     have hiz:¬((i:Int)<(rs.length:Int)):=by omega
     have EN:Hid (lsGo (·.name) (·.rules.length) (fun(x:PList)=>zAk prE x.rules) 16 l (l.drop (k+1)) (k+1)=res):=hid (by rw[HT3.out,if_pos (zEe hil HG.out)]);go_wp2;go_roundg (l.length - (k+1));case measure=>omega
     case rel=>exact⟨k+1,by omega,by go_num,HQ,EN⟩
    have hiz:(i:Int)<(rs.length:Int):=by omega
    have HG2:=hid (zEu hil HG.out);obtain⟨g2,o2,c3,e',-,hg2,R0⟩:=HNK.out.elem (n:=5) (by decide) (fun _=>rfl) hil;injection e' with e1 e2 e3
    subst e1 e3;have r1:=hid (zAg R0 (HQ.out.mono HBB.out) hg2);have FX:=hid (HFK.out _ (List.getElem_mem hil));generalize rs[i]=x at r1 HG2 FX;clear R0 e2 HG;go_wp2_with (first|(refine zAa rfl 136 _ rfl rfl r1.out Tryz.rowPRule Tryz.sizePRule ?_));have hv:=rvpr_any x FX.out wr;with_reducible refine hv.mono ?_
    clear hv;rintro e w6 ⟨rfl,hb⟩;have H6:=hid (HQ.out.trans (hb.mono HQ.out.size));clear hb r1 xa xv;cases hr:zFa x with
    |false=>
     have E:Hid (res=1):=hid (by rw[HT3.out,HG2.out,show prE x=1 by unfold prE;rw[hr];rfl];rfl);clear hr;go_wp2;go_ret;exact⟨zAc E.out.symm,H6.out⟩
    |true=>
    have HG3:Hid (zAk prE (rs.drop (i+1))=zAk prE rs):=hid (by rw[HG2.out,show prE x=0 by unfold prE;rw[hr];rfl];rfl);clear hr HG2;go_wp2;go_roundg (rs.length - (i+1));case measure=>omega
    case rel=>exact⟨i+1,by omega,by go_num,H6,HG3⟩
theorem zMl(l:List AList)(v:Value)(w:World)(B:Nat)(hB:B≤w.heap.size)(hl:SlV w B 2 AList.C v l)(hn:∀x∈l,x.at w B)(hf:∀x∈l,x.fit):Calls Tryz.prog 55 #[v] w fun e w' => e=.returned (.int .i64 (aclsE l))∧Below w.heap.size w w' := by
 have HBB:=hid hB;have HN:=hid hn;have HF:=hid hf;have HB:=hid (Below.refl w.heap.size w);obtain⟨A,c,rfl,-⟩:=id hl;clear hn hf;have HS:=hid hl;clear hl;obtain⟨res,hres⟩:∃res,aclsE l=res:=⟨_,rfl⟩;rw[hres];by_cases h8:8<l.length
 ·have E:Hid (res=7):=hid (by rw[←hres];exact if_pos h8)
  have d8:(8:Int)<(l.length:Int):=by omega
  clear hres;go_enter Tryz.func55,Tryz.ntmps55;go_wp2;go_ret;exact⟨zAc E.out.symm,HB.out⟩
 have d8:¬((8:Int)<(l.length:Int)):=by omega
 have E:Hid (lsGo (·.name) (·.rules.length) (fun(x:AList)=>zAk ruE x.rules) 16 l l 0=res):=hid (by rw[←hres];exact(if_neg h8).symm);clear hres;go_enter Tryz.func55,Tryz.ntmps55;go_wp2_with fail;clear d8;go_loopg [3] l.length (fun gh ix wr=>∃k:Nat,k+gh=l.length∧ix=.int .i64 k∧Hid (Below w.heap.size w wr)∧Hid (lsGo (·.name) (·.rules.length) (fun(x:AList)=>zAk ruE x.rules) 16 l (l.drop k) k=res));case atStart=>exact⟨0,by omega,rfl,HB,E⟩
 case round=>
  clear HB E;obtain⟨k,hk,rfl,HB,HG⟩:=hrel;by_cases hlt:k<l.length;case neg=>
   have hkz:¬((k:Int)<(l.length:Int)):=by omega
   have E:=hid (zIw hlt HG.out);go_wp2;go_ret;exact⟨zAc E.out.symm,HB.out⟩
  have hkz:(k:Int)<(l.length:Int):=by omega
  have HW:=hid (list_ways (zJn hlt HG.out));clear HG;obtain⟨g,o,c', e',-,hg,R0⟩:=HS.out.elem (n:=2) (by decide) (fun _=>rfl) hlt;injection e' with e1 e2 e3
  subst e1 e3;obtain⟨A2,c2,hv2,-⟩:=id (HN.out _ (List.getElem_mem hlt));have HNK:=hid (HN.out _ (List.getElem_mem hlt));have HFK:=hid (HF.out _ (List.getElem_mem hlt));unfold AList.at at HNK;rw[hv2]at HNK;have XA:Hid (∀W,Below w.heap.size w W→W.cell? ⟨g,o+k*2,none⟩=some (.string (str l[k].name))∧W.cell? ⟨g,o+k*2+1,none⟩=some (.slice A2 l[k].rules.length c2)):=hid (fun W hW=>⟨zAg R0 (hW.mono HBB.out) hg 0 _ rfl,by rw[←hv2];exact zAg R0 (hW.mono HBB.out) hg 1 _ rfl⟩);clear R0 e2 hv2;unfold AList.fit at HFK;have HXK:Hid ((l[k].name==l[k].name)=true):=hid (by simp);obtain⟨nm,hnm⟩:∃nm,nm=l[k].name:=⟨_,rfl⟩;rw[←hnm]at XA HW;have HNM:=hid hnm;clear hnm HXK;generalize l[k].rules=rs at *;obtain⟨xa,xv⟩:=XA.out wr HB.out;go_wp2_with fail;refine(rnameL nm wr).mono ?_;rintro e w' ⟨rfl,rfl⟩;rcases HW.out with⟨n1,h3⟩|⟨n1,h3⟩
  ·have E:=hid h3
   rw[n1];clear h3;go_wp2;go_ret;exact⟨zAc E.out.symm,HB.out⟩
  have HT:=hid h3;rw[n1];clear h3 HW;go_wp2_with fail;clear xa xv n1;go_loopg [4] k (fun gh ix wq=>∃j:Nat,j+gh=k∧ix=.int .i64 j∧Hid (Below w.heap.size w wq)∧Hid (∀i (hi:i<l.length),i<j→(l[i].name==nm)=false));case atStart=>exact⟨0,by omega,rfl,HB,hid fun _ _ h=>absurd h (Nat.not_lt_zero _)⟩
  case round=>
   clear HB;obtain⟨j,hj,rfl,HQ,HN2⟩:=hrel;obtain⟨xa,xv⟩:=XA.out wr HQ.out;by_cases hjl:j<k;case pos=>
    have hjn:j<l.length:=by omega
    have hjz:(j:Int)<(k:Int):=by omega
    have hjm:(j:Int)<(l.length:Int):=by omega
    obtain⟨g', o', c'', e',-,hg', R0⟩:=HS.out.elem (n:=2) (by decide) (fun _=>rfl) hjn;injection e' with e1 e2 e3
    injection e1 with e1
    injection e1 with e1 e4
    subst e1 e4;have y0:wr.cell? ⟨g,o+j*2,none⟩=some (.string (str l[j].name)):=zAg R0 (HQ.out.mono HBB.out) hg' 0 _ rfl;clear R0 e2 e3;have HB2:=hid (HQ.out.trans (Below.mono (zAo wr) HQ.out.size));have HH:Hid ((l[j].name==nm)=true→res=4):=hid fun h=>by rw[HT.out,if_pos (zMz (p:=fun y:AList=>y.name==nm) hjn h hjl)]
    have HM:Hid ((l[j].name==nm)=false→∀i (hi:i<l.length),i<j+1→(l[i].name==nm)=false):=hid fun h i hi hlt=>by
     rcases Nat.lt_or_ge i j with h1|h1
     ·exact HN2.out i hi h1
     ·obtain rfl:i=j:=by omega
      exact h
    clear HN2;have hs:((str l[j].name).toList==(str nm).toList)=(l[j].name==nm):=by rw[zAh,zAh]
    generalize l[j].name=mm at y0 hs HH HM;generalize hb0:(mm==nm)=b0 at hs HH HM;clear hb0;cases b0 with
    |true=>
     have E:=hid (HH.out rfl);clear HH HM;go_wp2_with fail;go_still (by kernel_rfl);go_wp2;go_ret;exact⟨zAc E.out.symm,HB2.out⟩
    |false=>
    have HN3:=hid (HM.out rfl);clear HH HM;go_wp2_with fail;go_still (by kernel_rfl);go_wp2;go_roundg (k - (j+1));case measure=>omega
    case rel=>exact⟨j+1,by omega,by go_num,HB2,HN3⟩
   have hjz:¬((j:Int)<(k:Int)):=by omega
   obtain rfl:j=k:=by omega
   have HT2:=hid (show res=_ by rw[HT.out,if_neg (zNb (p:=fun y:AList=>y.name==nm) hlt HN2.out (by show(l[j].name==nm)=true;rw[HNM.out];simp))]);clear HT HN2 HNM;by_cases hr0:rs.length=0
   ·have E:Hid (res=1):=hid (by rw[HT2.out,if_pos (by omega)])
    have hrz:((rs.length:Int)==0)=true:=by simp[hr0]
    go_wp2;go_ret;exact⟨zAc E.out.symm,HQ.out⟩
   have hrz:((rs.length:Int)==0)=false:=by simpa using hr0
   by_cases hr1:16<rs.length
   ·have E:Hid (res=7):=hid (by rw[HT2.out,if_neg (by omega),if_pos (by omega)])
    have hrm:(16:Int)<(rs.length:Int):=by omega
    go_wp2;go_ret;exact⟨zAc E.out.symm,HQ.out⟩
   have hrm:¬((16:Int)<(rs.length:Int)):=by omega
   have HT3:=hid (show res=_ by rw[HT2.out,if_neg (by omega),if_neg (by omega)]);clear HT2 hr0;generalize j=k at *;go_wp2_with fail;clear xa xv hrz hrm;go_loopg [5] rs.length (fun gh ix wq=>∃i:Nat,i+gh=rs.length∧ix=.int .i64 i∧Hid (Below w.heap.size w wq)∧Hid (zAk ruE (rs.drop i)=zAk ruE rs));case atStart=>exact⟨0,by omega,rfl,HQ,hid rfl⟩
   case round=>
    clear HQ;obtain⟨i,hi,rfl,HQ,HG⟩:=hrel;obtain⟨xa,xv⟩:=XA.out wr HQ.out;by_cases hil:i<rs.length;case neg=>
     have hiz:¬((i:Int)<(rs.length:Int)):=by omega
     have EN:Hid (lsGo (·.name) (·.rules.length) (fun(x:AList)=>zAk ruE x.rules) 16 l (l.drop (k+1)) (k+1)=res):=hid (by rw[HT3.out,if_pos (zEe hil HG.out)]);go_wp2;go_roundg (l.length - (k+1));case measure=>omega
     case rel=>exact⟨k+1,by omega,by go_num,HQ,EN⟩
    have hiz:(i:Int)<(rs.length:Int):=by omega
    have HG2:=hid (zEu hil HG.out);obtain⟨g2,o2,c3,e',-,hg2,R0⟩:=HNK.out.elem (n:=10) (by decide) (fun _=>rfl) hil;injection e' with e1 e2 e3
    subst e1 e3;have r1:=hid (zAg R0 (HQ.out.mono HBB.out) hg2);have FX:=hid (HFK.out _ (List.getElem_mem hil));generalize rs[i]=x at r1 HG2 FX;clear R0 e2 HG;go_wp2_with (first|(refine zAa rfl 144 _ rfl rfl r1.out Tryz.rowRu Tryz.sizeRu ?_));have hv:=rvru_any x FX.out wr;with_reducible refine hv.mono ?_
    clear hv;rintro e w6 ⟨rfl,hb⟩;have H6:=hid (HQ.out.trans (hb.mono HQ.out.size));clear hb r1 xa xv;cases hr:zDl x with
    |false=>
     have E:Hid (res=1):=hid (by rw[HT3.out,HG2.out,show ruE x=1 by unfold ruE;rw[hr];rfl];rfl);clear hr;go_wp2;go_ret;exact⟨zAc E.out.symm,H6.out⟩
    |true=>
    have HG3:Hid (zAk ruE (rs.drop (i+1))=zAk ruE rs):=hid (by rw[HG2.out,show ruE x=0 by unfold ruE;rw[hr];rfl];rfl);clear hr HG2;go_wp2;go_roundg (rs.length - (i+1));case measure=>omega
    case rel=>exact⟨i+1,by omega,by go_num,H6,HG3⟩
theorem cl_ways(x:Cl):(zDg x=true∧zAb x.tag (-1) 65535=true∧zAb x.setT (-1) 65535=true∧zAb x.setM (-1) 16777215=true∧zAb x.setP (-1) 1000000=true∧zAb x.prep 0 8=true)∨(zDg x=false∧(zAb x.tag (-1) 65535=false∨(zAb x.tag (-1) 65535=true∧zAb x.setT (-1) 65535=false)∨(zAb x.tag (-1) 65535=true∧zAb x.setT (-1) 65535=true∧zAb x.setM (-1) 16777215=false) ∨
  (zAb x.tag (-1) 65535=true∧zAb x.setT (-1) 65535=true∧zAb x.setM (-1) 16777215=true∧zAb x.setP (-1) 1000000=false)∨(zAb x.tag (-1) 65535=true∧zAb x.setT (-1) 65535=true∧zAb x.setM (-1) 16777215=true∧zAb x.setP (-1) 1000000=true∧zAb x.prep 0 8=false))):=by
 unfold zDg;cases zAb x.tag (-1) 65535<;>cases zAb x.setT (-1) 65535<;>cases zAb x.setM (-1) 16777215<;>cases zAb x.setP (-1) 1000000<;>cases zAb x.prep 0 8<;>simp
theorem rrouteMaps_all(r:Rt)(w:World)(B:Nat)(hB:B≤w.heap.size)(h:r.at w B):Calls Tryz.prog 54 #[.agg r.C] w fun e w' => e=.returned (.int .i64 (mapsE r.lists r.maps))∧Below w.heap.size w w' := by
 have HBB:=hid hB;have HR:=hid h;have hl:=h.hmaps;have HN:=hid h.nmaps;have HB:=hid (RB.start r w);have c4:=cl4 HB.out.h;generalize r.maps=l at *;obtain⟨A,c,hv,-⟩:=id hl;rw[hv]at c4 hl;have HS:=hid hl;clear hl h hv;obtain⟨res,hres⟩:∃res,mapsE r.lists l=res:=⟨_,rfl⟩;rw[hres];by_cases h8:8<l.length
 ·have E:Hid (res=7):=hid (by rw[←hres];exact if_pos h8)
  have d8:(8:Int)<(l.length:Int):=by omega
  clear hres;go_enter Tryz.func54,Tryz.ntmps54;go_wp2;go_ret;exact⟨zAc E.out.symm,HB.out.b⟩
 have d8:¬((8:Int)<(l.length:Int)):=by omega
 have E:Hid (lsGo (·.name) (·.clauses.length) (fun(x:RMap)=>zAk (clE r.lists) x.clauses) 8 l l 0=res):=hid (by rw[←hres];exact(if_neg h8).symm);clear hres;go_enter Tryz.func54,Tryz.ntmps54;go_wp2_with fail;clear d8 c4;go_loopg [4] l.length (fun gh ix wr=>∃k:Nat,k+gh=l.length∧ix=.int .i64 k∧Hid (RB r w wr)∧Hid (lsGo (·.name) (·.clauses.length) (fun(x:RMap)=>zAk (clE r.lists) x.clauses) 8 l (l.drop k) k=res));case atStart=>exact⟨0,by omega,rfl,HB,E⟩
 case round=>
  clear HB E;obtain⟨k,hk,rfl,HB,HG⟩:=hrel;by_cases hlt:k<l.length;case neg=>
   have hkz:¬((k:Int)<(l.length:Int)):=by omega
   have E:=hid (zIw hlt HG.out);go_wp2;go_ret;exact⟨zAc E.out.symm,HB.out.b⟩
  have hkz:(k:Int)<(l.length:Int):=by omega
  have HW:=hid (list_ways (zJn hlt HG.out));clear HG;obtain⟨g,o,c', e',-,hg,R0⟩:=HS.out.elem (n:=2) (by decide) (fun _=>rfl) hlt;injection e' with e1 e2 e3
  subst e1 e3;obtain⟨A2,c2,hv2,-⟩:=id (HN.out _ (List.getElem_mem hlt));have HNK:=hid (HN.out _ (List.getElem_mem hlt));unfold RMap.at at HNK;rw[hv2]at HNK;have XA:Hid (∀W,Below w.heap.size w W→W.cell? ⟨g,o+k*2,none⟩=some (.string (str l[k].name))∧W.cell? ⟨g,o+k*2+1,none⟩=some (.slice A2 l[k].clauses.length c2)):=hid (fun W hW=>⟨zAg R0 (hW.mono HBB.out) hg 0 _ rfl,by rw[←hv2];exact zAg R0 (hW.mono HBB.out) hg 1 _ rfl⟩);clear R0 e2 hv2;have HXK:Hid ((l[k].name==l[k].name)=true):=hid (by simp);obtain⟨nm,hnm⟩:∃nm,nm=l[k].name:=⟨_,rfl⟩;rw[←hnm]at XA HW;have HNM:=hid hnm;clear hnm HXK;generalize l[k].clauses=rs at *;obtain⟨xa,xv⟩:=XA.out wr HB.out.b;go_wp2_with fail;refine(rnameL nm wr).mono ?_;rintro e w' ⟨rfl,rfl⟩;rcases HW.out with⟨n1,h3⟩|⟨n1,h3⟩
  ·have E:=hid h3
   rw[n1];clear h3;go_wp2;go_ret;exact⟨zAc E.out.symm,HB.out.b⟩
  have HT:=hid h3;rw[n1];clear h3 HW;go_wp2_with fail;clear xa xv n1;go_loopg [5] k (fun gh ix wq=>∃j:Nat,j+gh=k∧ix=.int .i64 j∧Hid (RB r w wq)∧Hid (∀i (hi:i<l.length),i<j→(l[i].name==nm)=false));case atStart=>exact⟨0,by omega,rfl,HB,hid fun _ _ h=>absurd h (Nat.not_lt_zero _)⟩
  case round=>
   clear HB;obtain⟨j,hj,rfl,HQ,HN2⟩:=hrel;obtain⟨xa,xv⟩:=XA.out wr HQ.out.b;by_cases hjl:j<k;case pos=>
    have hjn:j<l.length:=by omega
    have hjz:(j:Int)<(k:Int):=by omega
    have hjm:(j:Int)<(l.length:Int):=by omega
    obtain⟨g', o', c'', e',-,hg', R0⟩:=HS.out.elem (n:=2) (by decide) (fun _=>rfl) hjn;injection e' with e1 e2 e3
    injection e1 with e1
    injection e1 with e1 e4
    subst e1 e4;have y0:wr.cell? ⟨g,o+j*2,none⟩=some (.string (str l[j].name)):=zAg R0 (HQ.out.b.mono HBB.out) hg' 0 _ rfl;clear R0 e2 e3;have HB2:=hid (HQ.out.keep (zAo wr));have HH:Hid ((l[j].name==nm)=true→res=4):=hid fun h=>by rw[HT.out,if_pos (zMz (p:=fun y:RMap=>y.name==nm) hjn h hjl)]
    have HM:Hid ((l[j].name==nm)=false→∀i (hi:i<l.length),i<j+1→(l[i].name==nm)=false):=hid fun h i hi hlt=>by
     rcases Nat.lt_or_ge i j with h1|h1
     ·exact HN2.out i hi h1
     ·obtain rfl:i=j:=by omega
      exact h
    clear HN2;have hs:((str l[j].name).toList==(str nm).toList)=(l[j].name==nm):=by rw[zAh,zAh]
    generalize l[j].name=mm at y0 hs HH HM;generalize hb0:(mm==nm)=b0 at hs HH HM;clear hb0;cases b0 with
    |true=>
     have E:=hid (HH.out rfl);clear HH HM;go_wp2_with fail;go_still (by kernel_rfl);go_wp2;go_ret;exact⟨zAc E.out.symm,HB2.out.b⟩
    |false=>
    have HN3:=hid (HM.out rfl);clear HH HM;go_wp2_with fail;go_still (by kernel_rfl);go_wp2;go_roundg (k - (j+1));case measure=>omega
    case rel=>exact⟨j+1,by omega,by go_num,HB2,HN3⟩
   have hjz:¬((j:Int)<(k:Int)):=by omega
   obtain rfl:j=k:=by omega
   have HT2:=hid (show res=_ by rw[HT.out,if_neg (zNb (p:=fun y:RMap=>y.name==nm) hlt HN2.out (by show(l[j].name==nm)=true;rw[HNM.out];simp))]);clear HT HN2 HNM;by_cases hr0:rs.length=0
   ·have E:Hid (res=1):=hid (by rw[HT2.out,if_pos (by omega)])
    have hrz:((rs.length:Int)==0)=true:=by simp[hr0]
    go_wp2;go_ret;exact⟨zAc E.out.symm,HQ.out.b⟩
   have hrz:((rs.length:Int)==0)=false:=by simpa using hr0
   by_cases hr1:8<rs.length
   ·have E:Hid (res=7):=hid (by rw[HT2.out,if_neg (by omega),if_pos (by omega)])
    have hrm:(8:Int)<(rs.length:Int):=by omega
    go_wp2;go_ret;exact⟨zAc E.out.symm,HQ.out.b⟩
   have hrm:¬((8:Int)<(rs.length:Int)):=by omega
   have HT3:=hid (show res=_ by rw[HT2.out,if_neg (by omega),if_neg (by omega)]);clear HT2 hr0;generalize j=k at *;go_wp2_with fail;clear xa xv hrz hrm;go_loopg [6] rs.length (fun gh ix wq=>∃i:Nat,i+gh=rs.length∧ix=.int .i64 i∧Hid (RB r w wq)∧Hid (zAk (clE r.lists) (rs.drop i)=zAk (clE r.lists) rs));case atStart=>exact⟨0,by omega,rfl,HQ,hid rfl⟩
   case round=>
    clear HQ;obtain⟨i,hi,rfl,HQ,HG⟩:=hrel;obtain⟨xa,xv⟩:=XA.out wr HQ.out.b;by_cases hil:i<rs.length;case neg=>
     have hiz:¬((i:Int)<(rs.length:Int)):=by omega
     have EN:Hid (lsGo (·.name) (·.clauses.length) (fun(x:RMap)=>zAk (clE r.lists) x.clauses) 8 l (l.drop (k+1)) (k+1)=res):=hid (by rw[HT3.out,if_pos (zEe hil HG.out)]);go_wp2;go_roundg (l.length - (k+1));case measure=>omega
     case rel=>exact⟨k+1,by omega,by go_num,HQ,EN⟩
    have hiz:(i:Int)<(rs.length:Int):=by omega
    have HG2:=hid (zEu hil HG.out);obtain⟨g2,o2,c3,e',-,hg2,R0⟩:=HNK.out.elem (n:=7) (by decide) (fun _=>rfl) hil;injection e' with e1 e2 e3
    subst e1 e3;have r1:=hid (zAg R0 (HQ.out.b.mono HBB.out) hg2);have HR5:Hid (clE r.lists rs[i]≠0→res=clE r.lists rs[i]):=hid fun h=>zEm HT3.out HG2.out h
    have HR0:Hid (clE r.lists rs[i]=0→zAk (clE r.lists) (rs.drop (i+1))=zAk (clE r.lists) rs):=hid fun h=>zDu HG2.out h
    generalize rs[i]=x at r1 HR5 HR0;clear R0 e2 HG HG2;have HFX:Hid (clE r.lists x=if !x.list.isEmpty&&decide (idxF (fun y=>y.name==x.list) r.lists 0<0)then 5 else if zDg x then 0 else 1):=hid rfl;generalize clE r.lists x=fx at HFX HR5 HR0;go_upto_region 22 with(first|(refine zAa rfl 138 _ rfl rfl r1.out Tryz.rowCl Tryz.sizeCl ?_)|(refine zAd rfl 138 _ _ rfl rfl rfl (HasC.new wr _ _) rfl Tryz.sizeCl (Cl.one x) ?_;intro w5 hz1 hz2))
    have HW5:Hid (RBL r w 138 wr.heap.size x.C w5):=hid (let q:=HQ.out.keep (zAi hz2);⟨q.h,q.b,hz1⟩);clear hz1 hz2 r1 HQ xa xv;generalize wr.heap.size=gx at HW5⊢;have HCW:=hid (cl_ways x);have HWI:=hid zCo;have HC1:Hid (∀j v,x.C[j]? = some v→∀W,HasC 138 gx x.C W→W.cell? ⟨gx,j,none⟩=some v):=hid fun j v hv W h=>(h.cell j).trans hv
    have x1:w5.cell? ⟨gx,1,none⟩=some (.string (str x.list)):=HW5.out.l.cell 1;have XC:Hid (∀W,RBL r w 138 gx x.C W→W.cell? ⟨gx,2,none⟩=some (.int .i64 x.tag)∧W.cell? ⟨gx,3,none⟩=some (.int .i64 x.setM)∧W.cell? ⟨gx,4,none⟩=some (.int .i64 x.setT)∧W.cell? ⟨gx,5,none⟩=some (.int .i64 x.setP)∧W.cell? ⟨gx,6,none⟩=some (.int .i64 x.prep)):=hid fun W h=>⟨h.l.cell 2,h.l.cell 3,h.l.cell 4,h.l.cell 5,h.l.cell 6⟩
    clear HC1;generalize x.C=cx at HW5 XC;generalize zDg x=R at HCW HFX;obtain⟨permit,list,tag,setM,setT,setP,prep⟩:=x;dsimp only at HFX HCW XC x1;by_cases hli:list=[]
    ·subst hli
     have tn:=zAh ([]:List UInt8);have HFY:Hid (fx=if R then 0 else 1):=hid HFX.out;obtain⟨x2,x3,x4,x5,x6⟩:=XC.out _ HW5.out;have WARM:True:=trivial;rcases HCW.out with⟨rfl,k2,k3,k4,k5,k6⟩|⟨rfl,(k2|⟨k2,k3⟩|⟨k2,k3,k4⟩|⟨k2,k3,k4,k5⟩|⟨k2,k3,k4,k5,k6⟩)⟩
     all_goals
      have E1:Hid (fx=1→res=1):=hid fun q=>by rw[HR5.out (by rw[q];decide),q]
      clear HFX HCW HR5 XC;go_wp2_with (go_at_call 51;refine(HWI.out _ _ _ _).mono ?_;rintro e w' ⟨rfl,rfl⟩)
      first
       | (have E := hid (E1.out HFY.out)
          go_ret
          exact⟨zAc E.out.symm,HW5.out.b⟩)
       | (have HG3 := hid (HR0.out HFY.out)
          go_roundg (rs.length - (i+1));case measure=>omega
          case rel=>exact⟨i+1,by omega,by go_num,hid ⟨HW5.out.h,HW5.out.b⟩,HG3⟩)
    obtain⟨i1,i2,i3⟩:=zCp hli;have HFD:Hid (fx=if decide (idxF (fun y=>y.name==list) r.lists 0<0)then 5 else if R then 0 else 1):=hid (by rw[HFX.out,i1];rfl);clear HFX;go_wp2_with (refine zAj (by rfl) (zAa rfl 41 _ rfl rfl HW5.out.h.range Tryz.rowRt Tryz.sizeRt ?_));with_reducible refine(zFx r list w5 B (HR.out.below (HW5.out.b.mono HBB.out)) (yJ HBB.out HW5.out.b.size)).mono ?_
    rintro e w6 ⟨rfl,hb⟩;have HW6:=hid (HW5.out.keep hb);clear hb HW5 x1 i1 i2 i3;cases di:decide (idxF (fun y:PList=>y.name==list) r.lists 0<0)with
    |true=>
     have E:Hid (res=5):=hid (by
      have q:fx=5:=by rw[HFD.out,di];rfl
      rw[HR5.out (by rw[q];decide),q])
     clear HFD HR5 HR0 HCW XC;go_wp2;go_ret;exact⟨zAc E.out.symm,HW6.out.b⟩
    |false=>
    have HFY:Hid (fx=if R then 0 else 1):=hid (by rw[HFD.out,di];rfl);obtain⟨x2,x3,x4,x5,x6⟩:=XC.out _ HW6.out;have WARM:True:=trivial;rcases HCW.out with⟨rfl,k2,k3,k4,k5,k6⟩|⟨rfl,(k2|⟨k2,k3⟩|⟨k2,k3,k4⟩|⟨k2,k3,k4,k5⟩|⟨k2,k3,k4,k5,k6⟩)⟩
    all_goals
     have E1:Hid (fx=1→res=1):=hid fun q=>by rw[HR5.out (by rw[q];decide),q]
     clear HFD HCW HR5 XC;go_wp2_with (go_at_call 51;refine(HWI.out _ _ _ _).mono ?_;rintro e w' ⟨rfl,rfl⟩)
     first
      | (have E := hid (E1.out HFY.out)
         go_ret
         exact⟨zAc E.out.symm,HW6.out.b⟩)
      | (have HG3 := hid (HR0.out HFY.out)
         go_roundg (rs.length - (i+1));case measure=>omega
         case rel=>exact⟨i+1,by omega,by go_num,hid ⟨HW6.out.h,HW6.out.b⟩,HG3⟩)
theorem zGd{α:Type}{name:α→List UInt8}{l:List α}{n:List UInt8}:(n≠[]∧decide (idxF (fun y=>name y==n) l 0<0)=true→zAx name l n=true)∧(n=[]∨decide (idxF (fun y=>name y==n) l 0<0)=false→zAx name l n=false):=by
 unfold zAx;refine⟨fun⟨h,h2⟩=>?_,fun h=>?_⟩
 ·rw[(zCp h).1,h2];rfl
 ·rcases h with rfl|h
  ·rfl
  ·rw[h,Bool.and_false]
theorem filt_way{acls:List AList}{x:If}{res X:Int}(h:res=if filtE acls x=0 then X else filtE acls x) :
  ((x.inn≠[]∧decide (idxF (fun y=>y.name==x.inn) acls 0<0)=true)∨(x.out≠[]∧decide (idxF (fun y=>y.name==x.out) acls 0<0)=true)→res=5) ∧
  ((x.inn=[]∨decide (idxF (fun y=>y.name==x.inn) acls 0<0)=false)→(x.out=[]∨decide (idxF (fun y=>y.name==x.out) acls 0<0)=false)→X=res):=by
 subst h;unfold filtE;refine⟨fun h=>?_,fun h1 h2=>?_⟩
 ·rcases h with h|h
  ·rw[(zGd (name:=fun y:AList=>y.name)).1 h];rfl
  ·rw[(zGd (name:=fun y:AList=>y.name) (l:=acls) (n:=x.out)).1 h,Bool.or_true];rfl
 ·rw[(zGd (name:=fun y:AList=>y.name)).2 h1,(zGd (name:=fun y:AList=>y.name)).2 h2];rfl
theorem rfilters_all(r:Rt)(w:World)(B:Nat)(hB:B≤w.heap.size)(h:r.at w B)(hf:∀x∈r.ifs,x.fit):Calls Tryz.prog 57 #[.agg r.C] w fun e w' => e=.returned (.int .i64 (zAk (filtE r.acls) r.ifs))∧Below w.heap.size w w' := by
 have HBB:=hid hB;have HR:=hid h;have HB:=hid (RB.start r w);have HF:=hid hf;have HWI:=hid zCo;have hl:=h.hifs;have hlen:=hl.len;simp only[maxLen]at hlen;obtain⟨res,hres⟩:∃res,zAk (filtE r.acls) r.ifs=res:=⟨_,rfl⟩;rw[hres];have E:=hid hres;clear hres;generalize r.ifs=l at *;obtain⟨A,c,hv,-⟩:=id hl;have HL:Hid (∀w', RB r w w' → w'.cell? ⟨w.heap.size,2,none⟩=some (.slice A l.length c)):=hid (fun w' h=>by rw[←hv];exact h.h.cell 2);rw[hv]at hl;have HS:=hid hl;have cl:=HL.out _ HB.out;clear h hf hl hv;go_enter Tryz.func57,Tryz.ntmps57;go_wp2_with fail;clear cl;go_loopg [3] l.length (fun gh ix wr=>∃k:Nat,k+gh=l.length∧ix=.int .i64 k∧Hid (RB r w wr)∧Hid (zAk (filtE r.acls) (l.drop k)=res));case atStart=>exact⟨0,by omega,rfl,HB,E⟩
 case round=>
  clear HB E;obtain⟨k,hk,rfl,HB,HG⟩:=hrel;have cl:=HL.out wr HB.out;by_cases hlt:k<l.length;case neg=>
   have hkz:¬((k:Int)<(l.length:Int)):=by omega
   have E:=hid (zEe hlt HG.out);go_wp2;go_ret;exact⟨zAc E.out.symm,HB.out.b⟩
  have hkz:(k:Int)<(l.length:Int):=by omega
  obtain⟨g,o,c', e',-,hg,R0⟩:=HS.out.elem (n:=12) (by decide) (fun _=>rfl) hlt;injection e' with e1 e2 e3
  subst e1 e3;have r1:=hid (zAg R0 (HB.out.b.mono HBB.out) hg);have FX:=hid (HF.out _ (List.getElem_mem hlt));have OK:=hid (zEu hlt HG.out);generalize l[k]=x at r1 FX OK;clear HG;clear R0 e2;go_upto_region 5 with(first|(refine zAa rfl 72 _ rfl rfl r1.out Tryz.rowIf Tryz.sizeIf ?_)|(refine zAd rfl 72 _ _ rfl rfl rfl (HasC.new wr _ _) rfl Tryz.sizeIf (If.one x) ?_;intro w5 hz1 hz2))
  have H5:Hid (RBL r w 72 wr.heap.size x.C w5):=hid (let q:=HB.out.keep (zAi hz2);⟨q.h,q.b,hz1⟩);clear hz1 hz2 r1 HB cl;generalize wr.heap.size=gx at H5⊢;have OW:=hid (filt_way (acls:=r.acls) (x:=x) OK.out);obtain⟨name,addr,len,vlan,down,ls,area,cost,dv,inn,out,side⟩:=x;dsimp only at OW;clear OK FX;have y9:w5.cell? ⟨gx,9,none⟩=some (.string (str inn)):=H5.out.l.cell 9;by_cases hi:inn=[]
  ·subst hi
   have tni:=zAh ([]:List UInt8);have y10:w5.cell? ⟨gx,10,none⟩=some (.string (str out)):=H5.out.l.cell 10;by_cases ho:out=[]
   ·subst ho
    have tno:=zAh ([]:List UInt8);have EG:=OW.out.2 (.inl (by trivial)) (.inl (by trivial));go_wp2;go_roundg (l.length - (k+1));case measure=>omega
    case rel=>exact⟨k+1,by omega,by go_num,hid ⟨H5.out.h,H5.out.b⟩,hid EG⟩
   obtain⟨j1,j2,j3⟩:=zCp ho;go_wp2_with (first|(refine zAa rfl 41 _ rfl rfl H5.out.h.range Tryz.rowRt Tryz.sizeRt ?_)|(refine zAj (by rfl) (zAa rfl 41 _ rfl rfl H5.out.h.range Tryz.rowRt Tryz.sizeRt ?_)));with_reducible refine(zFw r out w5 B (HR.out.below (H5.out.b.mono HBB.out)) (yJ HBB.out H5.out.b.size)).mono ?_
   rintro e w8 ⟨rfl,hb⟩;have H8:=hid (H5.out.keep hb);clear hb;clear y10 j1 j2 j3;cases dd:decide (idxF (fun y:AList=>y.name==out) r.acls 0<0)with
   |true=>
    have E:Hid (res=5):=hid (OW.out.1 (.inr ⟨ho,dd⟩));go_wp2;go_ret;exact⟨zAc E.out.symm,H8.out.b⟩
   |false=>
   have EG:=OW.out.2 (.inl (by trivial)) (.inr dd);go_wp2;go_roundg (l.length - (k+1));case measure=>omega
   case rel=>exact⟨k+1,by omega,by go_num,hid ⟨H8.out.h,H8.out.b⟩,hid EG⟩
  obtain⟨i1,i2,i3⟩:=zCp hi;go_wp2_with (first|(refine zAa rfl 41 _ rfl rfl H5.out.h.range Tryz.rowRt Tryz.sizeRt ?_)|(refine zAj (by rfl) (zAa rfl 41 _ rfl rfl H5.out.h.range Tryz.rowRt Tryz.sizeRt ?_)));with_reducible refine(zFw r inn w5 B (HR.out.below (H5.out.b.mono HBB.out)) (yJ HBB.out H5.out.b.size)).mono ?_
  rintro e w6 ⟨rfl,hb⟩;have H6:=hid (H5.out.keep hb);clear hb;clear y9 i1 i2 i3;cases de:decide (idxF (fun y:AList=>y.name==inn) r.acls 0<0)with
  |true=>
   have E:Hid (res=5):=hid (OW.out.1 (.inl ⟨hi,de⟩));go_wp2;go_ret;exact⟨zAc E.out.symm,H6.out.b⟩
  |false=>
  have y10:w6.cell? ⟨gx,10,none⟩=some (.string (str out)):=H6.out.l.cell 10;by_cases ho:out=[]
  ·subst ho
   have tno:=zAh ([]:List UInt8);have EG:=OW.out.2 (.inr de) (.inl (by trivial));go_wp2;go_roundg (l.length - (k+1));case measure=>omega
   case rel=>exact⟨k+1,by omega,by go_num,hid ⟨H6.out.h,H6.out.b⟩,hid EG⟩
  obtain⟨j1,j2,j3⟩:=zCp ho;go_wp2_with (first|(refine zAa rfl 41 _ rfl rfl H6.out.h.range Tryz.rowRt Tryz.sizeRt ?_)|(refine zAj (by rfl) (zAa rfl 41 _ rfl rfl H6.out.h.range Tryz.rowRt Tryz.sizeRt ?_)));with_reducible refine(zFw r out w6 B (HR.out.below (H6.out.b.mono HBB.out)) (yJ HBB.out H6.out.b.size)).mono ?_
  rintro e w8 ⟨rfl,hb⟩;have H8:=hid (H6.out.keep hb);clear hb;clear y10 j1 j2 j3;cases dd:decide (idxF (fun y:AList=>y.name==out) r.acls 0<0)with
  |true=>
   have E:Hid (res=5):=hid (OW.out.1 (.inr ⟨ho,dd⟩));go_wp2;go_ret;exact⟨zAc E.out.symm,H8.out.b⟩
  |false=>
  have EG:=OW.out.2 (.inr de) (.inr dd);go_wp2;go_roundg (l.length - (k+1));case measure=>omega
  case rel=>exact⟨k+1,by omega,by go_num,hid ⟨H8.out.h,H8.out.b⟩,hid EG⟩
theorem within_ok' {n lo hi:Int}(h:zAb n lo hi=true):lo≤n∧n≤hi:=by simpa [zAb] using h
theorem rd_ways{maps:List RMap}{into least most types:Int}(x:Rd):(redF maps into least most types x=1∧(zAb x.frm 1 5=false∨(zAb x.frm 1 5=true∧(x.frm==into)=true)∨(zAb x.frm 1 5=true∧(x.frm==into)=false∧zAb x.metric least most=false)∨(zAb x.frm 1 5=true∧(x.frm==into)=false∧zAb x.metric least most=true∧zAb x.tag 0 65535=false))) ∨
  (zAb x.frm 1 5=true∧(x.frm==into)=false∧zAb x.metric least most=true∧zAb x.tag 0 65535=true∧redF maps into least most types x=if zAb x.typ (min 1 types) types then(if zAx (fun y:RMap=>y.name) maps x.map then 5 else 0)else 1):=by
 unfold redF;cases zAb x.frm 1 5<;>cases (x.frm==into)<;>cases zAb x.metric least most<;>cases zAb x.tag 0 65535<;>simp
theorem zIy(r:Rt)(l:List Rd)(v:Value)(into least most types:Int)(ht:into=3∧types=2∨into≠3∧types=0)(w:World)(B:Nat)(hB:B≤w.heap.size)(h:r.at w B)(hl:SlV w B 5 Rd.C v l):Calls Tryz.prog 130 #[.agg r.C,v,.int .i64 into,.int .i64 least,.int .i64 most] w fun e w' => e=.returned (.int .i64 (redE r.maps into least most types l))∧Below w.heap.size w w' := by
 have HBB:=hid hB;have HR:=hid h;have HB:=hid (RB.start r w);have HWI:=hid zCo;have hlen:=hl.len;simp only[maxLen]at hlen;obtain⟨A,c,rfl,-⟩:=id hl;have HS:=hid hl;have HT:=hid ht;clear h hl ht;obtain⟨res,hres⟩:∃res,redE r.maps into least most types l=res:=⟨_,rfl⟩;rw[hres];by_cases h8:4<l.length
 ·have E:Hid (res=7):=hid (by rw[←hres];exact if_pos h8)
  have d8:(4:Int)<(l.length:Int):=by omega
  clear hres;go_enter Tryz.func130,Tryz.ntmps130;go_wp2;go_ret;exact⟨zAc E.out.symm,HB.out.b⟩
 have d8:¬((4:Int)<(l.length:Int)):=by omega
 have E:Hid (zAt (redF r.maps into least most types) zCt 4 l l 0=res):=hid (by rw[←hres];exact(if_neg h8).symm);clear hres;go_enter Tryz.func130,Tryz.ntmps130;go_wp2_with fail;clear d8;go_loopg [11] l.length (fun gh ix wr=>∃k:Nat,k+gh=l.length∧ix=.int .i64 k∧Hid (RB r w wr)∧Hid (zAt (redF r.maps into least most types) zCt 4 l (l.drop k) k=res));case atStart=>exact⟨0,by omega,rfl,HB,E⟩
 case round=>
  clear HB E;obtain⟨k,hk,rfl,HB,HG⟩:=hrel;by_cases hlt:k<l.length;case neg=>
   have hkz:¬((k:Int)<(l.length:Int)):=by omega
   have E:=hid (zCl hlt HG.out);go_wp2;go_ret;exact⟨zAc E.out.symm,HB.out.b⟩
  have hkz:(k:Int)<(l.length:Int):=by omega
  obtain⟨g,o,c', e',-,hg,R0⟩:=HS.out.elem (n:=5) (by decide) (fun _=>rfl) hlt;injection e' with e1 e2 e3
  subst e1 e3;have r1:=hid (zAg R0 (HB.out.b.mono HBB.out) hg);have HPA:=zCw hlt HG.out;have HR5:Hid (redF r.maps into least most types l[k]≠0→res=redF r.maps into least most types l[k]):=hid (zBg HPA);have HT0:Hid (redF r.maps into least most types l[k]=0→res=if(l.take k).any (zCt l[k])then 4 else zAt (redF r.maps into least most types) zCt 4 l (l.drop (k+1)) (k+1)):=hid (zDz HPA);clear HPA HG;generalize l[k]=x at r1 HR5 HT0;clear R0 e2;go_upto_region 7 with(first|(refine zAa rfl 230 _ rfl rfl r1.out Tryz.rowRd Tryz.sizeRd ?_)|(refine zAd rfl 230 _ _ rfl rfl rfl (HasC.new wr _ _) rfl Tryz.sizeRd (Rd.one x) ?_;intro w5 hz1 hz2))
  have H5:Hid (RBL r w 230 wr.heap.size x.C w5):=hid (let q:=HB.out.keep (zAi hz2);⟨q.h,q.b,hz1⟩);clear hz1 hz2 r1 HB;generalize wr.heap.size=gx at H5⊢;have HW:=hid (rd_ways (maps:=r.maps) (into:=into) (least:=least) (most:=most) (types:=types) x);have HSX:Hid (∀y,zCt x y=(y.frm==x.frm)):=hid fun _=>rfl
  generalize zCt x=sx at HT0 HSX;generalize redF r.maps into least most types x=fx at HR5 HT0 HW;obtain⟨frm,metric,tag,map,typ⟩:=x;dsimp only at HW HSX;obtain⟨x0,x1,x2⟩:=bl3 H5.out.l;have x3:w5.cell? ⟨gx,3,none⟩=some (.string (str map)):=H5.out.l.cell 3;have x4:=cl4 H5.out.l;have IN:(into != 3) = !(into==3):=rfl;have LK:=hid (fun W (h:RBL r w 230 gx (Rd.C ⟨frm,metric,tag,map,typ⟩) W)=>zHz r map W B (HR.out.below (h.b.mono HBB.out)) (yJ HBB.out h.b.size));have CF:Hid (∀W,RBL r w 230 gx (Rd.C ⟨frm,metric,tag,map,typ⟩) W→W.cell? ⟨gx,0,none⟩=some (.int .i64 frm)):=hid (fun W h=>h.l.cell 0);have CG:Hid (∀W,RBL r w 230 gx (Rd.C ⟨frm,metric,tag,map,typ⟩) W→W.cell? ⟨gx,3,none⟩=some (.string (str map))):=hid (fun W h=>h.l.cell 3);generalize Rd.C ⟨frm,metric,tag,map,typ⟩=cs at H5 LK CF CG;have WARM:True:=trivial;rcases HW.out with⟨hfx,(k1|⟨k1,k2⟩|⟨k1,k2,k3⟩|⟨k1,k2,k3,k4⟩)⟩|⟨k1,k2,k3,k4,hfx⟩
  iterate 4
   ·have E:Hid (res=1):=hid (by rw[HR5.out (by rw[hfx];decide),hfx])
    clear hfx HT0 HR5 HW HSX LK CF CG HT IN;go_wp2_with (go_at_call 51;refine(HWI.out _ _ _ _).mono ?_;rintro e w' ⟨rfl,rfl⟩);go_ret;exact⟨zAc E.out.symm,H5.out.b⟩
  have HFX:=hid hfx;clear HW hfx WARM
  have TY:(zAb typ (min 1 types) types=true∧((into=3∧(typ=1∨typ=2))∨((into==3)=false∧typ=0)))∨(zAb typ (min 1 types) types=false∧((into=3∧(typ==1)=false∧(typ != 1)=true∧(typ==2)=false∧(typ != 2)=true)∨((into==3)=false∧(typ==0)=false∧(typ != 0)=true))):=by
   rcases HT.out with⟨a1,a2⟩|⟨a1,a2⟩
   ·subst a1 a2
    by_cases h1:typ=1
    ·exact .inl ⟨by rw[h1];rfl,.inl ⟨rfl,.inl h1⟩⟩
    ·by_cases h2:typ=2
     ·exact .inl ⟨by rw[h2];rfl,.inl ⟨rfl,.inr h2⟩⟩
     ·refine .inr ⟨?_,.inl ⟨rfl,by simpa using h1,by simpa using h1,by simpa using h2,by simpa using h2⟩⟩
      rw[←Bool.not_eq_true];intro h;have:=within_ok' h;omega
   ·subst a2
    by_cases h1:typ=0
    ·exact .inl ⟨by rw[h1];rfl,.inr ⟨by simpa using a1,h1⟩⟩
    ·refine .inr ⟨?_,.inr ⟨by simpa using a1,by simpa using h1,by simpa using h1⟩⟩
     rw[←Bool.not_eq_true];intro h;have:=within_ok' h;omega
  generalize zAb typ (min 1 types) types=ty at TY HFX;clear HT;go_upto_region 9 with(go_at_call 51;refine(HWI.out _ _ _ _).mono ?_;rintro e w' ⟨rfl,rfl⟩)
  go_cut [71] (fun v wx=>v=.bool (!ty)∧RBL r w 230 gx cs wx)
  case first=>
   rcases TY with⟨rfl,(⟨rfl,rfl|rfl⟩|⟨t1,rfl⟩)⟩|⟨rfl,(⟨rfl,t2,t3,t4,t5⟩|⟨t1,t2,t3⟩)⟩
   all_goals
    try rw[t1]at IN
    go_wp2;go_meet;exact⟨rfl,H5.out⟩
  case rest=>
  obtain⟨hv5,h5⟩:=hcut;subst hv5;replace H5:=hid h5;clear h5 TY IN x0 x1 x2 x3 x4;cases ty with
  |false=>
   have E:Hid (res=1):=hid (by
    have q:fx=1:=HFX.out
    rw[HR5.out (by rw[q];decide),q])
   go_wp2;go_ret;exact⟨zAc E.out.symm,H5.out.b⟩
  |true=>
  have HFM:Hid (fx=if zAx (fun y:RMap=>y.name) r.maps map then 5 else 0):=hid HFX.out;clear HFX
  have MP:(map=[]∧(str map).toList=[]∧zAx (fun y:RMap=>y.name) r.maps map=false)∨(map≠[]∧((str map).toList==[])=false∧((str map).toList != [])=true∧decide (idxF (fun y=>y.name==map) r.maps 0<0)=zAx (fun y:RMap=>y.name) r.maps map):=by
   by_cases hm:map=[]
   ·exact .inl ⟨hm,by rw[hm,zAh],by rw[hm];rfl⟩
   ·refine .inr ⟨hm,(zCp hm).2.1,(zCp hm).2.2,?_⟩
    unfold zAx;rw[(zCp hm).1];rfl
  generalize zAx (fun y:RMap=>y.name) r.maps map=lk at MP HFM;have CM:=hid (CG.out _ H5.out);go_upto_region 11 with fail
  go_cut [81] (fun v wx=>v=.bool lk∧RBL r w 230 gx cs wx)
  case first=>
   have x3:=CM.out;rcases MP with⟨rfl,m2,rfl⟩|⟨m1,m2,m3,m4⟩
   ·go_wp2_with fail
    go_meet;exact⟨rfl,H5.out⟩
   ·go_wp2_with (first|(refine zAa rfl 41 _ rfl rfl H5.out.h.range Tryz.rowRt Tryz.sizeRt ?_)|(refine zAj (by rfl) (zAa rfl 41 _ rfl rfl H5.out.h.range Tryz.rowRt Tryz.sizeRt ?_)))
    with_reducible refine(LK.out _ H5.out).mono ?_
    rintro e wz ⟨rfl,hb⟩;have HZ:=hid (H5.out.keep hb);clear hb x3 CM;go_wp2;go_meet;exact⟨rfl,HZ.out⟩
  case rest=>
  obtain⟨hv5,h5⟩:=hcut;subst hv5;have HZ:=hid h5;clear h5 H5 MP LK CM CG;cases lk with
  |true=>
   have E:Hid (res=5):=hid (by
    have q:fx=5:=HFM.out
    rw[HR5.out (by rw[q];decide),q])
   go_wp2;go_ret;exact⟨zAc E.out.symm,HZ.out.b⟩
  |false=>
  have HT1:=hid (HT0.out HFM.out);clear HT0 HR5 HFM;go_wp2;go_loopg [13] k (fun gh ix wq=>∃j:Nat,j+gh=k∧ix=.int .i64 j∧Hid (RBL r w 230 gx cs wq)∧Hid (∀i (hi:i<l.length),i<j→sx l[i]=false));case atStart=>exact⟨0,by omega,rfl,HZ,hid fun _ _ h=>absurd h (Nat.not_lt_zero _)⟩
  case round=>
   clear HZ;obtain⟨j,hj,rfl,HQ,HN⟩:=hrel;by_cases hjl:j<k;case pos=>
    have hjn:j<l.length:=by omega
    have hjz:(j:Int)<(k:Int):=by omega
    have hjm:(j:Int)<(l.length:Int):=by omega
    obtain⟨g', o', c'', e',-,hg', R0⟩:=HS.out.elem (n:=5) (by decide) (fun _=>rfl) hjn;injection e' with e1 e2 e3
    injection e1 with e1
    injection e1 with e1 e4
    subst e1 e4;have y0:wr.cell? ⟨g,o+j*5,none⟩=some (.int .i64 l[j].frm):=zAg R0 (HQ.out.b.mono HBB.out) hg' 0 _ rfl;have x0:=CF.out wr HQ.out;have HH:Hid (sx l[j]=true→res=4):=hid fun h=>by rw[HT1.out,zHi hjn hjl h];rfl
    have HM:Hid (sx l[j]=false→∀i (hi:i<l.length),i<j+1→sx l[i]=false):=hid fun h i hi hlt=>by
     rcases Nat.lt_or_ge i j with h1|h1
     ·exact HN.out i hi h1
     ·obtain rfl:i=j:=by omega
      exact h
    have hs:(l[j].frm==frm)=sx l[j]:=(HSX.out _).symm;generalize l[j].frm=yf at y0 hs;generalize sx l[j]=b0 at hs HH HM;clear R0 e2 e3 HN;have HQ2:=hid (HQ.out.keep (zAo wr));cases b0 with
    |true=>
     have E:=hid (HH.out rfl);clear HH HM;go_wp2_with fail;go_still (by kernel_rfl);go_wp2;go_ret;exact⟨zAc E.out.symm,HQ2.out.b⟩
    |false=>
    have HN3:=hid (HM.out rfl);clear HH HM;go_wp2_with fail;go_still (by kernel_rfl);go_wp2;go_roundg (k - (j+1));case measure=>omega
    case rel=>exact⟨j+1,by omega,by go_num,HQ2,HN3⟩
   have hjz:¬((j:Int)<(k:Int)):=by omega
   obtain rfl:j=k:=by omega
   have EN:Hid (zAt (redF r.maps into least most types) zCt 4 l (l.drop (j+1)) (j+1)=res):=hid (by rw[HT1.out,zHe (by omega) HN.out];rfl);go_wp2;go_roundg (l.length - (j+1));case measure=>omega
   case rel=>exact⟨j+1,by omega,by go_num,hid ⟨HQ.out.h,HQ.out.b⟩,EN⟩
theorem dv_ways(r:Rt):(r.dvOn=false∧dvE r=1∧NZ r.dvAdmin)∨(r.dvOn=false∧dvE r=1∧r.dvAdmin=0∧r.dvIn.isEmpty=false∧((str r.dvIn).toList==[])=false∧((str r.dvIn).toList != [])=true)∨(r.dvOn=false∧dvE r=1∧r.dvAdmin=0∧r.dvIn=[]∧r.dvOut.isEmpty=false∧((str r.dvOut).toList==[])=false∧((str r.dvOut).toList != [])=true)∨(r.dvOn=false∧dvE r=1∧r.dvAdmin=0∧r.dvIn=[]∧r.dvOut=[]∧(0:Int)<(r.dvRed.length:Int))∨(r.dvOn=false∧dvE r=0∧r.dvAdmin=0∧r.dvIn=[]∧r.dvOut=[]∧r.dvRed.length=0)∨(r.dvOn=true∧dvE r=1∧zAb r.dvAdmin 1 255=false) ∨
  (r.dvOn=true∧zAb r.dvAdmin 1 255=true∧(((r.dvIn≠[]∧decide (idxF (fun y=>y.name==r.dvIn) r.lists 0<0)=true)∨(r.dvOut≠[]∧decide (idxF (fun y=>y.name==r.dvOut) r.lists 0<0)=true)→dvE r=5) ∧
   ((r.dvIn=[]∨decide (idxF (fun y=>y.name==r.dvIn) r.lists 0<0)=false)→(r.dvOut=[]∨decide (idxF (fun y=>y.name==r.dvOut) r.lists 0<0)=false)→redE r.maps 4 1 15 0 r.dvRed=dvE r))):=by
 unfold dvE;cases ho:r.dvOn with
 |false=>
  rw[if_neg (by decide)];by_cases h1:r.dvAdmin=0;case neg=>exact .inl ⟨rfl,by simp[h1],nzI h1⟩
  by_cases h2:r.dvIn=[];case neg=>exact .inr (.inl ⟨rfl,by simp[h2],h1,zCp h2⟩)
  by_cases h3:r.dvOut=[];case neg=>exact .inr (.inr (.inl ⟨rfl,by simp[h3],h1,h2,zCp h3⟩))
  by_cases h4:r.dvRed.length=0
  ·exact .inr (.inr (.inr (.inr (.inl ⟨rfl,by rw[h1,h2,h3,h4];rfl,h1,h2,h3,h4⟩))))
  ·exact .inr (.inr (.inr (.inl ⟨rfl,by rw[if_pos];rw[show decide ((0:Int)<r.dvRed.length)=true by simp;omega,Bool.or_true],h1,h2,h3,by omega⟩)))
 |true=>
  rw[if_pos rfl];cases hw:zAb r.dvAdmin 1 255 with
  |false=>exact .inr (.inr (.inr (.inr (.inr (.inl ⟨rfl,rfl,rfl⟩)))))
  |true=>
   refine .inr (.inr (.inr (.inr (.inr (.inr ⟨rfl,rfl,fun h=>?_,fun h1 h2=>?_⟩)))))
   ·unfold dnF
    rcases h with h|h
    ·rw[(zGd (name:=fun y:PList=>y.name)).1 h];rfl
    ·rw[(zGd (name:=fun y:PList=>y.name) (l:=r.lists) (n:=r.dvOut)).1 h,Bool.or_true];rfl
   ·unfold dnF
    rw[(zGd (name:=fun y:PList=>y.name)).2 h1,(zGd (name:=fun y:PList=>y.name)).2 h2];rfl
theorem rdistance_all(r:Rt)(w:World)(B:Nat)(hB:B≤w.heap.size)(h:r.at w B):Calls Tryz.prog 60 #[.agg r.C] w fun e w' => e=.returned (.int .i64 (dvE r))∧Below w.heap.size w w' := by
 have HBB:=hid hB;have H0:=RB.start r w;have HR:=hid h;have HWI:=hid zCo;obtain⟨A2,c2,hv2,-⟩:=id h.hdvRed;have HLR:=h.hdvRed;rw[hv2]at HLR;replace HLR:=hid HLR;have HW:=hid (dv_ways r);generalize dvE r=res at HW⊢
 have HO:(#[.bool r.dvOn,.int .i64 r.dvAdmin,.string (str r.dvIn),.string (str r.dvOut),.slice A2 r.dvRed.length c2]:Array Value).all (·.oneCell')=true:=by
  rw[Array.all_eq_true_iff_forall_mem];intro v hv;simp only[List.mem_toArray,List.mem_cons,List.not_mem_nil,or_false]at hv;rcases hv with rfl|rfl|rfl|rfl|rfl<;>rfl
 have HSh:=hid (H0.h.sub 12 #[.bool r.dvOn,.int .i64 r.dvAdmin,.string (str r.dvIn),.string (str r.dvOut),.slice A2 r.dvRed.length c2] (fun j hj=>by
  have hj' : j<5:=hj
  rcases(show j=0∨j=1∨j=2∨j=3∨j=4 by omega)with rfl|rfl|rfl|rfl|rfl<;>first|rfl|(show some _=some _;simp only[Option.some.injEq];assumption)))
 have H0h:=hid H0;clear H0 hv2 h hB;go_enter Tryz.func60,Tryz.ntmps60;go_upto_region 2 with(refine zAa rfl 33 _ rfl rfl HSh.out Tryz.rowDV Tryz.sizeDV ?_)
 have H5:Hid (RBL r w 33 (w.alloc (.cells r.C 41)).heap.size #[.bool r.dvOn,.int .i64 r.dvAdmin,.string (str r.dvIn),.string (str r.dvOut),.slice A2 r.dvRed.length c2] ((w.alloc (.cells r.C 41)).alloc (.cells #[.bool r.dvOn,.int .i64 r.dvAdmin,.string (str r.dvIn),.string (str r.dvOut),.slice A2 r.dvRed.length c2] 33))):=hid ⟨(H0h.out.keep ((Below.refl _ _).alloc (yI _) _)).h,(H0h.out.keep ((Below.refl _ _).alloc (yI _) _)).b,HasC.new _ _ _⟩;clear H0h HSh HO;generalize hw5:(w.alloc (.cells r.C 41)).alloc (.cells #[.bool r.dvOn,.int .i64 r.dvAdmin,.string (str r.dvIn),.string (str r.dvOut),.slice A2 r.dvRed.length c2] 33)=w5 at H5⊢;clear hw5;rw[show(w.alloc (.cells r.C 41)).heap.size=w.heap.size+1 from by simp]at H5;generalize w.heap.size+1=gl at H5⊢;obtain⟨lc0,lc1⟩:=bl2 H5.out.l;have lc2:w5.cell? ⟨gl,2,none⟩=some (.string (str r.dvIn)):=H5.out.l.cell 2;have lc3:w5.cell? ⟨gl,3,none⟩=some (.string (str r.dvOut)):=H5.out.l.cell 3;have lc4:=cl4 H5.out.l;have WARM:True:=trivial;have tn:=zAh ([]:List UInt8);have hlm:=HLR.out.len;unfold maxLen at hlm;rcases HW.out with⟨o1,E,v1,v2⟩|⟨o1,E,o2,v3,v4,v5⟩|⟨o1,E,o2,o3,v3,v4,v5⟩|⟨o1,E,o2,o3,o4,v9⟩|⟨o1,E,o2,o3,o4,o5⟩|⟨o1,E,v1⟩|⟨o1,o2,DW⟩
 case' inr.inr.inr.inr.inr.inr=>
  have OW:=hid DW;clear DW lc2 lc3 lc4 WARM tn
 all_goals
  first
   | (replace E := hid E
      clear HW HR HLR;rw[o1]at lc0
      try rw[o2]at lc1
      try rw[o3]at lc2
      try rw[o4]at lc3
      try rw[o5]at lc4
      go_wp2_with (go_at_call 51;refine(HWI.out _ _ _ _).mono ?_;rintro e w' ⟨rfl,rfl⟩);go_ret
      exact⟨zAc E.out.symm,H5.out.b⟩)
   |skip
 rw[o1]at lc0;have HLT:Hid (∀w', RBL r w 33 gl #[.bool r.dvOn,.int .i64 r.dvAdmin,.string (str r.dvIn),.string (str r.dvOut),.slice A2 r.dvRed.length c2] w' → w'.cell? ⟨gl,4,none⟩=some (.slice A2 r.dvRed.length c2)):=hid (fun w' h=>h.l.cell 4);clear HW;have y2:w5.cell? ⟨gl,2,none⟩=some (.string (str r.dvIn)):=H5.out.l.cell 2;by_cases hn6:r.dvIn=[]
 ·rw[hn6]at y2
  have tn6:=zAh ([]:List UInt8);have y3:w5.cell? ⟨gl,3,none⟩=some (.string (str r.dvOut)):=H5.out.l.cell 3;by_cases hn7:r.dvOut=[]
  ·rw[hn7]at y3
   have tn7:=zAh ([]:List UInt8);have lz:=HLT.out _ H5.out;go_wp2_with (first|(go_at_call 51;refine(HWI.out _ _ _ _).mono ?_;rintro e w' ⟨rfl,rfl⟩)|(first|(refine zAa rfl 41 _ rfl rfl H5.out.h.range Tryz.rowRt Tryz.sizeRt ?_)|(refine zAj (by rfl) (zAa rfl 41 _ rfl rfl H5.out.h.range Tryz.rowRt Tryz.sizeRt ?_))));have EF:=hid (OW.out.2 (.inl hn6) (.inl hn7));with_reducible refine(zIy r r.dvRed (.slice A2 r.dvRed.length c2) 4 1 15 0 (.inr ⟨by decide,rfl⟩) w5 B (yJ HBB.out H5.out.b.size) (HR.out.below (H5.out.b.mono HBB.out)) (HLR.out.below (H5.out.b.mono HBB.out))).mono ?_
   rintro e wz ⟨rfl,hb⟩;have HZ:=hid (H5.out.keep hb);clear hb lz;go_wp2;go_ret;exact⟨zAc EF.out,HZ.out.b⟩
  obtain⟨i7,j7,k7⟩:=zCp hn7;go_wp2_with (first|(go_at_call 51;refine(HWI.out _ _ _ _).mono ?_;rintro e w' ⟨rfl,rfl⟩)|(first|(refine zAa rfl 41 _ rfl rfl H5.out.h.range Tryz.rowRt Tryz.sizeRt ?_)|(refine zAj (by rfl) (zAa rfl 41 _ rfl rfl H5.out.h.range Tryz.rowRt Tryz.sizeRt ?_))));with_reducible refine(zFx r r.dvOut w5 B (HR.out.below (H5.out.b.mono HBB.out)) (yJ HBB.out H5.out.b.size)).mono ?_
  rintro e w7 ⟨rfl,hb⟩;have H7:=hid (H5.out.keep hb);clear hb y3 i7 j7 k7;cases d7:decide (idxF (fun y:PList=>y.name==r.dvOut) r.lists 0<0)with
  |true=>
   have E:Hid (res=5):=hid (OW.out.1 (.inr ⟨hn7,d7⟩));go_wp2;go_ret;exact⟨zAc E.out.symm,H7.out.b⟩
  |false=>
  have lz:=HLT.out _ H7.out;go_wp2_with (first|(go_at_call 51;refine(HWI.out _ _ _ _).mono ?_;rintro e w' ⟨rfl,rfl⟩)|(first|(refine zAa rfl 41 _ rfl rfl H7.out.h.range Tryz.rowRt Tryz.sizeRt ?_)|(refine zAj (by rfl) (zAa rfl 41 _ rfl rfl H7.out.h.range Tryz.rowRt Tryz.sizeRt ?_))));have EF:=hid (OW.out.2 (.inl hn6) (.inr d7));with_reducible refine(zIy r r.dvRed (.slice A2 r.dvRed.length c2) 4 1 15 0 (.inr ⟨by decide,rfl⟩) w7 B (yJ HBB.out H7.out.b.size) (HR.out.below (H7.out.b.mono HBB.out)) (HLR.out.below (H7.out.b.mono HBB.out))).mono ?_
  rintro e wz ⟨rfl,hb⟩;have HZ:=hid (H7.out.keep hb);clear hb lz;go_wp2;go_ret;exact⟨zAc EF.out,HZ.out.b⟩
 obtain⟨i6,j6,k6⟩:=zCp hn6;go_wp2_with (first|(go_at_call 51;refine(HWI.out _ _ _ _).mono ?_;rintro e w' ⟨rfl,rfl⟩)|(first|(refine zAa rfl 41 _ rfl rfl H5.out.h.range Tryz.rowRt Tryz.sizeRt ?_)|(refine zAj (by rfl) (zAa rfl 41 _ rfl rfl H5.out.h.range Tryz.rowRt Tryz.sizeRt ?_))));with_reducible refine(zFx r r.dvIn w5 B (HR.out.below (H5.out.b.mono HBB.out)) (yJ HBB.out H5.out.b.size)).mono ?_
 rintro e w6 ⟨rfl,hb⟩;have H6:=hid (H5.out.keep hb);clear hb y2 i6 j6 k6;cases d6:decide (idxF (fun y:PList=>y.name==r.dvIn) r.lists 0<0)with
 |true=>
  have E:Hid (res=5):=hid (OW.out.1 (.inl ⟨hn6,d6⟩));go_wp2;go_ret;exact⟨zAc E.out.symm,H6.out.b⟩
 |false=>
 have y3:w6.cell? ⟨gl,3,none⟩=some (.string (str r.dvOut)):=H6.out.l.cell 3;by_cases hn7:r.dvOut=[]
 ·rw[hn7]at y3
  have tn7:=zAh ([]:List UInt8);have lz:=HLT.out _ H6.out;go_wp2_with (first|(go_at_call 51;refine(HWI.out _ _ _ _).mono ?_;rintro e w' ⟨rfl,rfl⟩)|(first|(refine zAa rfl 41 _ rfl rfl H6.out.h.range Tryz.rowRt Tryz.sizeRt ?_)|(refine zAj (by rfl) (zAa rfl 41 _ rfl rfl H6.out.h.range Tryz.rowRt Tryz.sizeRt ?_))));have EF:=hid (OW.out.2 (.inr d6) (.inl hn7));with_reducible refine(zIy r r.dvRed (.slice A2 r.dvRed.length c2) 4 1 15 0 (.inr ⟨by decide,rfl⟩) w6 B (yJ HBB.out H6.out.b.size) (HR.out.below (H6.out.b.mono HBB.out)) (HLR.out.below (H6.out.b.mono HBB.out))).mono ?_
  rintro e wz ⟨rfl,hb⟩;have HZ:=hid (H6.out.keep hb);clear hb lz;go_wp2;go_ret;exact⟨zAc EF.out,HZ.out.b⟩
 obtain⟨i7,j7,k7⟩:=zCp hn7;go_wp2_with (first|(go_at_call 51;refine(HWI.out _ _ _ _).mono ?_;rintro e w' ⟨rfl,rfl⟩)|(first|(refine zAa rfl 41 _ rfl rfl H6.out.h.range Tryz.rowRt Tryz.sizeRt ?_)|(refine zAj (by rfl) (zAa rfl 41 _ rfl rfl H6.out.h.range Tryz.rowRt Tryz.sizeRt ?_))));with_reducible refine(zFx r r.dvOut w6 B (HR.out.below (H6.out.b.mono HBB.out)) (yJ HBB.out H6.out.b.size)).mono ?_
 rintro e w7 ⟨rfl,hb⟩;have H7:=hid (H6.out.keep hb);clear hb y3 i7 j7 k7;cases d7:decide (idxF (fun y:PList=>y.name==r.dvOut) r.lists 0<0)with
 |true=>
  have E:Hid (res=5):=hid (OW.out.1 (.inr ⟨hn7,d7⟩));go_wp2;go_ret;exact⟨zAc E.out.symm,H7.out.b⟩
 |false=>
 have lz:=HLT.out _ H7.out;go_wp2_with (first|(go_at_call 51;refine(HWI.out _ _ _ _).mono ?_;rintro e w' ⟨rfl,rfl⟩)|(first|(refine zAa rfl 41 _ rfl rfl H7.out.h.range Tryz.rowRt Tryz.sizeRt ?_)|(refine zAj (by rfl) (zAa rfl 41 _ rfl rfl H7.out.h.range Tryz.rowRt Tryz.sizeRt ?_))));have EF:=hid (OW.out.2 (.inr d6) (.inr d7));with_reducible refine(zIy r r.dvRed (.slice A2 r.dvRed.length c2) 4 1 15 0 (.inr ⟨by decide,rfl⟩) w7 B (yJ HBB.out H7.out.b.size) (HR.out.below (H7.out.b.mono HBB.out)) (HLR.out.below (H7.out.b.mono HBB.out))).mono ?_
 rintro e wz ⟨rfl,hb⟩;have HZ:=hid (H7.out.keep hb);clear hb lz;go_wp2;go_ret;exact⟨zAc EF.out,HZ.out.b⟩
theorem RB.range{r:Rt}{w0 w:World}(h:RB r w0 w):w.rangeAt w0.heap.size 0 r.C.toList:=h.h.range
theorem nb_ways{maps:List RMap}(x:Nb):(nbF maps x=1∧((x.addr:Int)==0)=true)∨(nbF maps x=1∧((x.addr:Int)==0)=false∧zAb x.asn 1 65535=false)∨(((x.addr:Int)==0)=false∧zAb x.asn 1 65535=true∧nbF maps x=if zAx (fun y:RMap=>y.name) maps x.inn||zAx (fun y:RMap=>y.name) maps x.out then 5 else 0):=by
 unfold nbF;by_cases h:x.addr=0
 ·exact .inl ⟨by rw[h];rfl,by simp[h]⟩
 have h0:(x.addr==0)=false:=by simpa using h
 have h1:((x.addr:Int)==0)=false:=by simp;omega
 rw[h0,h1];cases zAb x.asn 1 65535 with
 |false=>exact .inr (.inl ⟨rfl,rfl,rfl⟩)
 |true=>exact .inr (.inr ⟨rfl,rfl,rfl⟩)
theorem nb_str{l:List RMap}(n:List UInt8):(n=[]∧zAx (fun y:RMap=>y.name) l n=false)∨(((str n).toList==[])=false∧((str n).toList != [])=true∧decide (idxF (fun y=>y.name==n) l 0<0)=zAx (fun y:RMap=>y.name) l n):=by
 by_cases hm:n=[]
 ·exact .inl ⟨hm,by rw[hm];rfl⟩
 ·refine .inr ⟨(zCp hm).2.1,(zCp hm).2.2,?_⟩
  unfold zAx;rw[(zCp hm).1];rfl
theorem rneighbors_all(r:Rt)(w:World)(B:Nat)(hB:B≤w.heap.size)(h:r.at w B):Calls Tryz.prog 131 #[.agg r.C] w fun e w' => e=.returned (.int .i64 (nbsE r.maps r.nb))∧Below w.heap.size w w' := by
 have HBB:=hid hB;have HR:=hid h;have HB:=hid (RB.start r w);have HWI:=hid zCo;have hl:=h.hnb;have hlen:=hl.len;simp only[maxLen]at hlen;have c20:(w.alloc (.cells r.C 41)).cell? ⟨w.heap.size,20,none⟩=some r.nbV:=HB.out.h.cell 20;generalize r.nb=l at *;obtain⟨A,c,hv,-⟩:=id hl;rw[hv]at hl c20;have HS:=hid hl;clear h hl hv;obtain⟨res,hres⟩:∃res,nbsE r.maps l=res:=⟨_,rfl⟩;rw[hres];by_cases h8:8<l.length
 ·have E:Hid (res=7):=hid (by rw[←hres];exact if_pos h8)
  have d8:(8:Int)<(l.length:Int):=by omega
  clear hres;go_enter Tryz.func131,Tryz.ntmps131;go_wp2;go_ret;exact⟨zAc E.out.symm,HB.out.b⟩
 have d8:¬((8:Int)<(l.length:Int)):=by omega
 have E:Hid (zAt (nbF r.maps) zBh 4 l l 0=res):=hid (by rw[←hres];exact(if_neg h8).symm);clear hres;go_enter Tryz.func131,Tryz.ntmps131;go_wp2_with fail;clear d8 c20;go_loopg [4] l.length (fun gh ix wr=>∃k:Nat,k+gh=l.length∧ix=.int .i64 k∧Hid (RB r w wr)∧Hid (zAt (nbF r.maps) zBh 4 l (l.drop k) k=res));case atStart=>exact⟨0,by omega,rfl,HB,E⟩
 case round=>
  clear HB E;obtain⟨k,hk,rfl,HB,HG⟩:=hrel;by_cases hlt:k<l.length;case neg=>
   have hkz:¬((k:Int)<(l.length:Int)):=by omega
   have E:=hid (zCl hlt HG.out);go_wp2;go_ret;exact⟨zAc E.out.symm,HB.out.b⟩
  have hkz:(k:Int)<(l.length:Int):=by omega
  obtain⟨g,o,c', e',-,hg,R0⟩:=HS.out.elem (n:=4) (by decide) (fun _=>rfl) hlt;injection e' with e1 e2 e3
  subst e1 e3;have HPA:=zCw hlt HG.out;have HR5:Hid (nbF r.maps l[k]≠0→res=nbF r.maps l[k]):=hid (zBg HPA);have HT0:Hid (nbF r.maps l[k]=0→res=if(l.take k).any (zBh l[k])then 4 else zAt (nbF r.maps) zBh 4 l (l.drop (k+1)) (k+1)):=hid (zDz HPA);clear HPA HG;have XA:Hid (∀W,RB r w W→W.cell? ⟨g,o+k*4,none⟩=some (.int .u32 (l[k].addr:Int))∧W.cell? ⟨g,o+k*4+1,none⟩=some (.int .i64 l[k].asn)∧W.cell? ⟨g,o+k*4+2,none⟩=some (.string (str l[k].inn))∧W.cell? ⟨g,o+k*4+3,none⟩=some (.string (str l[k].out))):=hid (fun W h=>have hb:=h.b.mono HBB.out;⟨(hb.cell (p:=⟨g,o+k*4,none⟩) hg).trans (R0 0 _ rfl),(hb.cell (p:=⟨g,o+k*4+1,none⟩) hg).trans (R0 1 _ rfl),(hb.cell (p:=⟨g,o+k*4+2,none⟩) hg).trans (R0 2 _ rfl),(hb.cell (p:=⟨g,o+k*4+3,none⟩) hg).trans (R0 3 _ rfl)⟩);clear R0 e2;generalize l[k]=x at *;have HW:=hid (nb_ways (maps:=r.maps) x);have HSX:Hid (∀y,zBh x y=(y.addr==x.addr)):=hid fun _=>rfl
  generalize zBh x=sx at HT0 HSX;generalize nbF r.maps x=fx at HR5 HT0 HW;have E1:Hid (fx=1→res=1):=hid fun q=>by rw[HR5.out (by rw[q];decide),q]
  have E5:Hid (fx=5→res=5):=hid fun q=>by rw[HR5.out (by rw[q];decide),q]
  obtain⟨addr,asn,inn,out⟩:=x;dsimp only at XA HW HSX;obtain⟨xa,xs,xi,xo⟩:=XA.out wr HB.out;rcases HW.out with⟨hfx,v1⟩|⟨hfx,v1,k2⟩|⟨v1,k2,hfx⟩
  iterate 2
   ·have E:=hid (E1.out hfx)
    clear hfx HT0 HR5 HW HSX;go_wp2_with (go_at_call 51;refine(HWI.out _ _ _ _).mono ?_;rintro e w' ⟨rfl,rfl⟩);go_ret;exact⟨zAc E.out.symm,HB.out.b⟩
  have HNF:=hid hfx;clear hfx HW E1 HR5;go_wp2_with (go_at_call 51;refine(HWI.out _ _ _ _).mono ?_;rintro e w' ⟨rfl,rfl⟩);clear xa xs xi xo v1 k2;have LI:=hid (fun W (h:RB r w W)=>zHz r inn W B (HR.out.below (h.b.mono HBB.out)) (yJ HBB.out h.b.size));have LO:=hid (fun W (h:RB r w W)=>zHz r out W B (HR.out.below (h.b.mono HBB.out)) (yJ HBB.out h.b.size));have SI:=nb_str (l:=r.maps) inn;have SO:=nb_str (l:=r.maps) out;generalize zAx (fun y:RMap=>y.name) r.maps inn=b1 at SI HNF;generalize zAx (fun y:RMap=>y.name) r.maps out=b2 at SO HNF;have tn:=zAh ([]:List UInt8);refine zBf (fun W=>RB r w W) (by kernel_rfl) (by kernel_rfl) (HB.out.keep (zAo wr)) ?_;rcases SI with⟨rfl,rfl⟩|⟨s1,s2,s3⟩
  case' inr=>cases b1
  all_goals rcases SO with⟨rfl,rfl⟩|⟨u1,u2,u3⟩
  all_goals try cases b2
  all_goals
   repeat
    (first
     |(refine zKf ?_ ?_;(· rfl))
     |refine zJa (zGb (by rfl) 41 _ rfl rfl (fun W hW=>RB.range hW) Tryz.rowRt Tryz.sizeRt) ?_
     |(refine zCk (v:=?_) ?_ ?_ ?_;rotate_left;(· rfl);(· (intro W hW;obtain⟨xa,xs,xi,xo⟩:=XA.out W hW;go_simp<;>rfl)))
     |(refine zBp ?_ ?_ (fun W hW=>(LI.out W hW).mono fun e w' ⟨he,hb⟩=>⟨he,hW.keep hb⟩) ?_;(· rfl);(· (intro W hW;go_simp<;>rfl)))
     |(refine zBp ?_ ?_ (fun W hW=>(LO.out W hW).mono fun e w' ⟨he,hb⟩=>⟨he,hW.keep hb⟩) ?_;(· rfl);(· (intro W hW;go_simp<;>rfl))))
    simp only[Act.put,yB,yC,yD]
   refine zDn (fun wq hS=>?_);have HZ:=hid hS;clear hS LI LO HB;go_wp2_with fail
   first
    | (have E := hid (E5.out HNF.out)
       go_ret
       exact⟨zAc E.out.symm,HZ.out.b⟩)
    |skip
  all_goals
   have HT1:=hid (HT0.out HNF.out);clear HT0 HNF E5;go_loopg [5] k (fun gh ix wq=>∃j:Nat,j+gh=k∧ix=.int .i64 j∧Hid (RB r w wq)∧Hid (∀i (hi:i<l.length),i<j→sx l[i]=false));case atStart=>exact⟨0,by omega,rfl,HZ,hid fun _ _ h=>absurd h (Nat.not_lt_zero _)⟩
   case round=>
    clear HZ;obtain⟨j,hj,rfl,HQ,HN⟩:=hrel;obtain⟨xa,xs,xi,xo⟩:=XA.out wr HQ.out;by_cases hjl:j<k;case pos=>
     have hjn:j<l.length:=by omega
     have hjz:(j:Int)<(k:Int):=by omega
     have hjm:(j:Int)<(l.length:Int):=by omega
     obtain⟨g', o', c'', e',-,hg', R0⟩:=HS.out.elem (n:=4) (by decide) (fun _=>rfl) hjn;injection e' with e1 e2 e3
     injection e1 with e1
     injection e1 with e1 e4
     subst e1 e4;have y0:wr.cell? ⟨g,o+j*4,none⟩=some (.int .u32 (l[j].addr:Int)):=zAg R0 (HQ.out.b.mono HBB.out) hg' 0 _ rfl;have HH:Hid (sx l[j]=true→res=4):=hid fun h=>by rw[HT1.out,zHi hjn hjl h];rfl
     have HM:Hid (sx l[j]=false→∀i (hi:i<l.length),i<j+1→sx l[i]=false):=hid fun h i hi hlt=>by
      rcases Nat.lt_or_ge i j with h1|h1
      ·exact HN.out i hi h1
      ·obtain rfl:i=j:=by omega
       exact h
     have hs:((l[j].addr:Int)==(addr:Int))=sx l[j]:=by
      rw[HSX.out,Bool.eq_iff_iff];simp;omega
     generalize l[j].addr=ya at y0 hs;generalize sx l[j]=b0 at hs HH HM;clear R0 e2 e3 HN;have HQ2:=hid (HQ.out.keep (zAo wr));cases b0 with
     |true=>
      have E:=hid (HH.out rfl);clear HH HM;go_wp2_with fail;go_still (by kernel_rfl);go_wp2;go_ret;exact⟨zAc E.out.symm,HQ2.out.b⟩
     |false=>
     have HN3:=hid (HM.out rfl);clear HH HM;go_wp2_with fail;go_still (by kernel_rfl);go_wp2;go_roundg (k - (j+1));case measure=>omega
     case rel=>exact⟨j+1,by omega,by go_num,HQ2,HN3⟩
    have hjz:¬((j:Int)<(k:Int)):=by omega
    obtain rfl:j=k:=by omega
    have EN:Hid (zAt (nbF r.maps) zBh 4 l (l.drop (j+1)) (j+1)=res):=hid (by rw[HT1.out,zHe (by omega) HN.out];rfl);go_wp2;go_roundg (l.length - (j+1));case measure=>omega
    case rel=>exact⟨j+1,by omega,by go_num,HQ,EN⟩
theorem lnk_ways(r:Rt):(r.lsOn=false∧lnkE r=1∧(r.lsAdmin==0)=false∧(r.lsAdmin != 0)=true)∨(r.lsOn=false∧lnkE r=1∧r.lsAdmin=0∧(0:Int)<(r.ranges.length:Int))∨(r.lsOn=false∧lnkE r=1∧r.lsAdmin=0∧r.ranges.length=0∧(0:Int)<(r.lsRed.length:Int))∨(r.lsOn=false∧lnkE r=0∧r.lsAdmin=0∧r.ranges.length=0∧r.lsRed.length=0)∨(r.lsOn=true∧lnkE r=1∧zAb r.lsAdmin 1 255=false) ∨
  (r.lsOn=true∧zAb r.lsAdmin 1 255=true∧lnkE r=if pairE 4 arF zBv 6 r.ranges=0 then redE r.maps 3 0 16777215 2 r.lsRed else pairE 4 arF zBv 6 r.ranges):=by
 unfold lnkE;cases ho:r.lsOn with
 |false=>
  rw[if_neg (by decide)];by_cases h1:r.lsAdmin=0;case neg=>exact .inl ⟨rfl,by simp[h1],by simpa using h1,by simpa using h1⟩
  by_cases h2:r.ranges.length=0;case neg=>exact .inr (.inl ⟨rfl,by rw[if_pos];rw[show decide ((0:Int)<r.ranges.length)=true by simp;omega,Bool.or_true,Bool.true_or],h1,by omega⟩)
  by_cases h3:r.lsRed.length=0;case neg=>exact .inr (.inr (.inl ⟨rfl,by rw[if_pos];rw[show decide ((0:Int)<r.lsRed.length)=true by simp;omega,Bool.or_true],h1,h2,by omega⟩))
  exact .inr (.inr (.inr (.inl ⟨rfl,by rw[h1,h2,h3];rfl,h1,h2,h3⟩)))
 |true=>
  rw[if_pos rfl];cases hw:zAb r.lsAdmin 1 255 with
  |false=>exact .inr (.inr (.inr (.inr (.inl ⟨rfl,rfl,rfl⟩))))
  |true=>exact .inr (.inr (.inr (.inr (.inr ⟨rfl,rfl,rfl⟩))))
theorem rlink_all(r:Rt)(w:World)(B:Nat)(hB:B≤w.heap.size)(h:r.at w B)(hf:∀x∈r.ranges,x.fit):Calls Tryz.prog 59 #[.agg r.C] w fun e w' => e=.returned (.int .i64 (lnkE r))∧Below w.heap.size w w' := by
 have HBB:=hid hB;have H0:=RB.start r w;have HR:=hid h;have HWI:=hid zCo;have HF:=hid hf;have hl:=h.hranges;have hlen:=hl.len;simp only[maxLen]at hlen;obtain⟨A,c,hv,-⟩:=id hl;obtain⟨A2,c2,hv2,-⟩:=id h.hlsRed;have HLR:=h.hlsRed;rw[hv2]at HLR;rw[hv]at hl;replace HLR:=hid HLR;have HS:=hid hl;have HW:=hid (lnk_ways r);generalize lnkE r=res at HW⊢;have hlr:=HLR.out.len;simp only[maxLen]at hlr;clear hf hl
 have HO:(#[.bool r.lsOn,.int .i64 r.lsAdmin,.slice A r.ranges.length c,.slice A2 r.lsRed.length c2]:Array Value).all (·.oneCell')=true:=by
  rw[Array.all_eq_true_iff_forall_mem];intro v hv;simp only[List.mem_toArray,List.mem_cons,List.not_mem_nil,or_false]at hv;rcases hv with rfl|rfl|rfl|rfl<;>rfl
 have HSh:=hid (H0.h.sub 8 #[.bool r.lsOn,.int .i64 r.lsAdmin,.slice A r.ranges.length c,.slice A2 r.lsRed.length c2] (fun j hj=>by
  have hj' : j<4:=hj
  rcases(show j=0∨j=1∨j=2∨j=3 by omega)with rfl|rfl|rfl|rfl<;>first|rfl|(show some _=some _;simp only[Option.some.injEq];assumption)))
 have H0h:=hid H0;clear H0 hv hv2 h hB;go_enter Tryz.func59,Tryz.ntmps59;go_upto_region 2 with(refine zAa rfl 31 _ rfl rfl HSh.out Tryz.rowLS Tryz.sizeLS ?_)
 have H5:Hid (RBL r w 31 (w.alloc (.cells r.C 41)).heap.size #[.bool r.lsOn,.int .i64 r.lsAdmin,.slice A r.ranges.length c,.slice A2 r.lsRed.length c2] ((w.alloc (.cells r.C 41)).alloc (.cells #[.bool r.lsOn,.int .i64 r.lsAdmin,.slice A r.ranges.length c,.slice A2 r.lsRed.length c2] 31))):=hid ⟨(H0h.out.keep ((Below.refl _ _).alloc (yI _) _)).h,(H0h.out.keep ((Below.refl _ _).alloc (yI _) _)).b,HasC.new _ _ _⟩;clear H0h HSh HO;generalize hw5:(w.alloc (.cells r.C 41)).alloc (.cells #[.bool r.lsOn,.int .i64 r.lsAdmin,.slice A r.ranges.length c,.slice A2 r.lsRed.length c2] 31)=w5 at H5⊢;clear hw5;rw[show(w.alloc (.cells r.C 41)).heap.size=w.heap.size+1 from by simp]at H5;generalize w.heap.size+1=gl at H5⊢;obtain⟨lc0,lc1,lc2,lc3⟩:=bl4 H5.out.l;have WARM:True:=trivial;rcases HW.out with⟨o1,E,v1,v2⟩|⟨o1,E,o2,v1⟩|⟨o1,E,o2,o3,v1⟩|⟨o1,E,o2,o3,o4⟩|⟨o1,E,v1⟩|⟨o1,o2,o3⟩
 iterate 5
  ·replace E:=hid E
   clear HR HF HS HLR HW;rw[o1]at lc0
   try rw[o2]at lc1
   try rw[o3]at lc2
   try rw[o4]at lc3
   generalize r.ranges.length=n2 at *;generalize r.lsRed.length=n3 at *;go_wp2_with (go_at_call 51;refine(HWI.out _ _ _ _).mono ?_;rintro e w' ⟨rfl,rfl⟩);go_ret;exact⟨zAc E.out.symm,H5.out.b⟩
 rw[o1]at lc0;have HRD:=hid o3;have CL:Hid (∀W,RBL r w 31 gl (#[.bool r.lsOn,.int .i64 r.lsAdmin,.slice A r.ranges.length c,.slice A2 r.lsRed.length c2]) W→W.cell? ⟨gl,2,none⟩=some (.slice A r.ranges.length c)∧W.cell? ⟨gl,3,none⟩=some (.slice A2 r.lsRed.length c2)):=hid (fun W h=>⟨h.l.cell 2,h.l.cell 3⟩);generalize (#[.bool r.lsOn,.int .i64 r.lsAdmin,.slice A r.ranges.length c,.slice A2 r.lsRed.length c2]:Array Value)=cs at H5 CL;clear o1 o3 HW WARM;generalize r.ranges=l at *;by_cases h8:4<l.length
 ·have E:Hid (res=7):=hid (by rw[HRD.out,show pairE 4 arF zBv 6 l=7 from if_pos h8];rfl)
  have d8:(4:Int)<(l.length:Int):=by omega
  go_wp2_with (go_at_call 51;refine(HWI.out _ _ _ _).mono ?_;rintro e w' ⟨rfl,rfl⟩);go_ret;exact⟨zAc E.out.symm,H5.out.b⟩
 have d8:¬((4:Int)<(l.length:Int)):=by omega
 have HP:Hid (pairE 4 arF zBv 6 l=zAt arF zBv 6 l l 0):=hid (if_neg h8);generalize hF0:pairE 4 arF zBv 6 l=F0 at HRD HP;clear hF0;have E0:Hid (zAt arF zBv 6 l l 0=F0):=hid HP.out.symm;clear HP;go_wp2_with (go_at_call 51;refine(HWI.out _ _ _ _).mono ?_;rintro e w' ⟨rfl,rfl⟩);clear d8 o2 lc0 lc1 lc2 lc3;go_loopg [4] l.length (fun gh ix wr=>∃k:Nat,k+gh=l.length∧ix=.int .i64 k∧Hid (RBL r w 31 gl cs wr)∧Hid (zAt arF zBv 6 l (l.drop k) k=F0));case atStart=>exact⟨0,by omega,rfl,H5,E0⟩
 case round=>
  clear H5 E0;obtain⟨k,hk,rfl,HB,HG⟩:=hrel;obtain⟨cl,cm⟩:=CL.out wr HB.out;by_cases hlt:k<l.length;case neg=>
   have hkz:¬((k:Int)<(l.length:Int)):=by omega
   have EF:Hid (redE r.maps 3 0 16777215 2 r.lsRed=res):=hid (by rw[HRD.out,if_pos (zCl hlt HG.out)]);go_wp2_with (first|(refine zAa rfl 41 _ rfl rfl HB.out.h.range Tryz.rowRt Tryz.sizeRt ?_)|(refine zAj (by rfl) (zAa rfl 41 _ rfl rfl HB.out.h.range Tryz.rowRt Tryz.sizeRt ?_)));with_reducible refine(zIy r r.lsRed (.slice A2 r.lsRed.length c2) 3 0 16777215 2 (.inl ⟨rfl,rfl⟩) wr B (yJ HBB.out HB.out.b.size) (HR.out.below (HB.out.b.mono HBB.out)) (HLR.out.below (HB.out.b.mono HBB.out))).mono ?_
   rintro e w7 ⟨rfl,hb⟩;have H7:=hid (HB.out.keep hb);clear hb;go_wp2;go_ret;exact⟨zAc EF.out,H7.out.b⟩
  have hkz:(k:Int)<(l.length:Int):=by omega
  obtain⟨g,o,c', e',-,hg,R0⟩:=HS.out.elem (n:=3) (by decide) (fun _=>rfl) hlt;injection e' with e1 e2 e3
  subst e1 e3;have HPA:=zCw hlt HG.out
  have HR1:Hid (arF l[k]=1→res=1):=hid fun q=>by
   have f0:F0=1:=by rw[zBg HPA (by rw[q];decide),q]
   rw[HRD.out,f0];rfl
  have HT0:Hid (arF l[k]=0→F0=if(l.take k).any (zBv l[k])then 6 else zAt arF zBv 6 l (l.drop (k+1)) (k+1)):=hid (zDz HPA);clear HPA HG;have FX:=hid (HF.out _ (List.getElem_mem hlt));have XA:Hid (∀W,RBL r w 31 gl cs W→W.cell? ⟨g,o+k*3,none⟩=some (.int .i64 l[k].area)∧W.cell? ⟨g,o+k*3+1,none⟩=some (.int .u32 (l[k].pa:Int))∧W.cell? ⟨g,o+k*3+2,none⟩=some (.int .i64 l[k].pl)):=hid (fun W h=>have hb:=h.b.mono HBB.out;⟨(hb.cell (p:=⟨g,o+k*3,none⟩) hg).trans (R0 0 _ rfl),(hb.cell (p:=⟨g,o+k*3+1,none⟩) hg).trans (R0 1 _ rfl),(hb.cell (p:=⟨g,o+k*3+2,none⟩) hg).trans (R0 2 _ rfl)⟩);have HAF:Hid (arF l[k]=if zAb l[k].area 0 255&&zAv l[k].pa l[k].pl then 0 else 1):=hid rfl;have hvd:=zFe l[k].pa l[k].pl wr FX.out;unfold PV at hvd;have HVD:=hid hvd;clear R0 e2 hvd;generalize l[k]=x at *;obtain⟨xa,xp,xl⟩:=XA.out wr HB.out;have HCX:Hid (∀y,zBv x y=((y.area==x.area)&&overP y.pa y.pl x.pa x.pl)):=hid fun _=>rfl
  generalize zBv x=cx at HT0 HCX;generalize arF x=fx at HR1 HT0 HAF;cases k1:zAb x.area 0 255 with
  |false=>
   have E:Hid (res=1):=hid (HR1.out (by rw[HAF.out,k1];rfl));clear HAF HT0;go_wp2_with (go_at_call 51;refine(HWI.out _ _ _ _).mono ?_;rintro e w' ⟨rfl,rfl⟩);go_ret;exact⟨zAc E.out.symm,HB.out.b⟩
  |true=>
  have HAG:Hid (fx=if zAv x.pa x.pl then 0 else 1):=hid (by rw[HAF.out,k1];rfl);clear HAF;generalize zAv x.pa x.pl=vx at HAG HVD;go_wp2_with (go_at_call 51;refine(HWI.out _ _ _ _).mono ?_;rintro e w' ⟨rfl,rfl⟩);refine HVD.out.mono ?_;rintro e wz ⟨rfl,hb⟩;have HZ:=hid (HB.out.keep hb);clear hb xa xp xl k1 HVD HB cl cm;cases vx with
  |false=>
   have E:=hid (HR1.out HAG.out);clear HAG HT0;go_wp2;go_ret;exact⟨zAc E.out.symm,HZ.out.b⟩
  |true=>
  have HT1:=hid (HT0.out HAG.out);clear HAG HT0 HR1;go_wp2;go_loopg [5] k (fun gh ix wq=>∃j:Nat,j+gh=k∧ix=.int .i64 j∧Hid (RBL r w 31 gl cs wq)∧Hid (∀i (hi:i<l.length),i<j→cx l[i]=false));case atStart=>exact⟨0,by omega,rfl,HZ,hid fun _ _ h=>absurd h (Nat.not_lt_zero _)⟩
  case round=>
   clear HZ;obtain⟨j,hj,rfl,HQ,HN⟩:=hrel;by_cases hjl:j<k;case neg=>
    have hjz:¬((j:Int)<(k:Int)):=by omega
    obtain rfl:j=k:=by omega
    have EN:Hid (zAt arF zBv 6 l (l.drop (j+1)) (j+1)=F0):=hid (by rw[HT1.out,zHe (by omega) HN.out];rfl);go_wp2;go_roundg (l.length - (j+1));case measure=>omega
    case rel=>exact⟨j+1,by omega,by go_num,HQ,EN⟩
   have hjn:j<l.length:=by omega
   have hjz:(j:Int)<(k:Int):=by omega
   have hjm:(j:Int)<(l.length:Int):=by omega
   obtain⟨g', o', c'', e',-,hg', R0⟩:=HS.out.elem (n:=3) (by decide) (fun _=>rfl) hjn;injection e' with e1 e2 e3
   injection e1 with e1
   injection e1 with e1 e4
   subst e1 e4;have HC:=HCX.out l[j];have HH:Hid (cx l[j]=true→res=6):=hid fun h=>by rw[HRD.out,HT1.out,zHi hjn hjl h];rfl
   have HM:Hid (cx l[j]=false→∀i (hi:i<l.length),i<j+1→cx l[i]=false):=hid fun h i hi hlt=>by
    rcases Nat.lt_or_ge i j with h1|h1
    ·exact HN.out i hi h1
    ·obtain rfl:i=j:=by omega
     exact h
   clear HN;have FY:=hid (HF.out _ (List.getElem_mem hjn));have YA:Hid (∀W,RBL r w 31 gl cs W→W.cell? ⟨g,o+j*3,none⟩=some (.int .i64 l[j].area)∧W.cell? ⟨g,o+j*3+1,none⟩=some (.int .u32 (l[j].pa:Int))∧W.cell? ⟨g,o+j*3+2,none⟩=some (.int .i64 l[j].pl)):=hid (fun W h=>have hb:=h.b.mono HBB.out;⟨(hb.cell (p:=⟨g,o+j*3,none⟩) hg').trans (R0 0 _ rfl),(hb.cell (p:=⟨g,o+j*3+1,none⟩) hg').trans (R0 1 _ rfl),(hb.cell (p:=⟨g,o+j*3+2,none⟩) hg').trans (R0 2 _ rfl)⟩);clear R0 e2 e3;generalize l[j]=y at HC HH HM FY YA;generalize cx y=b0 at HC HH HM;have PO:=hid (fun W=>zKx y.pa y.pl x.pa x.pl W FY.out FX.out);unfold PV at PO
   have NA:((y.area==x.area)=false∧b0=false)∨((y.area==x.area)=true∧overP y.pa y.pl x.pa x.pl=b0):=by
    cases ha:(y.area==x.area)with
    |false=>rw[ha]at HC;exact .inl ⟨rfl,HC⟩
    |true=>rw[ha,Bool.true_and]at HC;exact .inr ⟨rfl,HC.symm⟩
   clear HC;obtain⟨cl,cm⟩:=CL.out wr HQ.out;go_wp2_with fail;refine zBf (fun W=>RBL r w 31 gl cs W) (by kernel_rfl) (by kernel_rfl) (HQ.out.keep (zAo wr)) ?_;rcases NA with⟨NA,rfl⟩|⟨NA,NB⟩
   case' inr=>cases b0
   case' inl=>have HN2:=hid (HM.out rfl)
   case' inr.false=>have HN2:=hid (HM.out rfl)
   case' inr.true=>have E:=hid (HH.out rfl)
   all_goals
    repeat
     (first
      |(refine zKf ?_ ?_;(· rfl))
      |(refine zCk (v:=?_) ?_ ?_ ?_;rotate_left;(· rfl);(· (intro W hW;obtain⟨xa,xp,xl⟩:=XA.out W hW;obtain⟨ya,yp,yl⟩:=YA.out W hW;obtain⟨cl,cm⟩:=CL.out W hW;go_simp<;>rfl)))
      |(refine zBp ?_ ?_ (fun W hW=>(PO.out W).mono fun e w' ⟨he,hb⟩=>⟨he,hW.keep hb⟩) ?_;(· rfl);(· (intro W hW;go_simp<;>rfl))))
     simp only[Act.put,yB,yC,yD]
    refine zDn (fun wq hS=>?_);have HZ:=hid hS;clear hS YA PO HQ cl cm;go_wp2_with fail
    first
     | (go_roundg (k - (j + 1))
        case measure=>omega
        case rel=>exact⟨j+1,by omega,by go_num,HZ,HN2⟩)
     | (go_ret
        exact⟨zAc E.out.symm,HZ.out.b⟩)
theorem tr_ways(acls:List AList)(x:Tr) :
  (x.kind=1∧natE acls x=1∧x.ins=0)∨(x.kind=1∧natE acls x=1∧NZ (x.ins:Int)∧x.outs=0)∨(x.kind=1∧natE acls x=(if sameS x then 0 else 1)∧NZ (x.ins:Int)∧NZ (x.outs:Int)) ∨
  (x.kind=2∧natE acls x=1∧x.lo=0)∨(x.kind=2∧natE acls x=1∧NZ (x.lo:Int)∧x.hi<x.lo)∨(x.kind=2∧natE acls x=1∧NZ (x.lo:Int)∧x.lo≤x.hi∧8≤x.hi - x.lo)∨(x.kind=2∧natE acls x=(if sameP x then(if decide (idxF (fun y=>y.name==x.list) acls 0<0)then 5 else 0)else 1)∧NZ (x.lo:Int)∧x.lo≤x.hi∧x.hi - x.lo<8) ∨
  (x.kind=3∧natE acls x=1∧x.ins=0)∨(x.kind=3∧natE acls x=1∧NZ (x.ins:Int)∧x.outs=0)∨(x.kind=3∧natE acls x=1∧NZ (x.ins:Int)∧NZ (x.outs:Int)∧(x.proto==6)=false∧(x.proto==17)=false) ∨
  (x.kind=3∧NZ (x.ins:Int)∧NZ (x.outs:Int)∧(x.proto=6∨(x.proto==6)=false∧x.proto=17) ∧
   ((natE acls x=1∧zAb x.iport 0 65535=false)∨(natE acls x=1∧zAb x.iport 0 65535=true∧zAb x.oport 0 65535=false)∨(natE acls x=1∧zAb x.iport 0 65535=true∧zAb x.oport 0 65535=true∧(str x.list).toList.isEmpty=false)∨(natE acls x=1∧zAb x.iport 0 65535=true∧zAb x.oport 0 65535=true∧x.list=[]∧NZ (x.lo:Int))∨(natE acls x=1∧zAb x.iport 0 65535=true∧zAb x.oport 0 65535=true∧x.list=[]∧x.lo=0∧NZ (x.hi:Int))∨(natE acls x=0∧zAb x.iport 0 65535=true∧zAb x.oport 0 65535=true∧x.list=[]∧x.lo=0∧x.hi=0))) ∨
  (natE acls x=1∧(x.kind==1)=false∧(x.kind==2)=false∧(x.kind==3)=false):=by
 obtain⟨kind,ins,outs,proto,iport,oport,list,lo,hi⟩:=x;dsimp only;have N:∀n:Nat,n≠0→NZ (n:Int)∧(n==0)=false:=fun n h=>⟨nzI (by omega),by simpa using h⟩
 by_cases q1:kind=1
 ·subst q1
  by_cases h1:ins=0
  ·exact .inl ⟨rfl,by subst h1;simp[natE,zBl],h1⟩
  by_cases h2:outs=0
  ·exact .inr (.inl ⟨rfl,by subst h2;simp[natE,zBl],(N _ h1).1,h2⟩)
  refine .inr (.inr (.inl ⟨rfl,?_,(N _ h1).1,(N _ h2).1⟩));simp[natE,zBl,(N _ h1).2,(N _ h2).2]
 by_cases q2:kind=2
 ·subst q2
  by_cases h1:lo=0
  ·exact .inr (.inr (.inr (.inl ⟨rfl,by subst h1;simp[natE,zBl],h1⟩)))
  by_cases h2:lo≤hi;case neg=>exact .inr (.inr (.inr (.inr (.inl ⟨rfl,by simp[natE,zBl,h2],(N _ h1).1,by omega⟩))))
  by_cases h3:hi - lo<8;case neg=>exact .inr (.inr (.inr (.inr (.inr (.inl ⟨rfl,by simp[natE,zBl,h3],(N _ h1).1,h2,by omega⟩)))))
  refine .inr (.inr (.inr (.inr (.inr (.inr (.inl ⟨rfl,?_,(N _ h1).1,h2,h3⟩))))));simp[natE,zBl,(N _ h1).2,h2,h3]
 by_cases q3:kind=3
 ·subst q3
  by_cases h1:ins=0
  ·exact .inr (.inr (.inr (.inr (.inr (.inr (.inr (.inl ⟨rfl,by subst h1;simp[natE,zBl],h1⟩)))))))
  by_cases h2:outs=0
  ·exact .inr (.inr (.inr (.inr (.inr (.inr (.inr (.inr (.inl ⟨rfl,by subst h2;simp[natE,zBl],(N _ h1).1,h2⟩))))))))
  have P:(proto=6∨(proto==6)=false∧proto=17)∨((proto==6)=false∧(proto==17)=false):=by simp;omega
  rcases P with P|⟨P1,P2⟩
  case inr=>exact .inr (.inr (.inr (.inr (.inr (.inr (.inr (.inr (.inr (.inl ⟨rfl,by simp[natE,zBl,P1,P2],(N _ h1).1,(N _ h2).1,P1,P2⟩)))))))))
  have P3:(proto==6||proto==17)=true:=by rcases P with rfl|⟨_,rfl⟩<;>rfl
  have E3:natE acls ⟨3,ins,outs,proto,iport,oport,list,lo,hi⟩=if(zAb iport 0 65535&&zAb oport 0 65535&&list.isEmpty&&lo==0&&hi==0)then 0 else 1:=by
   rcases P with rfl|⟨_,rfl⟩<;>simp[natE,zBl,(N _ h1).2,(N _ h2).2]
  refine .inr (.inr (.inr (.inr (.inr (.inr (.inr (.inr (.inr (.inr (.inl ⟨rfl,(N _ h1).1,(N _ h2).1,P,?_⟩))))))))));rw[E3];cases zAb iport 0 65535 with
  |false=>exact .inl ⟨rfl,rfl⟩
  |true=>
  cases zAb oport 0 65535 with
  |false=>exact .inr (.inl ⟨rfl,rfl,rfl⟩)
  |true=>
  by_cases h3:list=[];case neg=>exact .inr (.inr (.inl ⟨by rw[(zCp h3).1];rfl,rfl,rfl,by rw[zLv];exact(zCp h3).1⟩))
  by_cases h4:lo=0;case neg=>exact .inr (.inr (.inr (.inl ⟨by rw[(N _ h4).2,Bool.and_false];rfl,rfl,rfl,h3,(N _ h4).1⟩)))
  by_cases h5:hi=0;case neg=>exact .inr (.inr (.inr (.inr (.inl ⟨by rw[(N _ h5).2,Bool.and_false];rfl,rfl,rfl,h3,h4,(N _ h5).1⟩))))
  exact .inr (.inr (.inr (.inr (.inr ⟨by rw[h3,h4,h5];rfl,rfl,rfl,h3,h4,h5⟩))))
 exact .inr (.inr (.inr (.inr (.inr (.inr (.inr (.inr (.inr (.inr (.inr ⟨by simp[natE,zBl,q1,q2,q3],by simpa using q1,by simpa using q2,by simpa using q3⟩))))))))))
theorem zLp(r:Rt)(w:World)(B:Nat)(hB:B≤w.heap.size)(h:r.at w B)(hf:∀x∈r.nat,x.fit):Calls Tryz.prog 56 #[.agg r.C] w fun e w' => e=.returned (.int .i64 (natsE r.acls r.nat))∧Below w.heap.size w w' := by
 have HBB:=hid hB;have HR:=hid h;have HB:=hid (RB.start r w);have HF:=hid hf;have HWI:=hid zCo;have hl:=h.hnat;have hlen:=hl.len;simp only[maxLen]at hlen;generalize r.nat=l at *;obtain⟨A,c,hv,-⟩:=id hl;have HL:Hid (∀w', RB r w w' → w'.cell? ⟨w.heap.size,6,none⟩=some (.slice A l.length c)):=hid (fun w' h=>by rw[←hv];exact h.h.cell 6);rw[hv]at hl;have HS:=hid hl;have cl:=HL.out _ HB.out;clear h hf hl hv;obtain⟨res,hres⟩:∃res,natsE r.acls l=res:=⟨_,rfl⟩;rw[hres];by_cases h8:8<l.length
 ·have E:Hid (res=7):=hid (by rw[←hres];exact if_pos h8)
  have d8:(8:Int)<(l.length:Int):=by omega
  clear hres;go_enter Tryz.func56,Tryz.ntmps56;go_wp2;go_ret;exact⟨zAc E.out.symm,HB.out.b⟩
 have d8:¬((8:Int)<(l.length:Int)):=by omega
 have E:Hid (zAk (natE r.acls) l=res):=hid (by rw[←hres];exact(if_neg h8).symm);clear hres;go_enter Tryz.func56,Tryz.ntmps56;go_wp2_with fail;clear cl d8;go_loopg [3] l.length (fun gh ix wr=>∃k:Nat,k+gh=l.length∧ix=.int .i64 k∧Hid (RB r w wr)∧Hid (zAk (natE r.acls) (l.drop k)=res));case atStart=>exact⟨0,by omega,rfl,HB,E⟩
 case round=>
  clear HB E;obtain⟨k,hk,rfl,HB,HG⟩:=hrel;have cl:=HL.out wr HB.out;by_cases hlt:k<l.length;case neg=>
   have hkz:¬((k:Int)<(l.length:Int)):=by omega
   have E:=hid (zEe hlt HG.out);go_wp2;go_ret;exact⟨zAc E.out.symm,HB.out.b⟩
  have hkz:(k:Int)<(l.length:Int):=by omega
  obtain⟨g,o,c', e',-,hg,R0⟩:=HS.out.elem (n:=9) (by decide) (fun _=>rfl) hlt;injection e' with e1 e2 e3
  subst e1 e3;have r1:=hid (zAg R0 (HB.out.b.mono HBB.out) hg);have FX:=hid (HF.out _ (List.getElem_mem hlt));have HAT:=hid (zEu hlt HG.out);clear HG;generalize l[k]=x at r1 FX HAT;clear R0 e2;go_upto_region 7 with(first|(refine zAa rfl 74 _ rfl rfl r1.out Tryz.rowTr Tryz.sizeTr ?_)|(refine zAd rfl 74 _ _ rfl rfl rfl (HasC.new wr _ _) rfl Tryz.sizeTr (Tr.one x) ?_;intro w5 hz1 hz2))
  have H5:Hid (RBL r w 74 wr.heap.size x.C w5):=hid (let q:=HB.out.keep (zAi hz2);⟨q.h,q.b,hz1⟩);clear hz1 hz2 r1 HB cl;generalize wr.heap.size=gx at H5⊢;have FH:=FX.out.2.2.2;have HW:=hid (tr_ways r.acls x);have HE:Hid (∀n:Int,n≠0→natE r.acls x=n→res=n):=hid fun n h q=>by rw[HAT.out,q,if_neg h]
  have HN:Hid (natE r.acls x=0→zAk (natE r.acls) (l.drop (k+1))=res):=hid fun q=>by rw[HAT.out,if_pos q]
  clear HAT;generalize hfx:natE r.acls x=fx at HE HN HW;clear hfx;obtain⟨kind,ins,outs,proto,iport,oport,list,lo,hi⟩:=x;dsimp only at HW FH;have g:=Tryz.trGuard;have tn:=zAh ([]:List UInt8);have QS:=hid (fun W=>trS_eql ins outs proto iport oport list lo hi W);have QP:=hid (fun W=>trP_eql ins outs proto iport oport list lo hi W);obtain⟨x0,x1,x2,x3,x4,x5⟩:=bl6 H5.out.l;have x6:w5.cell? ⟨gx,6,none⟩=some (.string (str list)):=H5.out.l.cell 6;have x7:=cl7 H5.out.l;have x8:=cl8 H5.out.l;have HX:Hid (HasC 74 gx #[.int .i64 kind,.int .u32 (ins:Int),.int .u32 (outs:Int),.int .i64 proto,.int .i64 iport,.int .i64 oport,.string (str list),.int .u32 (lo:Int),.int .u32 (hi:Int)] w5):=hid H5.out.l;have HM:Hid (RB r w w5):=hid ⟨H5.out.h,H5.out.b⟩;have ADR:=hid (zFw r list w5 B (HR.out.below (H5.out.b.mono HBB.out)) (yJ HBB.out H5.out.b.size));clear H5 FX;rcases HW.out with⟨rfl,E,h1⟩|⟨rfl,E,⟨v1,v2⟩,h1⟩|⟨rfl,E,⟨v1,v2⟩,⟨u1,u2⟩⟩|⟨rfl,E,h1⟩|⟨rfl,E,⟨v1,v2⟩,h2⟩|⟨rfl,E,⟨v1,v2⟩,h2,h3⟩|⟨rfl,E,⟨v1,v2⟩,h2,h3⟩|⟨rfl,E,h1⟩|⟨rfl,E,⟨v1,v2⟩,h1⟩|⟨rfl,E,⟨v1,v2⟩,⟨u1,u2⟩,p1,p2⟩|⟨rfl,⟨v1,v2⟩,⟨u1,u2⟩,p1,h2⟩|⟨E,q1,q2,q3⟩
  iterate 2
   ·subst h1
    replace E:=hid (HE.out 1 (by decide) E);clear HW HE HN QS QP HX ADR;go_wp2;go_ret;exact⟨zAc E.out.symm,HM.out.b⟩
  ·have qe:∀W,(binOp .eql 74 (.agg #[.int .i64 1,.int .u32 (ins:Int),.int .u32 (outs:Int),.int .i64 proto,.int .i64 iport,.int .i64 oport,.string (str list),.int .u32 (lo:Int),.int .u32 (hi:Int)]) (.agg #[.int .i64 1,.int .u32 (ins:Int),.int .u32 (outs:Int),.int .i64 0,.int .i64 0,.int .i64 0,.string ⟨#[]⟩,.int .u32 0,.int .u32 0])).run Tryz.prog W=.ok (.bool (sameS ⟨1,ins,outs,proto,iport,oport,list,lo,hi⟩)) W:=QS.out
   generalize sameS ⟨1,ins,outs,proto,iport,oport,list,lo,hi⟩=b at qe E;cases b with
   |false=>
    replace E:=hid (HE.out 1 (by decide) E);clear HW HE HN QS QP ADR;go_wp2_with (refine zAj (by rfl) (zAa rfl 74 _ rfl rfl HX.out.range Tryz.rowTr Tryz.sizeTr ?_));go_ret;exact⟨zAc E.out.symm,HM.out.b⟩
   |true=>
    replace E:=hid (HN.out E);clear HW HE HN QS QP ADR;go_wp2_with (refine zAj (by rfl) (zAa rfl 74 _ rfl rfl HX.out.range Tryz.rowTr Tryz.sizeTr ?_));go_roundg (l.length - (k+1));case measure=>omega
    case rel=>exact⟨k+1,by omega,by go_num,HM,E⟩
  ·subst h1
   replace E:=hid (HE.out 1 (by decide) E);clear HW HE HN QS QP HX ADR;go_wp2;go_ret;exact⟨zAc E.out.symm,HM.out.b⟩
  ·have hle:¬((lo:Int)≤(hi:Int)):=by omega
   replace E:=hid (HE.out 1 (by decide) E);clear HW HE HN QS QP HX ADR h2;go_wp2;go_ret;exact⟨zAc E.out.symm,HM.out.b⟩
  ·have hle:((lo:Int)≤(hi:Int)):=by omega
   have hs:=zKd hi lo h2 FH;have h8:¬(((hi - lo:Nat):Int)<8):=by omega
   generalize (((hi - lo:Nat):Int))=dd at hs h8;replace E:=hid (HE.out 1 (by decide) E);clear HW HE HN QS QP HX ADR h2 h3;go_wp2;go_ret;exact⟨zAc E.out.symm,HM.out.b⟩
  ·have hle:((lo:Int)≤(hi:Int)):=by omega
   have hs:=zKd hi lo h2 FH;have h8:(((hi - lo:Nat):Int)<8):=by omega
   generalize (((hi - lo:Nat):Int))=dd at hs h8;have qe:=QP.out;generalize sameP ⟨2,ins,outs,proto,iport,oport,list,lo,hi⟩=b at qe E;clear h2 h3;cases b with
   |false=>
    replace E:=hid (HE.out 1 (by decide) E);clear HW HE HN QS QP ADR;go_wp2_with (refine zAj (by rfl) (zAa rfl 74 _ rfl rfl HX.out.range Tryz.rowTr Tryz.sizeTr ?_));go_ret;exact⟨zAc E.out.symm,HM.out.b⟩
   |true=>
    replace E:=hid E;clear QS QP HW;go_wp2_with (first|(refine zAj (by rfl) (zAa rfl 74 _ rfl rfl HX.out.range Tryz.rowTr Tryz.sizeTr ?_))|(refine zAa rfl 41 _ rfl rfl HM.out.h.range Tryz.rowRt Tryz.sizeRt ?_)|(refine zAj (by rfl) (zAa rfl 41 _ rfl rfl HM.out.h.range Tryz.rowRt Tryz.sizeRt ?_)));with_reducible refine ADR.out.mono ?_
    rintro e w7 ⟨rfl,hb⟩;have H7:=hid (HM.out.keep hb);clear hb x0 x1 x2 x3 x4 x5 x6 x7 x8 qe ADR HX HM;cases dd:decide (idxF (fun y:AList=>y.name==list) r.acls 0<0)with
    |true=>
     replace E:=hid (HE.out 5 (by decide) (by rw[E.out,dd];rfl));go_wp2;go_ret;exact⟨zAc E.out.symm,H7.out.b⟩
    |false=>
     replace E:=hid (HN.out (by rw[E.out,dd];rfl));go_wp2;go_roundg (l.length - (k+1));case measure=>omega
     case rel=>exact⟨k+1,by omega,by go_num,H7,E⟩
  iterate 2
   ·subst h1
    replace E:=hid (HE.out 1 (by decide) E);clear HW HE HN QS QP HX ADR;go_wp2;go_ret;exact⟨zAc E.out.symm,HM.out.b⟩
  ·replace E:=hid (HE.out 1 (by decide) E)
   clear HW HE HN QS QP HX ADR;go_wp2;go_ret;exact⟨zAc E.out.symm,HM.out.b⟩
  ·clear HW QS QP HX ADR
   rcases h2 with⟨E,h2⟩|⟨E,h2,h3⟩|⟨E,h2,h3,h4⟩|⟨E,h2,h3,rfl,h4,h5⟩|⟨E,h2,h3,rfl,rfl,h4,h5⟩|⟨E,h2,h3,rfl,rfl,rfl⟩
   all_goals
    rcases p1 with rfl|⟨p0,rfl⟩
    all_goals
     first
      | (have E2 := hid (HE.out 1 (by decide) E)
         clear E HE HN;go_wp2_with (go_at_call 51;refine(HWI.out _ _ _ _).mono ?_;rintro e w' ⟨rfl,rfl⟩);go_ret
         exact⟨zAc E2.out.symm,HM.out.b⟩)
      | (have E2 := hid (HN.out E)
         clear E HE HN;go_wp2_with (go_at_call 51;refine(HWI.out _ _ _ _).mono ?_;rintro e w' ⟨rfl,rfl⟩);go_roundg (l.length - (k+1));case measure=>omega
         case rel=>exact⟨k+1,by omega,by go_num,HM,E2⟩)
  ·replace E:=hid (HE.out 1 (by decide) E)
   clear HW HE HN QS QP HX ADR;go_wp2;go_ret;exact⟨zAc E.out.symm,HM.out.b⟩
end Go.Proofs.YtdlgnhefpoalnaaGreatDoor
