/- The walk of the statement BetaFormats. Conditions: Go's own tables lie in memory (EnvA), the router lies in memory, addresses are numbers below 2^32. -/
import Derived.Test.YtdlgnhefpoalnaaGreatDoorLaw
import Derived.Test.YtdlgnhefpoalnaaGreatDoorLal
set_option maxHeartbeats 8000000
set_option maxRecDepth 100000
namespace Go.Proofs.YtdlgnhefpoalnaaGreatDoor
open Lib (hid)
open Go.RowKit
theorem zKi{α:Type}{p:α→Bool}{l:List α}{j:Nat}(hn:∀i (hi:i<l.length),i<j→p l[i]=false){hj:j<l.length}(h:p l[j]=false):∀i (hi:i<l.length),i<j+1→p l[i]=false:=fun i hi hlt=>by
 rcases Nat.lt_or_ge i j with h1|h1
 ·exact hn i hi h1
 ·obtain rfl:i=j:=by omega
  exact h
theorem decide_swap{a b:Nat}{c d:Int}:decide (a=b∧c=d)=decide (b=a∧d=c):=decide_eq_decide.2 ⟨fun h=>⟨h.1.symm,h.2.symm⟩,fun h=>⟨h.1.symm,h.2.symm⟩⟩
theorem rorig_all(r:Rt)(w:World)(B:Nat)(hB:B≤w.heap.size)(h:r.at w B)(hf1:∀x∈r.net,x.fit)(hf2:∀x∈r.ag,x.fit)(hf3:∀x∈r.cd,x.fit):Calls Tryz.prog 132 #[.agg r.pvC] w fun e w' => e=.returned (.int .i64 (origE r))∧Below w.heap.size w w' := by
 have HBB:=hid hB;have HB:=hid (RQ.start 39 r.pvC w);have HF1:=hid hf1;have hl1:=h.hnet;have hlen1:=hl1.len;simp only[maxLen]at hlen1;obtain⟨A1,c1,hv1,-⟩:=id hl1;have CL1:Hid (∀W,RQ 39 r.pvC w W→W.cell? ⟨w.heap.size,4,none⟩=some (.slice A1 r.net.length c1)):=hid (fun W h=>by rw[←hv1];exact h.h.cell 4);rw[hv1]at hl1;have HS1:=hid hl1;have HF2:=hid hf2;have hl2:=h.hag;have hlen2:=hl2.len;simp only[maxLen]at hlen2;obtain⟨A2,c2,hv2,-⟩:=id hl2;have CL2:Hid (∀W,RQ 39 r.pvC w W→W.cell? ⟨w.heap.size,5,none⟩=some (.slice A2 r.ag.length c2)):=hid (fun W h=>by rw[←hv2];exact h.h.cell 5);rw[hv2]at hl2;have HS2:=hid hl2;have HF3:=hid hf3;have hl3:=h.hcd;have hlen3:=hl3.len;simp only[maxLen]at hlen3;obtain⟨A3,c3,hv3,-⟩:=id hl3;have CL3:Hid (∀W,RQ 39 r.pvC w W→W.cell? ⟨w.heap.size,6,none⟩=some (.slice A3 r.cd.length c3)):=hid (fun W h=>by rw[←hv3];exact h.h.cell 6);rw[hv3]at hl3;have HS3:=hid hl3;obtain⟨res,hres⟩:∃res,origE r=res:=⟨_,rfl⟩;rw[hres];unfold origE netsE agsE cdsE at hres;clear h hf1 hf2 hf3 hl1 hl2 hl3 hv1 hv2 hv3;generalize r.net=l1 at *;generalize r.ag=l2 at *;generalize r.cd=l3 at *;generalize hF1:pairE 8 netF zEk 4 l1=F1 at hres;replace hF1:=hid hF1;generalize hF2:pairE 8 agF zFd 4 l2=F2 at hres;replace hF2:=hid hF2;generalize hF3:pairE 8 cdF zFc 4 l3=F3 at hres;replace hF3:=hid hF3;have R1:=hid hres.symm;clear hres;have cn:=CL1.out _ HB.out;by_cases h8:8<l1.length
 ·have E:Hid (res=7):=hid (by rw[R1.out,show F1=7 from hF1.out.symm.trans (if_pos h8)];rfl)
  have d8:(8:Int)<(l1.length:Int):=by omega
  go_enter Tryz.func132,Tryz.ntmps132;go_wp2;go_ret;exact⟨zAc E.out.symm,HB.out.b⟩
 have d8:¬((8:Int)<(l1.length:Int)):=by omega
 have E:Hid (zAt netF zEk 4 l1 l1 0=F1):=hid ((if_neg h8).symm.trans hF1.out);clear hF1;go_enter Tryz.func132,Tryz.ntmps132;go_wp2_with fail;clear cn d8;go_loopg [3] l1.length (fun gh ix wr=>∃k:Nat,k+gh=l1.length∧ix=.int .i64 k∧Hid (RQ 39 r.pvC w wr)∧Hid (zAt netF zEk 4 l1 (l1.drop k) k=F1));case atStart=>exact⟨0,by omega,rfl,HB,E⟩
 case round=>
  clear HB E;obtain⟨k,hk,rfl,HB,HG⟩:=hrel;have cl:=CL1.out wr HB.out;by_cases hlt:k<l1.length;case neg=>
   have hkz:¬((k:Int)<(l1.length:Int)):=by omega
   have R2:Hid (res=if F2=0 then F3 else F2):=hid (by rw[R1.out,if_pos (zCl hlt HG.out)]);have cn:=CL2.out wr HB.out;by_cases h8:8<l2.length
   ·have E:Hid (res=7):=hid (by rw[R2.out,show F2=7 from hF2.out.symm.trans (if_pos h8)];rfl)
    have d8:(8:Int)<(l2.length:Int):=by omega
    go_wp2;go_ret;exact⟨zAc E.out.symm,HB.out.b⟩
   have d8:¬((8:Int)<(l2.length:Int)):=by omega
   have E:Hid (zAt agF zFd 4 l2 l2 0=F2):=hid ((if_neg h8).symm.trans hF2.out);go_wp2_with fail;clear cn cl d8 hF2 h8 HG HS1 HF1 CL1 R1;go_loopg [5] l2.length (fun gh ix wr=>∃k:Nat,k+gh=l2.length∧ix=.int .i64 k∧Hid (RQ 39 r.pvC w wr)∧Hid (zAt agF zFd 4 l2 (l2.drop k) k=F2));case atStart=>exact⟨0,by omega,rfl,HB,E⟩
   case round=>
    clear HB E;obtain⟨k,hk,rfl,HB,HG⟩:=hrel;have cl:=CL2.out wr HB.out;by_cases hlt:k<l2.length;case neg=>
     have hkz:¬((k:Int)<(l2.length:Int)):=by omega
     have R3:Hid (res=F3):=hid (by rw[R2.out,if_pos (zCl hlt HG.out)]);have cn:=CL3.out wr HB.out;by_cases h8:8<l3.length
     ·have E:Hid (res=7):=hid (by rw[R3.out,show F3=7 from hF3.out.symm.trans (if_pos h8)])
      have d8:(8:Int)<(l3.length:Int):=by omega
      go_wp2;go_ret;exact⟨zAc E.out.symm,HB.out.b⟩
     have d8:¬((8:Int)<(l3.length:Int)):=by omega
     have E:Hid (zAt cdF zFc 4 l3 l3 0=F3):=hid ((if_neg h8).symm.trans hF3.out);go_wp2_with fail;clear cn cl d8 hF3 h8 HG HS2 HF2 CL2 R2;go_loopg [7] l3.length (fun gh ix wr=>∃k:Nat,k+gh=l3.length∧ix=.int .i64 k∧Hid (RQ 39 r.pvC w wr)∧Hid (zAt cdF zFc 4 l3 (l3.drop k) k=F3));case atStart=>exact⟨0,by omega,rfl,HB,E⟩
     case round=>
      clear HB E;obtain⟨k,hk,rfl,HB,HG⟩:=hrel;have cl:=CL3.out wr HB.out;by_cases hlt:k<l3.length;case neg=>
       have hkz:¬((k:Int)<(l3.length:Int)):=by omega
       have E:Hid (res=0):=hid (by rw[R3.out,zCl hlt HG.out]);go_wp2;go_ret;exact⟨zAc E.out.symm,HB.out.b⟩
      have hkz:(k:Int)<(l3.length:Int):=by omega
      obtain⟨g,o,c', e',-,hg,R0⟩:=HS3.out.elem (n:=5) (by decide) (fun _=>rfl) hlt;injection e' with e1 e2 e3
      subst e1 e3;have HPA:=zCw hlt HG.out;have HF0:Hid (cdF l3[k]≠0→F3=cdF l3[k]):=hid (zBg HPA);have HT0:Hid (cdF l3[k]=0→F3=if(l3.take k).any (zFc l3[k])then 4 else zAt cdF zFc 4 l3 (l3.drop (k+1)) (k+1)):=hid (zDz HPA);clear HPA HG;have FX:=hid (HF3.out _ (List.getElem_mem hlt));have r1:=hid (zAg R0 (HB.out.b.mono HBB.out) hg);have HAF:Hid (cdF l3[k]=if zAv l3[k].pa l3[k].pl&&zAv l3[k].ia l3[k].il then(if decide (l3[k].pa=l3[k].ia∧l3[k].pl=l3[k].il)then 6 else 0)else 1):=hid rfl;clear R0 e2;generalize l3[k]=x at *;have HCX:Hid (∀y,zFc x y=decide (y.pa=x.pa∧y.pl=x.pl)):=hid fun _=>rfl
      generalize zFc x=cx at HT0 HCX;generalize cdF x=fx at HF0 HT0 HAF;have HE:Hid (∀n:Int,n≠0→fx=n→res=n):=hid fun n h q=>by rw[R3.out,HF0.out (by rw[q];exact h),q]
      go_upto_region 31 with(first|(refine zAa rfl 153 _ rfl rfl r1.out Tryz.rowCd Tryz.sizeCd ?_)|(refine zAd rfl 153 _ _ rfl rfl rfl (HasC.new wr _ _) rfl Tryz.sizeCd (Cd.one x) ?_;intro w5 hz1 hz2))
      have H5:Hid (RQ 39 r.pvC w w5∧HasC 153 wr.heap.size x.C w5):=hid ⟨HB.out.keep (zAi hz2),hz1⟩;clear hz1 hz2 r1 HB cl HF0;generalize wr.heap.size=gx at H5⊢;have KS:Hid (∀{W W' : World},(RQ 39 r.pvC w W∧HasC 153 gx x.C W)→Below W.heap.size W W' → (RQ 39 r.pvC w W' ∧ HasC 153 gx x.C W')):=hid (fun h hb=>⟨h.1.keep hb,h.2.keep hb⟩);obtain⟨pa,pl,ia,il,ab⟩:=x;dsimp only at HAF HCX;have CE:Hid (∀W,(RQ 39 r.pvC w W∧HasC 153 gx (Cd.C ⟨pa,pl,ia,il,ab⟩) W)→W.cell? ⟨gx,0,none⟩=some (.int .u32 (pa:Int))∧W.cell? ⟨gx,1,none⟩=some (.int .i64 pl)∧W.cell? ⟨gx,2,none⟩=some (.int .u32 (ia:Int))∧W.cell? ⟨gx,3,none⟩=some (.int .i64 il)):=hid (fun W h=>⟨h.2.cell 0,h.2.cell 1,h.2.cell 2,h.2.cell 3⟩);generalize Cd.C ⟨pa,pl,ia,il,ab⟩=cs at H5 KS CE;have V1:=hid (fun W=>zFe pa pl W FX.out.1);have V2:=hid (fun W=>zFe ia il W FX.out.2);unfold PV at V1 V2;generalize zAv pa pl=v1 at V1 HAF;generalize zAv ia il=v2 at V2 HAF;obtain⟨x0,x1,x2,x3⟩:=CE.out w5 H5.out;go_wp2_with fail;refine(V1.out w5).mono ?_;rintro e w6 ⟨rfl,hb⟩;have H6:=hid (KS.out H5.out hb);clear hb x0 x1 x2 x3 H5 V1;cases v1 with
      |false=>
       have E:=hid (HE.out 1 (by decide) HAF.out);go_wp2;go_ret;exact⟨zAc E.out.symm,H6.out.1.b⟩
      |true=>
      obtain⟨x0,x1,x2,x3⟩:=CE.out w6 H6.out;go_wp2_with fail;refine(V2.out w6).mono ?_;rintro e wz ⟨rfl,hb⟩;have HZ:=hid (KS.out H6.out hb);clear hb x0 x1 x2 x3 H6 V2;cases v2 with
      |false=>
       have E:=hid (HE.out 1 (by decide) HAF.out);go_wp2;go_ret;exact⟨zAc E.out.symm,HZ.out.1.b⟩
      |true=>
      obtain⟨x0,x1,x2,x3⟩:=CE.out wz HZ.out;have qi:∀w,(binOp .eql 76 (.agg #[.int .u32 (pa:Int),.int .i64 pl]) (.agg #[.int .u32 (ia:Int),.int .i64 il])).run Tryz.prog w=.ok (.bool (decide (pa=ia∧pl=il))) w:=fun w=>zGx pa ia pl il w
      have gp:=Tryz.pfxGuard;generalize decide (pa=ia∧pl=il)=v3 at qi HAF;cases v3 with
      |true=>
       have E:=hid (HE.out 6 (by decide) HAF.out);clear HAF HT0;go_wp2;go_ret;exact⟨zAc E.out.symm,HZ.out.1.b⟩
      |false=>
      have HT1:=hid (HT0.out HAF.out);clear HAF HT0 HE;go_wp2_with fail;clear x0 x1 x2 x3 qi gp;go_loopg [9] k (fun gh ix wq=>∃j:Nat,j+gh=k∧ix=.int .i64 j∧Hid (RQ 39 r.pvC w wq∧HasC 153 gx cs wq)∧Hid (∀i (hi:i<l3.length),i<j→cx l3[i]=false));case atStart=>exact⟨0,by omega,rfl,HZ,hid fun _ _ h=>absurd h (Nat.not_lt_zero _)⟩
      case round=>
       clear HZ;obtain⟨j,hj,rfl,HQ,HN⟩:=hrel;have cl:=CL3.out wr HQ.out.1;obtain⟨x0,x1,-,-⟩:=CE.out wr HQ.out;by_cases hjl:j<k;case neg=>
        have hjz:¬((j:Int)<(k:Int)):=by omega
        obtain rfl:j=k:=by omega
        have EN:Hid (zAt cdF zFc 4 l3 (l3.drop (j+1)) (j+1)=F3):=hid (by rw[HT1.out,zHe (by omega) HN.out];rfl);go_wp2;go_roundg (l3.length - (j+1));case measure=>omega
        case rel=>exact⟨j+1,by omega,by go_num,hid HQ.out.1,EN⟩
       have hjn:j<l3.length:=by omega
       have hjz:(j:Int)<(k:Int):=by omega
       have hjm:(j:Int)<(l3.length:Int):=by omega
       obtain⟨g', o', c'', e',-,hg', R0⟩:=HS3.out.elem (n:=5) (by decide) (fun _=>rfl) hjn;injection e' with e1 e2 e3
       injection e1 with e1
       injection e1 with e1 e4
       subst e1 e4;have y0:wr.cell? ⟨g,o+j*5,none⟩=some (.int .u32 (l3[j].pa:Int)):=zAg R0 (HQ.out.1.b.mono HBB.out) hg' 0 _ rfl;have y1:wr.cell? ⟨g,o+j*5+1,none⟩=some (.int .i64 l3[j].pl):=zAg R0 (HQ.out.1.b.mono HBB.out) hg' 1 _ rfl;have HH:Hid (cx l3[j]=true→res=4):=hid fun h=>by rw[R3.out,HT1.out,zHi hjn hjl h];rfl
       have HM:Hid (cx l3[j]=false→∀i (hi:i<l3.length),i<j+1→cx l3[i]=false):=hid (zKi HN.out);have HC:=HCX.out l3[j];have HQ2:=hid (KS.out HQ.out (zAo wr));clear HN R0 e2 e3;generalize l3[j]=y at HC HH HM y0 y1;generalize cx y=bp at HC HH HM;have qe:∀w,(binOp .eql 76 (.agg #[.int .u32 (y.pa:Int),.int .i64 y.pl]) (.agg #[.int .u32 (pa:Int),.int .i64 pl])).run Tryz.prog w=.ok (.bool bp) w:=fun w=>by rw[zGx y.pa pa y.pl pl w,HC]
       have gp:=Tryz.pfxGuard;clear HC;cases bp with
       |true=>
        have E:=hid (HH.out rfl);go_wp2_with fail;go_still (by kernel_rfl);go_wp2;go_ret;exact⟨zAc E.out.symm,HQ2.out.1.b⟩
       |false=>
       have HN2:=hid (HM.out rfl);go_wp2_with fail;go_still (by kernel_rfl);go_wp2;go_roundg (k - (j+1));case measure=>omega
       case rel=>exact⟨j+1,by omega,by go_num,HQ2,HN2⟩
    have hkz:(k:Int)<(l2.length:Int):=by omega
    obtain⟨g,o,c', e',-,hg,R0⟩:=HS2.out.elem (n:=3) (by decide) (fun _=>rfl) hlt;injection e' with e1 e2 e3
    subst e1 e3;have HPA:=zCw hlt HG.out;have HF0:Hid (agF l2[k]≠0→F2=agF l2[k]):=hid (zBg HPA);have HT0:Hid (agF l2[k]=0→F2=if(l2.take k).any (zFd l2[k])then 4 else zAt agF zFd 4 l2 (l2.drop (k+1)) (k+1)):=hid (zDz HPA);clear HPA HG;have FX:=hid (HF2.out _ (List.getElem_mem hlt));have XA:Hid (∀W,RQ 39 r.pvC w W→W.cell? ⟨g,o+k*3,none⟩=some (.int .u32 (l2[k].pa:Int))∧W.cell? ⟨g,o+k*3+1,none⟩=some (.int .i64 l2[k].pl)):=hid (fun W h=>have hb:=h.b.mono HBB.out;⟨(hb.cell (p:=⟨g,o+k*3,none⟩) hg).trans (R0 0 _ rfl),(hb.cell (p:=⟨g,o+k*3+1,none⟩) hg).trans (R0 1 _ rfl)⟩);have hvd:=zFe l2[k].pa l2[k].pl wr FX.out;unfold PV at hvd;have HVD:=hid hvd;have HAF:Hid (agF l2[k]=if zAv l2[k].pa l2[k].pl then 0 else 1):=hid rfl;clear R0 e2 hvd;generalize l2[k]=x at *;obtain⟨x0,x1⟩:=XA.out wr HB.out;have HCX:Hid (∀y,zFd x y=decide (y.pa=x.pa∧y.pl=x.pl)):=hid fun _=>rfl
    generalize zFd x=cx at HT0 HCX;generalize agF x=fx at HF0 HT0 HAF;generalize zAv x.pa x.pl=vx at HAF HVD;go_wp2_with fail;refine HVD.out.mono ?_;rintro e wz ⟨rfl,hb⟩;have HZ:=hid (HB.out.keep hb);clear hb x0 x1 HVD HB cl FX;cases vx with
    |false=>
     have E:Hid (res=1):=hid (by have q:=HAF.out;rw[if_neg (by decide)]at q;rw[R2.out,HF0.out (by rw[q];decide),q];rfl);clear HAF HT0 HF0;go_wp2;go_ret;exact⟨zAc E.out.symm,HZ.out.b⟩
    |true=>
    have HT1:=hid (HT0.out HAF.out);clear HAF HT0 HF0;go_wp2;go_loopg [6] k (fun gh ix wq=>∃j:Nat,j+gh=k∧ix=.int .i64 j∧Hid (RQ 39 r.pvC w wq)∧Hid (∀i (hi:i<l2.length),i<j→cx l2[i]=false));case atStart=>exact⟨0,by omega,rfl,HZ,hid fun _ _ h=>absurd h (Nat.not_lt_zero _)⟩
    case round=>
     clear HZ;obtain⟨j,hj,rfl,HQ,HN⟩:=hrel;have cl:=CL2.out wr HQ.out;obtain⟨x0,x1⟩:=XA.out wr HQ.out;by_cases hjl:j<k;case neg=>
      have hjz:¬((j:Int)<(k:Int)):=by omega
      obtain rfl:j=k:=by omega
      have EN:Hid (zAt agF zFd 4 l2 (l2.drop (j+1)) (j+1)=F2):=hid (by rw[HT1.out,zHe (by omega) HN.out];rfl);go_wp2;go_roundg (l2.length - (j+1));case measure=>omega
      case rel=>exact⟨j+1,by omega,by go_num,HQ,EN⟩
     have hjn:j<l2.length:=by omega
     have hjz:(j:Int)<(k:Int):=by omega
     have hjm:(j:Int)<(l2.length:Int):=by omega
     obtain⟨g', o', c'', e',-,hg', R0⟩:=HS2.out.elem (n:=3) (by decide) (fun _=>rfl) hjn;injection e' with e1 e2 e3
     injection e1 with e1
     injection e1 with e1 e4
     subst e1 e4;have y0:wr.cell? ⟨g,o+j*3,none⟩=some (.int .u32 (l2[j].pa:Int)):=zAg R0 (HQ.out.b.mono HBB.out) hg' 0 _ rfl;have y1:wr.cell? ⟨g,o+j*3+1,none⟩=some (.int .i64 l2[j].pl):=zAg R0 (HQ.out.b.mono HBB.out) hg' 1 _ rfl;have HH:Hid (cx l2[j]=true→res=4):=hid fun h=>by rw[R2.out,HT1.out,zHi hjn hjl h];rfl
     have HM:Hid (cx l2[j]=false→∀i (hi:i<l2.length),i<j+1→cx l2[i]=false):=hid (zKi HN.out);have HC:=HCX.out l2[j];have HQ2:=hid (HQ.out.keep (zAo wr));clear HN R0 e2 e3;generalize l2[j]=y at HC HH HM y0 y1;generalize cx y=bp at HC HH HM;have qe:∀w,(binOp .eql 76 (.agg #[.int .u32 (y.pa:Int),.int .i64 y.pl]) (.agg #[.int .u32 (x.pa:Int),.int .i64 x.pl])).run Tryz.prog w=.ok (.bool bp) w:=fun w=>by rw[zGx y.pa x.pa y.pl x.pl w,HC]
     have gp:=Tryz.pfxGuard;clear HC;cases bp with
     |true=>
      have E:=hid (HH.out rfl);go_wp2_with fail;go_still (by kernel_rfl);go_wp2;go_ret;exact⟨zAc E.out.symm,HQ2.out.b⟩
     |false=>
     have HN2:=hid (HM.out rfl);go_wp2_with fail;go_still (by kernel_rfl);go_wp2;go_roundg (k - (j+1));case measure=>omega
     case rel=>exact⟨j+1,by omega,by go_num,HQ2,HN2⟩
  have hkz:(k:Int)<(l1.length:Int):=by omega
  obtain⟨g,o,c', e',-,hg,R0⟩:=HS1.out.elem (n:=2) (by decide) (fun _=>rfl) hlt;injection e' with e1 e2 e3
  subst e1 e3;have HPA:=zCw hlt HG.out;have HF0:Hid (netF l1[k]≠0→F1=netF l1[k]):=hid (zBg HPA);have HT0:Hid (netF l1[k]=0→F1=if(l1.take k).any (zEk l1[k])then 4 else zAt netF zEk 4 l1 (l1.drop (k+1)) (k+1)):=hid (zDz HPA);clear HPA HG;have FX:=hid (HF1.out _ (List.getElem_mem hlt));have XA:Hid (∀W,RQ 39 r.pvC w W→W.cell? ⟨g,o+k*2,none⟩=some (.int .u32 (l1[k].pa:Int))∧W.cell? ⟨g,o+k*2+1,none⟩=some (.int .i64 l1[k].pl)):=hid (fun W h=>have hb:=h.b.mono HBB.out;⟨(hb.cell (p:=⟨g,o+k*2,none⟩) hg).trans (R0 0 _ rfl),(hb.cell (p:=⟨g,o+k*2+1,none⟩) hg).trans (R0 1 _ rfl)⟩);have hvd:=zFe l1[k].pa l1[k].pl wr FX.out;unfold PV at hvd;have HVD:=hid hvd;have HAF:Hid (netF l1[k]=if zAv l1[k].pa l1[k].pl then 0 else 1):=hid rfl;clear R0 e2 hvd;generalize l1[k]=x at *;obtain⟨x0,x1⟩:=XA.out wr HB.out;have HCX:Hid (∀y,zEk x y=decide (y.pa=x.pa∧y.pl=x.pl)):=hid fun _=>decide_swap
  generalize zEk x=cx at HT0 HCX;generalize netF x=fx at HF0 HT0 HAF;generalize zAv x.pa x.pl=vx at HAF HVD;go_wp2_with fail;refine HVD.out.mono ?_;rintro e wz ⟨rfl,hb⟩;have HZ:=hid (HB.out.keep hb);clear hb x0 x1 HVD HB cl FX;cases vx with
  |false=>
   have E:Hid (res=1):=hid (by have q:=HAF.out;rw[if_neg (by decide)]at q;rw[R1.out,HF0.out (by rw[q];decide),q];rfl);clear HAF HT0 HF0;go_wp2;go_ret;exact⟨zAc E.out.symm,HZ.out.b⟩
  |true=>
  have HT1:=hid (HT0.out HAF.out);clear HAF HT0 HF0;go_wp2;go_loopg [4] k (fun gh ix wq=>∃j:Nat,j+gh=k∧ix=.int .i64 j∧Hid (RQ 39 r.pvC w wq)∧Hid (∀i (hi:i<l1.length),i<j→cx l1[i]=false));case atStart=>exact⟨0,by omega,rfl,HZ,hid fun _ _ h=>absurd h (Nat.not_lt_zero _)⟩
  case round=>
   clear HZ;obtain⟨j,hj,rfl,HQ,HN⟩:=hrel;have cl:=CL1.out wr HQ.out;obtain⟨x0,x1⟩:=XA.out wr HQ.out;by_cases hjl:j<k;case neg=>
    have hjz:¬((j:Int)<(k:Int)):=by omega
    obtain rfl:j=k:=by omega
    have EN:Hid (zAt netF zEk 4 l1 (l1.drop (j+1)) (j+1)=F1):=hid (by rw[HT1.out,zHe (by omega) HN.out];rfl);go_wp2;go_roundg (l1.length - (j+1));case measure=>omega
    case rel=>exact⟨j+1,by omega,by go_num,HQ,EN⟩
   have hjn:j<l1.length:=by omega
   have hjz:(j:Int)<(k:Int):=by omega
   have hjm:(j:Int)<(l1.length:Int):=by omega
   obtain⟨g', o', c'', e',-,hg', R0⟩:=HS1.out.elem (n:=2) (by decide) (fun _=>rfl) hjn;injection e' with e1 e2 e3
   injection e1 with e1
   injection e1 with e1 e4
   subst e1 e4;have y0:wr.cell? ⟨g,o+j*2,none⟩=some (.int .u32 (l1[j].pa:Int)):=zAg R0 (HQ.out.b.mono HBB.out) hg' 0 _ rfl;have y1:wr.cell? ⟨g,o+j*2+1,none⟩=some (.int .i64 l1[j].pl):=zAg R0 (HQ.out.b.mono HBB.out) hg' 1 _ rfl;have HH:Hid (cx l1[j]=true→res=4):=hid fun h=>by rw[R1.out,HT1.out,zHi hjn hjl h];rfl
   have HM:Hid (cx l1[j]=false→∀i (hi:i<l1.length),i<j+1→cx l1[i]=false):=hid (zKi HN.out);have HC:=HCX.out l1[j];have HQ2:=hid (HQ.out.keep (zAo wr));clear HN R0 e2 e3;generalize l1[j]=y at HC HH HM y0 y1;generalize cx y=bp at HC HH HM;have qe:∀w,(binOp .eql 76 (.agg #[.int .u32 (y.pa:Int),.int .i64 y.pl]) (.agg #[.int .u32 (x.pa:Int),.int .i64 x.pl])).run Tryz.prog w=.ok (.bool bp) w:=fun w=>by rw[zGx y.pa x.pa y.pl x.pl w,HC]
   have gp:=Tryz.pfxGuard;clear HC;cases bp with
   |true=>
    have E:=hid (HH.out rfl);go_wp2_with fail;go_still (by kernel_rfl);go_wp2;go_ret;exact⟨zAc E.out.symm,HQ2.out.b⟩
   |false=>
   have HN2:=hid (HM.out rfl);go_wp2_with fail;go_still (by kernel_rfl);go_wp2;go_roundg (k - (j+1));case measure=>omega
   case rel=>exact⟨j+1,by omega,by go_num,HQ2,HN2⟩
theorem pv_ways(r:Rt){n:Int}(hn:n=(r.nb.length:Int)+r.net.length+r.ag.length+r.cd.length+r.pvRed.length):(r.pvOn=false∧pvE r=1∧NZ r.ext)∨(r.pvOn=false∧pvE r=1∧r.ext=0∧NZ r.int)∨(r.pvOn=false∧pvE r=1∧r.ext=0∧r.int=0∧(0:Int)<n)∨(r.pvOn=false∧pvE r=0∧r.ext=0∧r.int=0∧¬((0:Int)<n))∨(r.pvOn=true∧pvE r=1∧r.asn=0)∨(r.pvOn=true∧pvE r=1∧NZ r.asn∧zAb r.ext 1 255=false)∨(r.pvOn=true∧pvE r=1∧NZ r.asn∧zAb r.ext 1 255=true∧zAb r.int 1 255=false)∨(r.pvOn=true∧NZ r.asn∧zAb r.ext 1 255=true∧zAb r.int 1 255=true∧pvE r=if nbsE r.maps r.nb=0 then(if origE r=0 then redE r.maps 5 0 16777215 0 r.pvRed else origE r)else nbsE r.maps r.nb):=by
 unfold pvE;cases ho:r.pvOn with
 |false=>
  rw[if_neg (by decide)];by_cases h1:r.ext=0;case neg=>exact .inl ⟨rfl,by simp[h1],nzI h1⟩
  by_cases h2:r.int=0;case neg=>exact .inr (.inl ⟨rfl,by simp[h1,h2],h1,nzI h2⟩)
  rw[h1,h2]
  have G:(decide ((0:Int)<r.nb.length)||(decide ((0:Int)<r.net.length)||(decide ((0:Int)<r.ag.length)||(decide ((0:Int)<r.cd.length)||decide ((0:Int)<r.pvRed.length)))))=decide ((0:Int)<n):=by
   rw[←Bool.decide_or,←Bool.decide_or,←Bool.decide_or,←Bool.decide_or];exact decide_eq_decide.2 (by omega)
  rw[G];by_cases h3:(0:Int)<n
  ·exact .inr (.inr (.inl ⟨rfl,by rw[decide_eq_true h3];rfl,rfl,rfl,h3⟩))
  ·exact .inr (.inr (.inr (.inl ⟨rfl,by rw[decide_eq_false h3];rfl,rfl,rfl,h3⟩)))
 |true=>
  rw[if_pos rfl];by_cases h1:r.asn=0
  ·exact .inr (.inr (.inr (.inr (.inl ⟨rfl,by rw[h1];rfl,h1⟩))))
  have h1' : (r.asn==0)=false:=by simpa using h1
  rw[h1'];cases h2:zAb r.ext 1 255 with
  |false=>exact .inr (.inr (.inr (.inr (.inr (.inl ⟨rfl,rfl,nzI h1,rfl⟩)))))
  |true=>
  cases h3:zAb r.int 1 255 with
  |false=>exact .inr (.inr (.inr (.inr (.inr (.inr (.inl ⟨rfl,rfl,nzI h1,rfl,rfl⟩))))))
  |true=>exact .inr (.inr (.inr (.inr (.inr (.inr (.inr ⟨rfl,nzI h1,rfl,rfl,rfl⟩))))))
theorem rpath_all(r:Rt)(w:World)(B:Nat)(hB:B≤w.heap.size)(h:r.at w B)(hf1:∀x∈r.net,x.fit)(hf2:∀x∈r.ag,x.fit)(hf3:∀x∈r.cd,x.fit)(hs:r.nb.length+r.net.length+r.ag.length+r.cd.length+r.pvRed.length≤1000000):Calls Tryz.prog 61 #[.agg r.C] w fun e w' => e=.returned (.int .i64 (pvE r))∧Below w.heap.size w w' := by
 have HBB:=hid hB;have H0:=RB.start r w;have HWI:=hid zCo;have HR:=hid h;obtain⟨A1,c1,hv1,-⟩:=id h.hnb;obtain⟨A2,c2,hv2,-⟩:=id h.hnet;obtain⟨A3,c3,hv3,-⟩:=id h.hag;obtain⟨A4,c4,hv4,-⟩:=id h.hcd;obtain⟨A5,c5,hv5,-⟩:=id h.hpvRed;have HLR:=h.hpvRed;rw[hv5]at HLR;replace HLR:=hid HLR;have EP:r.pvC=#[.bool r.pvOn,.int .i64 r.ext,.int .i64 r.int,.slice A1 r.nb.length c1,.slice A2 r.net.length c2,.slice A3 r.ag.length c3,.slice A4 r.cd.length c4,.slice A5 r.pvRed.length c5]:=by unfold Rt.pvC;rw[hv1,hv2,hv3,hv4,hv5]
 have PO:=hid (fun W (hb:Below w.heap.size w W)=>rorig_all r W B (yJ hB hb.size) (h.below (hb.mono hB)) hf1 hf2 hf3);rw[EP]at PO;clear EP;have HW:=hid (pv_ways r rfl);generalize origE r=eO at HW PO;obtain⟨res,hres⟩:∃res,pvE r=res:=⟨_,rfl⟩;rw[hres]at HW⊢;clear hres
 have HO:(#[.bool r.pvOn,.int .i64 r.ext,.int .i64 r.int,.slice A1 r.nb.length c1,.slice A2 r.net.length c2,.slice A3 r.ag.length c3,.slice A4 r.cd.length c4,.slice A5 r.pvRed.length c5]:Array Value).all (·.oneCell')=true:=by
  rw[Array.all_eq_true_iff_forall_mem];intro v hv;simp only[List.mem_toArray,List.mem_cons,List.not_mem_nil,or_false]at hv;rcases hv with rfl|rfl|rfl|rfl|rfl|rfl|rfl|rfl<;>rfl
 have HSh:=hid (H0.h.sub 17 #[.bool r.pvOn,.int .i64 r.ext,.int .i64 r.int,.slice A1 r.nb.length c1,.slice A2 r.net.length c2,.slice A3 r.ag.length c3,.slice A4 r.cd.length c4,.slice A5 r.pvRed.length c5] (fun j hj=>by
  have hj' : j<8:=hj
  rcases(show j=0∨j=1∨j=2∨j=3∨j=4∨j=5∨j=6∨j=7 by omega)with rfl|rfl|rfl|rfl|rfl|rfl|rfl|rfl<;>first|rfl|(show some _=some _;simp only[Option.some.injEq];assumption)))
 have H0h:=hid H0;clear H0 hv1 hv2 hv3 hv4 hv5 h hB hf1 hf2 hf3;go_enter Tryz.func61,Tryz.ntmps61;go_upto_region 2 with(refine zAa rfl 39 _ rfl rfl HSh.out Tryz.rowPV Tryz.sizePV ?_)
 have H5:Hid (RBL r w 39 (w.alloc (.cells r.C 41)).heap.size #[.bool r.pvOn,.int .i64 r.ext,.int .i64 r.int,.slice A1 r.nb.length c1,.slice A2 r.net.length c2,.slice A3 r.ag.length c3,.slice A4 r.cd.length c4,.slice A5 r.pvRed.length c5] ((w.alloc (.cells r.C 41)).alloc (.cells #[.bool r.pvOn,.int .i64 r.ext,.int .i64 r.int,.slice A1 r.nb.length c1,.slice A2 r.net.length c2,.slice A3 r.ag.length c3,.slice A4 r.cd.length c4,.slice A5 r.pvRed.length c5] 39))):=hid ⟨(H0h.out.keep ((Below.refl _ _).alloc (yI _) _)).h,(H0h.out.keep ((Below.refl _ _).alloc (yI _) _)).b,HasC.new _ _ _⟩;clear H0h HSh HO;generalize hw5:(w.alloc (.cells r.C 41)).alloc (.cells #[.bool r.pvOn,.int .i64 r.ext,.int .i64 r.int,.slice A1 r.nb.length c1,.slice A2 r.net.length c2,.slice A3 r.ag.length c3,.slice A4 r.cd.length c4,.slice A5 r.pvRed.length c5] 39)=w5 at H5⊢;clear hw5;rw[show(w.alloc (.cells r.C 41)).heap.size=w.heap.size+1 from by simp]at H5;generalize w.heap.size+1=gl at H5⊢;obtain⟨lc0,lc1,lc2,lc3,lc4,lc5,lc6,lc7⟩:=bl8 H5.out.l;have a1:=cl1 H5.out.h;rcases HW.out with⟨o1,E,v1,v2⟩|⟨o1,E,o2,v1,v2⟩|⟨o1,E,o2,o3,v1⟩|⟨o1,E,o2,o3,v1⟩|⟨o1,E,o4⟩|⟨o1,E,⟨v1,v2⟩,v3⟩|⟨o1,E,⟨v1,v2⟩,v3,v4⟩|⟨o1,⟨v1,v2⟩,v3,v4,v5⟩
 iterate 7
  ·replace E:=hid E
   clear HR HLR PO HW;rw[o1]at lc0
   try rw[o2]at lc1
   try rw[o3]at lc2
   try rw[o4]at a1
   have s1:IntKind.i64.wrap ((r.nb.length:Int)+r.net.length)=(r.nb.length:Int)+r.net.length:=by rw[IntKind.wrap_i64];omega
   have s2:IntKind.i64.wrap ((r.nb.length:Int)+r.net.length+r.ag.length)=(r.nb.length:Int)+r.net.length+r.ag.length:=by rw[IntKind.wrap_i64];omega
   have s3:IntKind.i64.wrap ((r.nb.length:Int)+r.net.length+r.ag.length+r.cd.length)=(r.nb.length:Int)+r.net.length+r.ag.length+r.cd.length:=by rw[IntKind.wrap_i64];omega
   have s4:IntKind.i64.wrap ((r.nb.length:Int)+r.net.length+r.ag.length+r.cd.length+r.pvRed.length)=(r.nb.length:Int)+r.net.length+r.ag.length+r.cd.length+r.pvRed.length:=by rw[IntKind.wrap_i64];omega
   clear hs;go_wp2_with (go_at_call 51;refine(HWI.out _ _ _ _).mono ?_;rintro e w' ⟨rfl,rfl⟩);go_ret;exact⟨zAc E.out.symm,H5.out.b⟩
 rw[o1]at lc0;clear o1 HW;have HRD:=hid v5;clear v5;have CL7:Hid (∀W,RBL r w 39 gl #[.bool r.pvOn,.int .i64 r.ext,.int .i64 r.int,.slice A1 r.nb.length c1,.slice A2 r.net.length c2,.slice A3 r.ag.length c3,.slice A4 r.cd.length c4,.slice A5 r.pvRed.length c5] W→W.cell? ⟨gl,7,none⟩=some (.slice A5 r.pvRed.length c5)):=hid (fun W h=>h.l.cell 7);clear lc3 lc4 lc5 lc6 lc7 hs;go_wp2_with (first|(go_at_call 51;refine(HWI.out _ _ _ _).mono ?_;rintro e w' ⟨rfl,rfl⟩)|(first|(refine zAa rfl 41 _ rfl rfl H5.out.h.range Tryz.rowRt Tryz.sizeRt ?_)|(refine zAj (by rfl) (zAa rfl 41 _ rfl rfl H5.out.h.range Tryz.rowRt Tryz.sizeRt ?_))));with_reducible refine(rneighbors_all r w5 B (yJ HBB.out H5.out.b.size) (HR.out.below (H5.out.b.mono HBB.out))).mono ?_
 rintro e w6 ⟨rfl,hb⟩;have H6:=hid (H5.out.keep hb);clear hb lc0 lc1 lc2 a1 H5 v1 v2 v3 v4;generalize nbsE r.maps r.nb=eN at HRD⊢;by_cases hN:eN=0;case neg=>
  have E:Hid (eN=res):=hid (by rw[HRD.out,if_neg hN]);have d0:(eN != 0)=true:=by simpa using hN
  have d1:(eN==0)=false:=by simpa using hN
  clear hN;go_wp2;go_ret;exact⟨zAc E.out,H6.out.b⟩
 have HRE:Hid (res=if eO=0 then redE r.maps 5 0 16777215 0 r.pvRed else eO):=hid (by rw[HRD.out,if_pos hN]);subst hN;clear HRD;go_wp2_with (refine zAa rfl 39 _ rfl rfl H6.out.l.range Tryz.rowPV Tryz.sizePV ?_);with_reducible refine(PO.out w6 H6.out.b).mono ?_
 rintro e w7 ⟨rfl,hb⟩;have H7:=hid (H6.out.keep hb);clear hb H6 PO;by_cases hO:eO=0;case neg=>
  have E:Hid (eO=res):=hid (by rw[HRE.out,if_neg hO]);have d0:(eO != 0)=true:=by simpa using hO
  have d1:(eO==0)=false:=by simpa using hO
  clear hO;go_wp2;go_ret;exact⟨zAc E.out,H7.out.b⟩
 have E:Hid (redE r.maps 5 0 16777215 0 r.pvRed=res):=hid (by rw[HRE.out,if_pos hO]);subst hO;clear HRE;have lz:=CL7.out w7 H7.out;go_wp2_with (first|(refine zAa rfl 41 _ rfl rfl H7.out.h.range Tryz.rowRt Tryz.sizeRt ?_)|(refine zAj (by rfl) (zAa rfl 41 _ rfl rfl H7.out.h.range Tryz.rowRt Tryz.sizeRt ?_)));with_reducible refine(zIy r r.pvRed (.slice A5 r.pvRed.length c5) 5 0 16777215 0 (.inr ⟨by decide,rfl⟩) w7 B (yJ HBB.out H7.out.b.size) (HR.out.below (H7.out.b.mono HBB.out)) (HLR.out.below (H7.out.b.mono HBB.out))).mono ?_
 rintro e w8 ⟨rfl,hb⟩;have H8:=hid (H7.out.keep hb);clear hb lz;go_wp2;go_ret;exact⟨zAc E.out,H8.out.b⟩
theorem kinds_sum(x:Sr):cntB (zHn x)=(if x.next=0 then(0:Int)else 1)+(if x.iface=[]then 0 else 1)+(if x.discard then 1 else 0):=by
 obtain⟨pa,pl,next,iface,discard,admin,tag⟩:=x;unfold zHn;dsimp only;by_cases h1:next=0<;>cases iface<;>cases discard<;>simp[cntB,h1]
theorem rstatics_all(r:Rt)(w:World)(B:Nat)(hB:B≤w.heap.size)(h:r.at w B)(hf:∀x∈r.stat,x.fit):Calls Tryz.prog 58 #[.agg r.C] w fun e w' => e=.returned (.int .i64 (zMc r.ifs r.stat))∧Below w.heap.size w w' := by
 have HBB:=hid hB;have HR:=hid h;have HB:=hid (RB.start r w);have HF:=hid hf;have HWI:=hid zCo;have hl:=h.hstat;have hlen:=hl.len;simp only[maxLen]at hlen;have HSI:=hid h.hifs;obtain⟨A,c,hv,-⟩:=id hl;have HL:Hid (∀w', RB r w w' → w'.cell? ⟨w.heap.size,7,none⟩=some (.slice A r.stat.length c)):=hid (fun w' h=>by rw[←hv];exact h.h.cell 7);rw[hv]at hl;generalize r.stat=l at *;have HS:=hid hl;have cl:=HL.out _ HB.out;clear h hf hl hv;obtain⟨res,hres⟩:∃res,zMc r.ifs l=res:=⟨_,rfl⟩;rw[hres];by_cases h8:16<l.length
 ·have E:Hid (res=7):=hid (by rw[←hres];exact if_pos h8)
  have d8:(16:Int)<(l.length:Int):=by omega
  clear hres;go_enter Tryz.func58,Tryz.ntmps58;go_wp2;go_ret;exact⟨zAc E.out.symm,HB.out.b⟩
 have d8:¬((16:Int)<(l.length:Int)):=by omega
 have E:Hid (zAt (staF r.ifs) zCh 6 l l 0=res):=hid (by rw[←hres];exact(if_neg h8).symm);clear hres;go_enter Tryz.func58,Tryz.ntmps58;go_wp2_with fail;clear cl d8;go_loopg [3] l.length (fun gh ix wr=>∃k:Nat,k+gh=l.length∧ix=.int .i64 k∧Hid (RB r w wr)∧Hid (zAt (staF r.ifs) zCh 6 l (l.drop k) k=res));case atStart=>exact⟨0,by omega,rfl,HB,E⟩
 case round=>
  clear HB E;obtain⟨k,hk,rfl,HB,HG⟩:=hrel;have cl:=HL.out wr HB.out;by_cases hlt:k<l.length;case neg=>
   have hkz:¬((k:Int)<(l.length:Int)):=by omega
   have E:=hid (zCl hlt HG.out);go_wp2;go_ret;exact⟨zAc E.out.symm,HB.out.b⟩
  have hkz:(k:Int)<(l.length:Int):=by omega
  obtain⟨g,o,c', e',-,hg,R0⟩:=HS.out.elem (n:=7) (by decide) (fun _=>rfl) hlt;injection e' with e1 e2 e3
  subst e1 e3;have r1:=hid (zAg R0 (HB.out.b.mono HBB.out) hg);have FX:=hid (HF.out _ (List.getElem_mem hlt));have HPA:=zCw hlt HG.out;clear HG;generalize l[k]=x at r1 FX HPA;have HE:Hid (∀n:Int,n≠0→staF r.ifs x=n→res=n):=hid fun n h q=>by rw[HPA,q,if_neg h]
  have HT0:Hid (staF r.ifs x=0→res=if(l.take k).any (zCh x)then 6 else zAt (staF r.ifs) zCh 6 l (l.drop (k+1)) (k+1)):=hid (zDz HPA);have HFE:Hid (staF r.ifs x=if zGj r.ifs x then(if x.iface.isEmpty then 0 else if idxF (fun y=>y.name==x.iface) r.ifs 0<0 then 5 else if lenAt r.ifs x.iface=0 then 1 else 0)else 1):=hid rfl;have HRE:Hid (zGj r.ifs x=(zAv x.pa x.pl&&cntB (zHn x)==1&&(x.next==0||decide (idxF (hasA x.next) r.ifs 0<0))&&zAb x.admin 1 255&&zAb x.tag 0 65535)):=hid rfl;have HKE:Hid (cntB (zHn x)=(if x.next=0 then(0:Int)else 1)+(if x.iface=[]then 0 else 1)+(if x.discard then 1 else 0)):=hid (kinds_sum x);have HCX:Hid (∀y,zCh x y=(decide (y.pa=x.pa∧y.pl=x.pl)&&y.admin==x.admin)):=hid fun _=>rfl
  clear HPA;generalize zCh x=cx at HT0 HCX;generalize staF r.ifs x=fx at HE HT0 HFE;generalize zGj r.ifs x=rr at HFE HRE;generalize cntB (zHn x)=nn at HRE HKE;clear R0 e2;go_upto_region 7 with(first|(refine zAa rfl 78 _ rfl rfl r1.out Tryz.rowSr Tryz.sizeSr ?_)|(refine zAd rfl 78 _ _ rfl rfl rfl (HasC.new wr _ _) rfl Tryz.sizeSr (Sr.one x) ?_;intro w5 hz1 hz2))
  have H5:Hid (RBL r w 78 wr.heap.size x.C w5):=hid (let q:=HB.out.keep (zAi hz2);⟨q.h,q.b,hz1⟩);clear hz1 hz2 r1 HB cl;generalize wr.heap.size=gx at H5⊢;have FP:=hid FX.out.1;clear FX;have hvd:=fun W=>zFe x.pa x.pl W FP.out
  unfold PV at hvd;have HVD:=hid hvd;clear hvd;generalize zAv x.pa x.pl=vv at HVD HRE;obtain⟨pa,pl,next,iface,discard,admin,tag⟩:=x;dsimp only at HVD HFE HRE HKE HCX;have CE:Hid (∀W,RBL r w 78 gx (Sr.C ⟨pa,pl,next,iface,discard,admin,tag⟩) W→W.cell? ⟨gx,2,none⟩=some (.int .u32 (next:Int))∧W.cell? ⟨gx,3,none⟩=some (.string (str iface))∧W.cell? ⟨gx,4,none⟩=some (.bool discard)∧W.cell? ⟨gx,5,none⟩=some (.int .i64 admin)∧W.cell? ⟨gx,6,none⟩=some (.int .i64 tag)):=hid (fun W h=>⟨h.l.cell 2,h.l.cell 3,h.l.cell 4,h.l.cell 5,h.l.cell 6⟩);obtain⟨x0,x1⟩:=bl2 H5.out.l;have CF:Hid (∀W,RBL r w 78 gx (Sr.C ⟨pa,pl,next,iface,discard,admin,tag⟩) W→W.cell? ⟨gx,0,none⟩=some (.int .u32 (pa:Int))∧W.cell? ⟨gx,1,none⟩=some (.int .i64 pl)∧W.cell? ⟨gx,5,none⟩=some (.int .i64 admin)):=hid (fun W h=>⟨h.l.cell 0,h.l.cell 1,h.l.cell 5⟩);generalize Sr.C ⟨pa,pl,next,iface,discard,admin,tag⟩=cs at H5 CE CF;obtain⟨x2,x3,x4,x5,x6⟩:=CE.out w5 H5.out;have tni:=zAh ([]:List UInt8);have tne:(str ([]:List UInt8)).toList.isEmpty=true:=by rw[zAh];rfl
  go_upto_if 26 with fail
  go_cut [5] (fun v wx=>v=.int .i64 (if next=0 then 0 else 1)∧RBL r w 78 gx cs wx)
  case first=>
   by_cases hn:next=0
   ·rw[hn]at x2
    have v1:((next:Int) != 0)=false:=by rw[hn];rfl
    go_wp2;go_meet;exact⟨by rw[if_pos hn],H5.out⟩
   ·have v1:((next:Int) != 0)=true:=by simp;omega
    go_wp2;go_meet;exact⟨by rw[if_neg hn],H5.out⟩
  case rest=>
  obtain⟨hv5,h5⟩:=hcut;subst hv5;replace H5:=hid h5;clear h5 x0 x1 x2 x3 x4 x5 x6;obtain⟨x2,x3,x4,x5,x6⟩:=CE.out _ H5.out;have B8:(if next=0 then(0:Int)else 1)=0∨(if next=0 then(0:Int)else 1)=1:=by split<;>simp
  generalize (if next=0 then(0:Int)else 1)=n8 at HKE B8⊢;go_upto_if 31 with fail
  go_cut [5] (fun v wx=>v=.int .i64 (n8+(if iface=[]then 0 else 1))∧RBL r w 78 gx cs wx)
  case first=>
   by_cases hn:iface=[]
   ·have v1:(str iface).toList.isEmpty=true:=by rw[zLv,hn];rfl
    rw[v1,Bool.not_true];clear v1;go_wp2;go_meet;exact⟨by rw[if_pos hn];simp,H5.out⟩
   ·obtain⟨i1,i2,i3⟩:=zCp hn
    have i4:(str iface).toList.isEmpty=false:=by rw[zLv];exact i1
    rw[i4,Bool.not_false];go_wp2;go_meet;exact⟨by rw[if_neg hn],H5.out⟩
  case rest=>
  obtain⟨hv5,h5⟩:=hcut;subst hv5;replace H5:=hid h5;clear h5 x2 x3 x4 x5 x6;obtain⟨x2,x3,x4,x5,x6⟩:=CE.out _ H5.out;have B9:(n8+(if iface=[]then(0:Int)else 1))=0∨(n8+(if iface=[]then(0:Int)else 1))=1∨(n8+(if iface=[]then(0:Int)else 1))=2:=by split<;>omega
  generalize (n8+(if iface=[]then(0:Int)else 1))=n9 at HKE B9⊢;go_upto_if 35 with fail
  go_cut [5] (fun v wx=>v=.int .i64 (n9+(if discard then 1 else 0))∧RBL r w 78 gx cs wx)
  case first=>
   cases discard with
   |false=>
    go_wp2;go_meet;exact⟨by first|rfl|simp,H5.out⟩
   |true=>
    rcases B9 with rfl|rfl|rfl
    all_goals
     go_wp2;go_meet;exact⟨by first|rfl|simp,H5.out⟩
  case rest=>
  obtain⟨hv5,h5⟩:=hcut;subst hv5;replace H5:=hid h5;rw[←HKE.out];clear h5 x2 x3 x4 x5 x6 B8 B9 HKE;go_upto_region 14 with fail
  go_cut [69] (fun v wx=>v=.bool (!rr)∧RBL r w 78 gx cs wx)
  case first=>
   obtain⟨x0,x1,-⟩:=CF.out _ H5.out;have ADR:=hid (fun W (h:RBL r w 78 gx cs W)=>raddress_any r next W B (HR.out.below (h.b.mono HBB.out)) (yJ HBB.out h.b.size));clear HE HT0 HFE HCX;go_wp2_with fail;refine(HVD.out _).mono ?_;rintro e w6 ⟨rfl,hb⟩;have H6:=hid (H5.out.keep hb);clear hb x0 x1 HVD;obtain⟨x2,x3,x4,x5,x6⟩:=CE.out w6 H6.out;cases vv with
   |false=>
    have E:Hid (rr=false):=hid (by rw[HRE.out];rfl);clear HRE;go_wp2;go_meet;exact⟨by rw[E.out];rfl,H6.out⟩
   |true=>
   by_cases hn1:nn=1;case neg=>
    have d0:(nn != 1)=true:=by simpa using hn1
    have d1:(nn==1)=false:=by simpa using hn1
    have E:Hid (rr=false):=hid (by rw[HRE.out,d1];rfl);clear HRE hn1;go_wp2;go_meet;exact⟨by rw[E.out];rfl,H6.out⟩
   subst hn1;by_cases hn:next=0
   ·rw[hn]at x2
    have v1:((next:Int) != 0)=false:=by rw[hn];rfl
    have E:Hid (rr=(zAb admin 1 255&&zAb tag 0 65535)):=hid (by rw[HRE.out,hn];rfl);clear HRE hn;cases k2:zAb admin 1 255<;>cases k3:zAb tag 0 65535
    all_goals
     have E2:=hid E.out;rw[k2,k3]at E2;clear E;go_wp2_with (go_at_call 51;refine(HWI.out _ _ _ _).mono ?_;rintro e w' ⟨rfl,rfl⟩);go_meet;exact⟨by rw[E2.out];rfl,H6.out⟩
   ·have v1:((next:Int) != 0)=true:=by simp;omega
    have v2:(next==0)=false:=by simpa using hn
    go_wp2_with (first|(refine zAa rfl 41 _ rfl rfl H6.out.h.range Tryz.rowRt Tryz.sizeRt ?_)|(refine zAj (by rfl) (zAa rfl 41 _ rfl rfl H6.out.h.range Tryz.rowRt Tryz.sizeRt ?_)));refine(ADR.out w6 H6.out).mono ?_;rintro e wz ⟨rfl,hb⟩;have HZ:=hid (H6.out.keep hb);clear hb x2 x3 x4 x5 x6 ADR
    have q4:decide ((0:Int)≤idxF (hasA next) r.ifs 0) = !decide (idxF (hasA next) r.ifs 0<0):=by
     rw[←decide_not];exact decide_eq_decide.2 (by omega)
    have E:Hid (rr=(decide (idxF (hasA next) r.ifs 0<0)&&zAb admin 1 255&&zAb tag 0 65535)):=hid (by rw[HRE.out,v2];rfl);clear HRE hn v1 v2;generalize decide (idxF (hasA next) r.ifs 0<0)=di at q4 E;obtain⟨x2,x3,x4,x5,x6⟩:=CE.out wz HZ.out;cases di with
    |false=>
     replace q4:decide ((0:Int)≤idxF (hasA next) r.ifs 0)=true:=q4;have E2:Hid (rr=false):=hid E.out;generalize idxF (hasA next) r.ifs 0=ix at q4⊢;clear E;go_wp2;go_meet;exact⟨by first|(rw[E2.out];rfl)|(rw[E2.out,q4];rfl),HZ.out⟩
    |true=>
    replace q4:decide ((0:Int)≤idxF (hasA next) r.ifs 0)=false:=q4;generalize idxF (hasA next) r.ifs 0=ix at q4⊢;cases k2:zAb admin 1 255<;>cases k3:zAb tag 0 65535
    all_goals
     have E2:=hid E.out;rw[k2,k3]at E2;clear E;go_wp2_with (go_at_call 51;refine(HWI.out _ _ _ _).mono ?_;rintro e w' ⟨rfl,rfl⟩);go_meet;exact⟨by rw[E2.out];first|rfl|(rw[q4];rfl),HZ.out⟩
  case rest=>
  obtain⟨hv5,h5⟩:=hcut;subst hv5;replace H5:=hid h5;clear h5 HVD HRE;obtain⟨x2,x3,x4,x5,x6⟩:=CE.out _ H5.out;cases rr with
  |false=>
   have E:=hid (HE.out 1 (by decide) HFE.out);clear HFE HT0 HE;go_wp2;go_ret;exact⟨zAc E.out.symm,H5.out.b⟩
  |true=>
  have HF2:Hid (fx=if iface.isEmpty then 0 else if idxF (fun y=>y.name==iface) r.ifs 0<0 then 5 else if lenAt r.ifs iface=0 then 1 else 0):=hid HFE.out;clear HFE;go_upto_if 72 with fail
  rcases Decidable.em (iface=[])with hn|hn
  case' inl=>
   have v1:(str iface).toList.isEmpty=true:=by rw[zLv,hn];rfl
   have HT1:=hid (HT0.out (by rw[HF2.out,hn];rfl));clear HT0 HE HF2 hn;rw[v1,Bool.not_true];clear v1;go_wp2_with fail;have HZ:=H5;clear H5 x2 x3 x4 x5 x6 tni tne
  case' inr=>
   obtain⟨i1,i2,i3⟩:=zCp hn;have i4:(str iface).toList.isEmpty=false:=by rw[zLv];exact i1
   have HF3:Hid (fx=if idxF (fun y=>y.name==iface) r.ifs 0<0 then 5 else if lenAt r.ifs iface=0 then 1 else 0):=hid (by rw[HF2.out,i1];rfl);clear HF2;rw[i4,Bool.not_false];have LKI:=hid (fun W (h:RBL r w 78 gx cs W)=>rlookIf_any r iface W B (HR.out.below (h.b.mono HBB.out)) (yJ HBB.out h.b.size));go_wp2_with (first|(refine zAa rfl 41 _ rfl rfl H5.out.h.range Tryz.rowRt Tryz.sizeRt ?_)|(refine zAj (by rfl) (zAa rfl 41 _ rfl rfl H5.out.h.range Tryz.rowRt Tryz.sizeRt ?_)));refine(LKI.out _ H5.out).mono ?_;rintro e wz ⟨rfl,hb⟩;have HZ:=hid (H5.out.keep hb);clear hb x2 x3 x4 x5 x6 LKI H5 i1 i2 i3 i4 tni tne;rcases Decidable.em (idxF (fun y=>y.name==iface) r.ifs 0<0)with q2|q2
   case inl=>
    have E:=hid (HE.out 5 (by decide) (by rw[HF3.out,if_pos q2]));clear HE HT0 HF3;generalize idxF (fun y:If=>y.name==iface) r.ifs 0=ix at q2⊢;go_wp2;go_ret;exact⟨zAc E.out.symm,HZ.out.b⟩
   obtain⟨i,hii⟩:∃i:Nat,idxF (fun y=>y.name==iface) r.ifs 0=(i:Int):=⟨_,(Int.toNat_of_nonneg (by omega)).symm⟩;have hil:i<r.ifs.length:=by have:=(idxF_bd (fun y=>y.name==iface) r.ifs 0).2;omega
   have EL:lenAt r.ifs iface=r.ifs[i].len:=by unfold lenAt;rw[hii,Int.toNat_natCast,List.getElem?_eq_getElem hil];rfl
   have HF4:Hid (fx=if r.ifs[i].len=0 then 1 else 0):=hid (by rw[HF3.out,if_neg q2,EL]);rw[hii];obtain⟨gi,oi,ci,ei,-,hgi,RI⟩:=HSI.out.elem (n:=12) (by decide) (fun _=>rfl) hil;have cli:wz.cell? ⟨gi,oi+i*12+2,none⟩=some (.int .i64 r.ifs[i].len):=zAg RI (HZ.out.b.mono HBB.out) hgi 2 _ rfl;have csi:wz.cell? ⟨w.heap.size,2,none⟩=some (.slice (some ⟨gi,oi,none⟩) r.ifs.length ci):=by rw[←ei];exact HZ.out.h.cell 2
   have hiz:(i:Int)<(r.ifs.length:Int):=by omega
   have hlm:r.ifs.length≤9223372036854775807:=by have:=HSI.out.len;simp only[maxLen]at this;omega
   clear RI ei q2 EL HF3 hii;generalize r.ifs[i].len=li at cli HF4;rcases Decidable.em (li=0)with q3|q3
   case inl=>
    have E:=hid (HE.out 1 (by decide) (by rw[HF4.out,if_pos q3]));have dz:(li==0)=true:=by simpa using q3
    clear HE HT0 HF4 q3;go_wp2;go_ret;exact⟨zAc E.out.symm,HZ.out.b⟩
   have dz:(li==0)=false:=by simpa using q3
   have HT1:=hid (HT0.out (by rw[HF4.out,if_neg q3]));clear HE HT0 HF4 q3;go_wp2_with fail;clear cli csi dz
  all_goals
   go_loopg [7] k (fun gh ix wq=>∃j:Nat,j+gh=k∧ix=.int .i64 j∧Hid (RBL r w 78 gx cs wq)∧Hid (∀i (hi:i<l.length),i<j→cx l[i]=false));case atStart=>exact⟨0,by omega,rfl,HZ,hid fun _ _ h=>absurd h (Nat.not_lt_zero _)⟩
   case round=>
    clear HZ;obtain⟨j,hj,rfl,HQ,HN⟩:=hrel;have cl:=HL.out wr ⟨HQ.out.h,HQ.out.b⟩;by_cases hjl:j<k;case pos=>
     have hjn:j<l.length:=by omega
     have hjz:(j:Int)<(k:Int):=by omega
     have hjm:(j:Int)<(l.length:Int):=by omega
     obtain⟨g', o', c'', e',-,hg', R0⟩:=HS.out.elem (n:=7) (by decide) (fun _=>rfl) hjn;injection e' with e1 e2 e3
     injection e1 with e1
     injection e1 with e1 e4
     subst e1 e4;have HH:Hid (cx l[j]=true→res=6):=hid fun h=>by rw[HT1.out,zHi hjn hjl h];rfl
     have HM:Hid (cx l[j]=false→∀i (hi:i<l.length),i<j+1→cx l[i]=false):=hid (zKi HN.out);have HC:=HCX.out l[j];clear HN;have YA:Hid (∀W,RBL r w 78 gx cs W→W.cell? ⟨g,o+j*7,none⟩=some (.int .u32 (l[j].pa:Int))∧W.cell? ⟨g,o+j*7+1,none⟩=some (.int .i64 l[j].pl)∧W.cell? ⟨g,o+j*7+5,none⟩=some (.int .i64 l[j].admin)):=hid (fun W h=>have hb:=h.b.mono HBB.out;⟨(hb.cell (p:=⟨g,o+j*7,none⟩) hg').trans (R0 0 _ rfl),(hb.cell (p:=⟨g,o+j*7+1,none⟩) hg').trans (R0 1 _ rfl),(hb.cell (p:=⟨g,o+j*7+5,none⟩) hg').trans (R0 5 _ rfl)⟩);generalize l[j]=y at YA HC HH HM;generalize cx y=b0 at HC HH HM;have qe:∀w,(binOp .eql 76 (.agg #[.int .u32 (y.pa:Int),.int .i64 y.pl]) (.agg #[.int .u32 (pa:Int),.int .i64 pl])).run Tryz.prog w=.ok (.bool (decide (y.pa=pa∧y.pl=pl))) w:=fun w=>zGx y.pa pa y.pl pl w
     have gp:=Tryz.pfxGuard;generalize decide (y.pa=pa∧y.pl=pl)=bp at qe HC;obtain⟨ba,hba⟩:∃ba,(y.admin==admin)=ba:=⟨_,rfl⟩;rw[hba]at HC;rcases(show(bp=false∧b0=false)∨(bp=true∧ba=false∧b0=false)∨(bp=true∧ba=true∧b0=true) by rw[HC];cases bp<;>cases ba<;>simp)with⟨rfl,rfl⟩|⟨rfl,rfl,rfl⟩|⟨rfl,rfl,rfl⟩
     case' inl=>clear hba;have HN2:=hid (HM.out rfl)
     case' inr.inl=>have HN2:=hid (HM.out rfl)
     case' inr.inr=>have E:=hid (HH.out rfl)
     all_goals
      clear R0 e2 e3 HC HH HM;go_wp2_with fail;refine zBf (fun W=>RBL r w 78 gx cs W) (by kernel_rfl) (by kernel_rfl) (HQ.out.keep (zAo wr)) ?_
      repeat
       (first
        |(refine zKf ?_ ?_;(· rfl))
        |(refine zCk (v:=?_) ?_ ?_ ?_;rotate_left;(· rfl);(· (intro W hW;obtain⟨y0,y1,y5⟩:=YA.out W hW;obtain⟨x0,x1,x5⟩:=CF.out W hW;have cl:=HL.out W ⟨hW.h,hW.b⟩;go_simp<;>rfl))))
       simp only[Act.put,yB,yC,yD]
      refine zDn (fun wq hS=>?_);have HZ:=hid hS;clear hS YA HQ cl;go_wp2_with fail
      first
       | (go_roundg (k - (j + 1))
          case measure=>omega
          case rel=>exact⟨j+1,by omega,by go_num,HZ,HN2⟩)
       | (go_ret
          exact⟨zAc E.out.symm,HZ.out.b⟩)
    have hjz:¬((j:Int)<(k:Int)):=by omega
    obtain rfl:j=k:=by omega
    have EN:Hid (zAt (staF r.ifs) zCh 6 l (l.drop (j+1)) (j+1)=res):=hid (by rw[HT1.out,zHe (by omega) HN.out];rfl);go_wp2;go_roundg (l.length - (j+1));case measure=>omega
    case rel=>exact⟨j+1,by omega,by go_num,hid ⟨HQ.out.h,HQ.out.b⟩,EN⟩
theorem rcheck_all(r:Rt)(w:World)(B:Nat)(hB:B≤w.heap.size)(h:r.at w B)(hf:r.fit)(hps:r.nb.length+r.net.length+r.ag.length+r.cd.length+r.pvRed.length≤1000000):Calls Tryz.prog 16 #[.agg r.C] w fun e w' => e=.returned (.int .i64 (zBw r))∧Below w.heap.size w w' := by
 unfold Rt.fit at hf;have h2:∀W,RB r w W→r.at W B:=fun W hW=>h.below (hW.b.mono hB)
 have HWI:=hid zCo;have P0:Hid (∀W,RB r w W→Calls Tryz.prog 52 #[r.ifsV] W fun e w' => e=.returned (.int .i64 (ifsE r.ifs))∧RB r w w'):=hid (fun W hW=>have hs:=yJ hB hW.b.size;(rinterfaces_all r.ifs r.ifsV W B hs (h2 W hW).hifs hf.1).mono fun e w' ⟨he,hb⟩=>⟨he,hW.keep hb⟩);have P1:Hid (∀W,RB r w W→Calls Tryz.prog 53 #[r.listsV] W fun e w' => e=.returned (.int .i64 (plsE r.lists))∧RB r w w'):=hid (fun W hW=>have hs:=yJ hB hW.b.size;(zMp r.lists r.listsV W B hs (h2 W hW).hlists (h2 W hW).nlists hf.2.1).mono fun e w' ⟨he,hb⟩=>⟨he,hW.keep hb⟩);have P2:Hid (∀W,RB r w W→Calls Tryz.prog 54 #[.agg r.C] W fun e w' => e=.returned (.int .i64 (mapsE r.lists r.maps))∧RB r w w'):=hid (fun W hW=>have hs:=yJ hB hW.b.size;(rrouteMaps_all r W B hs (h2 W hW)).mono fun e w' ⟨he,hb⟩=>⟨he,hW.keep hb⟩);have P3:Hid (∀W,RB r w W→Calls Tryz.prog 55 #[r.aclsV] W fun e w' => e=.returned (.int .i64 (aclsE r.acls))∧RB r w w'):=hid (fun W hW=>have hs:=yJ hB hW.b.size;(zMl r.acls r.aclsV W B hs (h2 W hW).hacls (h2 W hW).nacls hf.2.2.2.1).mono fun e w' ⟨he,hb⟩=>⟨he,hW.keep hb⟩);have P4:Hid (∀W,RB r w W→Calls Tryz.prog 56 #[.agg r.C] W fun e w' => e=.returned (.int .i64 (natsE r.acls r.nat))∧RB r w w'):=hid (fun W hW=>have hs:=yJ hB hW.b.size;(zLp r W B hs (h2 W hW) hf.2.2.2.2.1).mono fun e w' ⟨he,hb⟩=>⟨he,hW.keep hb⟩);have P5:Hid (∀W,RB r w W→Calls Tryz.prog 57 #[.agg r.C] W fun e w' => e=.returned (.int .i64 (zAk (filtE r.acls) r.ifs))∧RB r w w'):=hid (fun W hW=>have hs:=yJ hB hW.b.size;(rfilters_all r W B hs (h2 W hW) hf.1).mono fun e w' ⟨he,hb⟩=>⟨he,hW.keep hb⟩);have P6:Hid (∀W,RB r w W→Calls Tryz.prog 58 #[.agg r.C] W fun e w' => e=.returned (.int .i64 (zMc r.ifs r.stat))∧RB r w w'):=hid (fun W hW=>have hs:=yJ hB hW.b.size;(rstatics_all r W B hs (h2 W hW) hf.2.2.2.2.2.1).mono fun e w' ⟨he,hb⟩=>⟨he,hW.keep hb⟩);have P7:Hid (∀W,RB r w W→Calls Tryz.prog 59 #[.agg r.C] W fun e w' => e=.returned (.int .i64 (lnkE r))∧RB r w w'):=hid (fun W hW=>have hs:=yJ hB hW.b.size;(rlink_all r W B hs (h2 W hW) hf.2.2.2.2.2.2.1).mono fun e w' ⟨he,hb⟩=>⟨he,hW.keep hb⟩);have P8:Hid (∀W,RB r w W→Calls Tryz.prog 60 #[.agg r.C] W fun e w' => e=.returned (.int .i64 (dvE r))∧RB r w w'):=hid (fun W hW=>have hs:=yJ hB hW.b.size;(rdistance_all r W B hs (h2 W hW)).mono fun e w' ⟨he,hb⟩=>⟨he,hW.keep hb⟩);have P9:Hid (∀W,RB r w W→Calls Tryz.prog 61 #[.agg r.C] W fun e w' => e=.returned (.int .i64 (pvE r))∧RB r w w'):=hid (fun W hW=>have hs:=yJ hB hW.b.size;(rpath_all r W B hs (h2 W hW) hf.2.2.2.2.2.2.2.2.2.2.1 hf.2.2.2.2.2.2.2.2.2.2.2.1 hf.2.2.2.2.2.2.2.2.2.2.2.2.1 hps).mono fun e w' ⟨he,hb⟩=>⟨he,hW.keep hb⟩);have HB:=hid (RB.start r w);clear h hf h2 hB hps;obtain⟨res,hres⟩:∃res,zBw r=res:=⟨_,rfl⟩;rw[hres];unfold zBw secsE at hres;have CE:Hid (∀W,RB r w W→W.cell? ⟨w.heap.size,2,none⟩=some r.ifsV∧W.cell? ⟨w.heap.size,3,none⟩=some r.listsV∧W.cell? ⟨w.heap.size,5,none⟩=some r.aclsV):=hid (fun W h=>⟨h.h.cell 2,h.h.cell 3,h.h.cell 5⟩);have c0:(w.alloc (.cells r.C 41)).cell? ⟨w.heap.size,0,none⟩=some (.string (str r.name)):=HB.out.h.cell 0;have c1:=cl1 HB.out.h;generalize ifsE r.ifs=e0 at P0 hres;generalize plsE r.lists=e1 at P1 hres;generalize mapsE r.lists r.maps=e2 at P2 hres;generalize aclsE r.acls=e3 at P3 hres;generalize natsE r.acls r.nat=e4 at P4 hres;generalize zAk (filtE r.acls) r.ifs=e5 at P5 hres;generalize zMc r.ifs r.stat=e6 at P6 hres;generalize lnkE r=e7 at P7 hres;generalize dvE r=e8 at P8 hres;generalize pvE r=e9 at P9 hres;go_enter Tryz.func16,Tryz.ntmps16;go_wp2_with fail;refine(rnameL r.name _).mono ?_;rintro e w' ⟨rfl,rfl⟩;cases z1:nameB r.name with
 |false=>
  have E:Hid (res=3):=hid (by rw[←hres,z1];rfl);clear hres;go_wp2;go_ret;exact⟨zAc E.out.symm,HB.out.b⟩
 |true=>
 cases z2:zAb r.asn 0 65535 with
 |false=>
  have E:Hid (res=1):=hid (by rw[←hres,z1,z2];rfl);clear hres;go_wp2_with (go_at_call 51;refine(HWI.out _ _ _ _).mono ?_;rintro e w' ⟨rfl,rfl⟩);go_ret;exact⟨zAc E.out.symm,HB.out.b⟩
 |true=>
 rw[z1,z2]at hres;simp only[Bool.not_true,Bool.false_eq_true,if_false]at hres;obtain⟨L,hL⟩:∃L:List Int,L=[e0,e1,e2,e3,e4,e5,e6,e7,e8,e9]:=⟨_,rfl⟩;rw[←hL]at hres;have HR:=hid hres;clear hres;go_wp2_with (go_at_call 51;refine(HWI.out _ _ _ _).mono ?_;rintro e w' ⟨rfl,rfl⟩);clear c0 c1 z1 z2;refine zCj (fun W=>RB r w W) 23 (by kernel_rfl) (by kernel_rfl) (HB.out.keep (zAo _)) ?_;clear HB
 repeat
  (first
   |refine zHw (zGb (by rfl) 41 _ rfl rfl (fun W hW=>hW.h.range) Tryz.rowRt Tryz.sizeRt) ?_
   |(refine zBq (v:=?_) ?_ ?_ ?_;rotate_left;(· rfl);(· (intro W hW;obtain⟨k1,k2,k3⟩:=CE.out W hW;go_simp<;>rfl)))
   |(refine zAm ?_ ?_ (fun W hW=>P0.out W hW) ?_;(· rfl);(· (intro W hW;go_simp<;>rfl)))
   |(refine zAm ?_ ?_ (fun W hW=>P1.out W hW) ?_;(· rfl);(· (intro W hW;go_simp<;>rfl)))
   |(refine zAm ?_ ?_ (fun W hW=>P2.out W hW) ?_;(· rfl);(· (intro W hW;go_simp<;>rfl)))
   |(refine zAm ?_ ?_ (fun W hW=>P3.out W hW) ?_;(· rfl);(· (intro W hW;go_simp<;>rfl)))
   |(refine zAm ?_ ?_ (fun W hW=>P4.out W hW) ?_;(· rfl);(· (intro W hW;go_simp<;>rfl)))
   |(refine zAm ?_ ?_ (fun W hW=>P5.out W hW) ?_;(· rfl);(· (intro W hW;go_simp<;>rfl)))
   |(refine zAm ?_ ?_ (fun W hW=>P6.out W hW) ?_;(· rfl);(· (intro W hW;go_simp<;>rfl)))
   |(refine zAm ?_ ?_ (fun W hW=>P7.out W hW) ?_;(· rfl);(· (intro W hW;go_simp<;>rfl)))
   |(refine zAm ?_ ?_ (fun W hW=>P8.out W hW) ?_;(· rfl);(· (intro W hW;go_simp<;>rfl)))
   |(refine zAm ?_ ?_ (fun W hW=>P9.out W hW) ?_;(· rfl);(· (intro W hW;go_simp<;>rfl))))
  simp only[Act.put,yB,yC,yD]
 refine zCg ?_;intro wq hS;change wpList _ _ _ (_ :: _ :: []) _ _;have H1:=hid (hS.keep ((Below.refl _ _).alloc (yI _) (.cells #[.int .i64 e0,.int .i64 e1,.int .i64 e2,.int .i64 e3,.int .i64 e4,.int .i64 e5,.int .i64 e6,.int .i64 e7,.int .i64 e8,.int .i64 e9] 42)))
 have HC:Hid (∀k (hk:k<L.length),(wq.alloc (.cells #[.int .i64 e0,.int .i64 e1,.int .i64 e2,.int .i64 e3,.int .i64 e4,.int .i64 e5,.int .i64 e6,.int .i64 e7,.int .i64 e8,.int .i64 e9] 42)).cell? ⟨wq.heap.size,k,none⟩=some (.int .i64 L[k])):=hid (fun k hk=>((HasC.new _ _ _).cell k).trans (by
  subst hL;have hk' : k<10:=hk
  rcases(show k=0∨k=1∨k=2∨k=3∨k=4∨k=5∨k=6∨k=7∨k=8∨k=9 by omega)with rfl|rfl|rfl|rfl|rfl|rfl|rfl|rfl|rfl|rfl<;>rfl))
 have hl10:L.length=10:=by rw[hL];rfl
 clear hS CE P0 P1 P2 P3 P4 P5 P6 P7 P8 P9 hL;go_wp2_with fail;generalize wq.alloc (.cells #[.int .i64 e0,.int .i64 e1,.int .i64 e2,.int .i64 e3,.int .i64 e4,.int .i64 e5,.int .i64 e6,.int .i64 e7,.int .i64 e8,.int .i64 e9] 42)=wA at H1 HC⊢;generalize wq.heap.size=gs at HC⊢;go_loopg [4] 10 (fun gh ix wr=>wr=wA∧∃k:Nat,k+gh=10∧ix=.int .i64 k∧Hid (zAk (fun e=>e) (L.drop k)=res));case atStart=>exact⟨rfl,0,by omega,rfl,HR⟩
 case round=>
  clear HR;obtain⟨rfl,k,hk,rfl,HR⟩:=hrel;by_cases hlt:k<10;case neg=>
   have hkz:¬((k:Int)<10):=by omega
   have E:Hid (res=0):=hid (by rw[←HR.out,List.drop_of_length_le (by omega)];rfl);go_wp2;go_ret;exact⟨zAc E.out.symm,H1.out.b⟩
  have hkz:(k:Int)<10:=by omega
  have hkl:k<L.length:=by omega
  have ck:=HC.out k hkl;have FD:=first_drop hkl HR.out;generalize L[k]=e at ck FD;rcases FD with⟨h0,h1⟩|⟨h0,h1⟩
  ·have E:=hid h1
   have d0:(e==0)=false:=by simpa using h0
   have d1:(e != 0)=true:=by simpa using h0
   clear h0 h1;go_wp2;go_ret;exact⟨zAc E.out,H1.out.b⟩
  ·subst h0
   have E:=hid h1;clear h1;go_wp2;go_roundg (10 - (k+1));case measure=>omega
   case rel=>exact⟨rfl,k+1,by omega,by go_num,E⟩
theorem rformat_walk(r:Rt)(w:World)(B:Nat)(h:r.at w B)(hB:B≤w.heap.size)(hf:r.fit)(hps:r.nb.length+r.net.length+r.ag.length+r.cd.length+r.pvRed.length≤1000000) :
  Calls Tryz.prog 15 #[.agg r.C] w fun e w' => e=.returned (.tuple #[.string (str (zJw zBw r).1),.int .i64 (zJw zBw r).2])∧Below w.heap.size w w' := by
 have H0:=hid (RB.start r w);have HR:=hid h;have HBB:=hid hB;have HF:=hid hf;obtain⟨F,hF⟩:∃F,zJw zBw r=F:=⟨_,rfl⟩;rw[hF];replace hF:=hid hF.symm;clear h hB hf;go_enter Tryz.func15,Tryz.ntmps15;go_wp2_with (refine zAa rfl 41 _ rfl rfl H0.out.h.range Tryz.rowRt Tryz.sizeRt ?_);refine(rcheck_all r _ B (yJ HBB.out H0.out.b.size) (HR.out.below (H0.out.b.mono HBB.out)) HF.out hps).mono ?_;rintro e w6 ⟨rfl,hb⟩;have H6:=hid (H0.out.keep hb);clear hb H0 hps;by_cases hv:zBw r=0;case neg=>
  have E:F=([],zBw r):=hF.out.trans (if_neg hv);clear hF;have dn:(zBw r != 0)=true:=by simpa using hv
  clear hv;generalize zBw r=x at E dn⊢;subst E;go_wp2_with fail;go_ret2;exact⟨rfl,H6.out.b⟩
 have HV:=hid (zLk hv HF.out);have HV2:=hid (valid_more hv HF.out);have HX:Hid (F=if 65536<(textL 0 (fmtN r)).length then([],7)else(textL 0 (fmtN r),0)):=hid (hF.out.trans (if_pos hv));have HL:Hid ((textL 0 (fmtN r)).length≤140737488355328):=hid (yJ (zJj hv HF.out) (by decide));rw[hv];clear hF hv HF;rw[zKj]at HL;go_upto_region 5 with fail
 have hb0:=(Below.refl w6.heap.size w6).alloc (yI _) (.cells (WC 0 []) 108);have hnew:HasC 108 w6.heap.size (WC 0 []) (w6.alloc (.cells (WC 0 []) 108)):=HasC.new w6 _ _
 have H:Hid (XW [(41,w.heap.size,r.C)] w6.heap.size 0 [] (w6.alloc (.cells (WC 0 []) 108)) (w6.alloc (.cells (WC 0 []) 108))):=hid ⟨hnew,fun e he=>by
  obtain rfl:=List.mem_singleton.1 he
  exact⟨H6.out.h.keep hb0,by have:=zBj H6.out.h;show w.heap.size≠w6.heap.size;omega⟩,World.grownBy.refl _ _,zBj hnew⟩
 have hsz:w.heap.size≤w6.heap.size:=H6.out.b.size;have HK:Hid (∀L d t W,XW L w6.heap.size d t (w6.alloc (.cells (WC 0 []) 108)) W→Below w.heap.size w W):=hid fun L d t W hW=>H6.out.b.trans ((hb0.mono hsz).trans (hW.low hsz))
 change Code.wp _ _ _ _ (w6.alloc (.cells (WC 0 []) 108));clear H6 hb0 hnew;generalize w6.alloc (.cells (WC 0 []) 108)=wt at H HK⊢;generalize w6.heap.size=g at H HK hsz⊢;have HRT:Hid (∀L d t W,XW L g d t wt W→r.at W B):=hid fun L d t W hW=>HR.out.below ((HK.out L d t W hW).mono HBB.out)
 have hBg:=hid (yJ HBB.out hsz);clear HR HBB hsz;obtain⟨gx,hgx⟩:∃gx,w.heap.size=gx:=⟨_,rfl⟩;rw[hgx]at H HK⊢;go_wp2_with fail;refine(ropen H.out [[115,121,115,116,101,109]] (by first|(simp[joinW];done)|rfl) (by decide) (by have:=HL.out;simp only[yA,yH,Nat.zero_add]at this⊢;omega)).mono ?_;rintro e w1 ⟨rfl,h2⟩;have H1:=hid (show XW [(41,gx,r.C)] g 1 _ wt w1 from h2);clear h2 H;have c0:w1.cell? ⟨gx,0,none⟩=some (.string (str r.name)):=H1.out.a.cell 0;have hj:(lineW 1 [[104,111,115,116,45,110,97,109,101],r.name] [59]).length≤140737488355328:=by have:=HL.out;simp only[yA]at this⊢;omega
 go_wp2_with (refine zAf rfl rfl rfl rfl (by simp[lineW,joinW]at hj⊢;omega) ?_);refine(rput H1.out [[104,111,115,116,45,110,97,109,101],r.name] (by first|(simp[joinW];done)|rfl) (by decide) (by have:=HL.out;simp only[yA,yH,Nat.zero_add]at this⊢;omega)).mono ?_;rintro e w2 ⟨rfl,h2⟩;have H:=hid h2;clear h2 H1 c0 hj;have c1:w2.cell? ⟨gx,1,none⟩=some (.int .i64 r.asn):=H.out.a.cell 1;go_upto_if 23 with fail
 go_cut [] (fun wx=>XW [(41,gx,r.C)] g 1 ([]++lineW 0 [[115,121,115,116,101,109]] [32,123]++lineW 1 [[104,111,115,116,45,110,97,109,101],r.name] [59]++textL 1 (sysP 1 r)) wt wx)
 case first=>
  cases hc:(!(r.asn==0))with
  |true=>
   have E:textL 1 (sysP 1 r)=lineW 1 [[97,117,116,111,110,111,109,111,117,115,45,115,121,115,116,101,109],decI r.asn] [59]:=zAq hc;have hj:(lineW 1 [[97,117,116,111,110,111,109,111,117,115,45,115,121,115,116,101,109],decI r.asn] [59]).length≤140737488355328:=by rw[←E];have:=HL.out;simp only[yA]at this⊢;omega
   have hs:(r.asn != 0)=true:=hc;rw[hs];go_wp2_with fail;refine(zBy r.asn _ HV.out.asn.1 (by have:=HV.out.asn.2;omega)).mono ?_;rintro e w3 ⟨rfl,rfl⟩;go_wp2_with (refine zAf rfl rfl rfl rfl (by simp[lineW,joinW]at hj⊢;omega) ?_);refine(rput H.out [[97,117,116,111,110,111,109,111,117,115,45,115,121,115,116,101,109],decI r.asn] (by first|(simp[joinW];done)|rfl) (by decide) (by rw[←E];have:=HL.out;simp only[yA,yH,Nat.zero_add]at this⊢;omega)).mono ?_;rintro e w4 ⟨rfl,h2⟩;have H2:=hid h2;clear h2;go_wp2;go_meet;rw[E];exact H2.out
  |false=>
   have hs:(r.asn != 0)=false:=hc;rw[hs];go_wp2;go_meet;rw[show textL 1 (sysP 1 r)=[]from zAl hc,yF];exact H.out
 case rest=>
 clear H c1;have H:=hid hcut;clear hcut;go_wp2_with fail;refine(zFh H.out (by decide) (by have:=HL.out;simp only[yA,yH,Nat.zero_add]at this⊢;omega)).mono ?_;rintro e w1 ⟨rfl,h2⟩;have H1:=hid h2;clear h2 H;have c2:w1.cell? ⟨gx,2,none⟩=some r.ifsV:=H1.out.a.cell 2;go_wp2_with fail;refine(winterfaces_any g _ r.ifs r.ifsV _ B H1.out.t hBg.out (HRT.out _ _ _ _ H1.out).hifs HV.out.ifs (by have:=HL.out;simp only[yA,yH,Nat.zero_add]at this⊢;omega)).mono ?_;rintro e w2 ⟨rfl,h2,k2⟩;have H2:=hid (H1.out.go h2 k2);clear h2 k2 H1 c2;go_wp2_with (refine zAa rfl 41 _ rfl rfl H2.out.a.range Tryz.rowRt Tryz.sizeRt ?_);refine(wlists_any g _ r _ B H2.out.t hBg.out (HRT.out _ _ _ _ H2.out) HV.out.lists (by have:=HL.out;simp only[yA,yH,Nat.zero_add]at this⊢;omega)).mono ?_;rintro e w3 ⟨rfl,h2,k2⟩;have H3:=hid (H2.out.go h2 k2);clear h2 k2 H2;go_wp2_with (refine zAa rfl 41 _ rfl rfl H3.out.a.range Tryz.rowRt Tryz.sizeRt ?_);refine(wpolicies_any g _ r _ B H3.out.t hBg.out (HRT.out _ _ _ _ H3.out) HV.out.maps (by have:=HL.out;simp only[yA,yH,Nat.zero_add]at this⊢;omega)).mono ?_;rintro e w4 ⟨rfl,h2,k2⟩;have H4:=hid (H3.out.go h2 k2);clear h2 k2 H3;go_wp2_with (refine zAa rfl 41 _ rfl rfl H4.out.a.range Tryz.rowRt Tryz.sizeRt ?_);refine(wfilters_any g _ r _ B H4.out.t hBg.out (HRT.out _ _ _ _ H4.out) HV.out.acls (by have:=HL.out;simp only[yA,yH,Nat.zero_add]at this⊢;omega)).mono ?_;rintro e w5 ⟨rfl,h2,k2⟩;have H5:=hid (H4.out.go h2 k2);clear h2 k2 H4;go_wp2_with (refine zAa rfl 41 _ rfl rfl H5.out.a.range Tryz.rowRt Tryz.sizeRt ?_);refine(wstatics_any g _ r _ B H5.out.t hBg.out (HRT.out _ _ _ _ H5.out) HV.out.nat HV2.out.stat (by have:=HL.out;simp only[yA,yH,Nat.zero_add]at this⊢;omega)).mono ?_;rintro e w6 ⟨rfl,h2,k2⟩;have H6:=hid (H5.out.go h2 k2);clear h2 k2 H5;go_wp2_with (refine zAa rfl 41 _ rfl rfl H6.out.a.range Tryz.rowRt Tryz.sizeRt ?_);refine(wprotocols_any g _ r _ B H6.out.t hBg.out (HRT.out _ _ _ _ H6.out) HV2.out.ls HV2.out.dv HV2.out.pv (by have:=HL.out;simp only[yA,yH,Nat.zero_add]at this⊢;omega)).mono ?_;rintro e w7 ⟨rfl,h2,k2⟩;have H7:=hid (H6.out.go h2 k2);clear h2 k2 H6;have HT:Hid (XW [(41,gx,r.C)] g 0 (textL 0 (fmtN r)) wt w7):=hid (by rw[zKj];have:=H7.out;simpa only[List.nil_append,yE] using this);have HB:=hid (HK.out _ _ _ _ HT.out);clear H7 HV HV2 HRT HL HK;have c0:w7.cell? ⟨g,0,none⟩=some (.string (str (textL 0 (fmtN r)))):=HT.out.t.cell 0;have hsz:(str (textL 0 (fmtN r))).size=(textL 0 (fmtN r)).length:=zBa _;by_cases hl:65536<(textL 0 (fmtN r)).length;case pos=>
  have E:F=([],7):=HX.out.trans (if_pos hl);subst E;have hlz:(65536:Int)<((str (textL 0 (fmtN r))).size:Int):=by omega
  clear HX HT hl hsz;go_wp2_with fail;go_ret2;exact⟨rfl,HB.out⟩
 have E:F=(textL 0 (fmtN r),0):=HX.out.trans (if_neg hl);have hlz:¬(65536:Int)<((str (textL 0 (fmtN r))).size:Int):=by omega
 clear HX HT hl hsz;generalize textL 0 (fmtN r)=t at E hlz c0⊢;subst E;go_wp2_with fail;go_ret2;exact⟨rfl,HB.out⟩
section
variable {P : Program} {ops : Array Oper} {Q : Exit → Act → World → Prop} {w : World} {Z k : Nat} {pt : Value} {b : Bool} {a : Act} {rest : List Oper}
def Sl(Z k:Nat)(pt:Value)(b:Bool)(a:Act):Prop:=a.tmps.size=Z∧a.tmps[1]? = some pt∧a.tmps[k]? = some (.bool b)
theorem ev_of{s:Nat}{q:Value}(h:a.tmps[s]? = some q):a.eval (.tmp s)=q:=by
 show a.tmps.getD s undef=q;rw[Array.getD_eq_getD_getElem?,h];rfl
theorem put_at{d:Nat}{v:Value}(h:d<a.tmps.size):(a.put (some d) v).tmps[d]? = some v:=by
 show(a.tmps.setIfInBounds d v)[d]? = some v;simp[h]
theorem put_ne{d e:Nat}{v:Value}(h:d≠e):(a.put (some d) v).tmps[e]? = a.tmps[e]?:=by
 show(a.tmps.setIfInBounds d v)[e]? = _;rw[Array.getElem?_setIfInBounds_ne h]
theorem Sl.put{d:Nat}{v:Value}(H:Sl Z k pt b a)(h1:d≠1)(hk:d≠k):Sl Z k pt b (a.put (some d) v) :=
 ⟨by rw[←H.1];exact Array.size_setIfInBounds,(put_ne h1).trans H.2.1,(put_ne hk).trans H.2.2⟩
theorem wanted_key{o:Oper}{gi:Nat}(hg:o.guard=some (gi,false))(hi:(ops[gi]?).bind (·.dst)=some k)(t:Array Value)(h:t[k]? = some (.bool b)):Region.wanted o (yielded ops t) = !b:=by
 unfold Region.wanted yielded;rw[hg];simp only[hi,Option.bind_some,h];cases b<;>rfl
theorem sm_op(d s:Nat){o:Oper}{q:Value}(p:Value){f:Act}(E:Hid (a=f))(H:Hid (Sl Z k pt b a))(hs:Hid (b=false→a.tmps[s]? = some q))(hd:o.dst=some d)(hw:∀t:Array Value,t[k]? = some (.bool b)→Region.wanted o (yielded ops t) = !b)(hb:d≠1∧d≠k∧d<Z)
  (hv:∀ev:Operand→Value,(∀v,ev (.const v)=v)→ev (.tmp s)=q→(execOp ev o).run P w=.ok (.value p) w) (h:∀x a', Hid (a' = f.put (some d) x)→Hid (Sl Z k pt b a')→Hid (b=false→a'.tmps[d]? = some p)→wpList P ops Q rest a' w):wpList P ops Q (o :: rest) a w:=by
 replace H:=H.out;replace hs:=hs.out;have E:=E.out;subst E;have hq:=hw a.tmps H.2.2;unfold wpList;cases b with
 |true=>rw[if_neg (by rw[hq];decide),hd];exact h _ _ (hid rfl) (hid (H.put hb.1 hb.2.1)) (hid fun e=>by cases e)
 |false=>
  replace hq:Region.wanted o (yielded ops a.tmps)=true:=hq;rw[if_pos hq];refine .inl ?_;unfold Oper.wp;rw[hv _ (fun _=>rfl) (ev_of (hs rfl))];show wpList P ops Q rest (a.put o.dst p) w;rw[hd];exact h p _ (hid rfl) (hid (H.put hb.1 hb.2.1)) (hid fun _=>put_at (by rw[H.1];exact hb.2.2))
theorem sl_value{o:Oper}{v:Value}(hg:o.guard=none)(hv:(execOp a.eval o).run P w=.ok (.value v) w)(h:wpList P ops Q rest (a.put o.dst v) w):wpList P ops Q (o :: rest) a w:=by
 unfold wpList;rw[if_pos (by unfold Region.wanted;rw[hg])];refine .inl ?_;unfold Oper.wp;rw[hv];exact h
theorem sm_last{φ:Prop}(d5 d4:Nat){o5:Oper}{c:Bool}{f:Act}(E:Hid (a=f))(F:Hid (b=false→φ))(H:Hid (Sl Z k pt b a))(hs:Hid (b=false→a.tmps[d4]? = some (.bool c)))(h5:o5.dst=some d5∧o5.guard=none∧o5.op=.pick (.tmp k) (.const (.bool true)) (.tmp d4))(hz:d5<Z∧d5≠1)
  (h:∀e a', Hid (a' = f.put (some d5) (.bool e))→Hid (Sl Z d5 pt e a')→Hid (e=false→φ∧c=false)→wpList P ops Q rest a' w):wpList P ops Q (o5 :: rest) a w:=by
 replace H:=H.out;replace hs:=hs.out;have E:=E.out;subst E;refine sl_value h5.2.1 (v:=.bool (b||c)) ?_ ?_
 ·have hk:=ev_of H.2.2
  unfold execOp;rw[h5.2.2];cases b with
  |true=>
   have hc:a.eval (.const (.bool true))=.bool true:=rfl;generalize a.eval=ev at hk hc;simp[go_sem,hk,hc]
  |false=>
   have h4:=ev_of (hs rfl);generalize a.eval=ev at hk h4;simp[go_sem,hk,h4]
 ·rw[h5.1]
  exact h _ _ (hid rfl) (hid ⟨by rw[←H.1];exact Array.size_setIfInBounds,(put_ne hz.2).trans H.2.1,put_at (by rw[H.1];exact hz.1)⟩) (hid fun e=>by rw[Bool.or_eq_false_iff]at e;exact⟨F.out e.1,e.2⟩)
theorem sm_or{φ:Prop}(d6 d5 d4:Nat){o5 o6:Oper}{c:Bool}{f:Act}(E:Hid (a=f))(F:Hid (b=false→φ))(H:Hid (Sl Z k pt b a))(hs:Hid (b=false→a.tmps[d4]? = some (.bool c)))(h5:o5.dst=some d5∧o5.guard=none∧o5.op=.pick (.tmp k) (.const (.bool true)) (.tmp d4))(h6:o6.dst=some d6∧o6.guard=none∧o6.op=.move (.tmp d5))(hz:(d5<Z∧d5≠1)∧d6<Z∧d6≠1)
  (h:∀e a', Hid (a' = (f.put (some d5) (.bool e)).put (some d6) (.bool e))→Hid (Sl Z d6 pt e a')→Hid (e=false→φ∧c=false)→wpList P ops Q rest a' w):wpList P ops Q (o5 :: o6 :: rest) a w:=by
 refine sm_last d5 d4 E F H hs h5 hz.1 fun e a5 E5 H5 F5=>?_
 replace H5:=H5.out;have E5:=E5.out;subst E5;refine sl_value h6.2.1 (v:=.bool e) ?_ ?_
 ·have hk:=ev_of H5.2.2
  unfold execOp;rw[h6.2.2];generalize (f.put (some d5) (.bool e)).eval=ev at hk;simp[go_sem,hk]
 ·rw[h6.1]
  exact h _ _ (hid rfl) (hid ⟨by rw[←H5.1];exact Array.size_setIfInBounds,(put_ne hz.2.2).trans H5.2.1,put_at (by rw[H5.1];exact hz.2.1)⟩) F5
end
theorem small_any(r:Rt)(w:World)(B:Nat)(hB:B≤w.heap.size)(h:r.at w B):Calls Tryz.prog 13 #[.agg r.C] w fun e w' => (e=.returned (.bool false)∨(e=.returned (.bool true)∧r.nb.length+r.net.length+r.ag.length+r.cd.length+r.pvRed.length≤1000000))∧Below w.heap.size w w' := by
 have HBB:=hid hB;have H0:=hid (RB.start r w);obtain⟨A0,k0,v0,-⟩:=id h.hifs;have q0:(w.alloc (.cells r.C 41)).cell? ⟨w.heap.size,2,none⟩=some (.slice A0 r.ifs.length k0):=by rw[←v0];exact H0.out.h.cell 2
 obtain⟨A1,k1,v1,-⟩:=id h.hlists;have q1:(w.alloc (.cells r.C 41)).cell? ⟨w.heap.size,3,none⟩=some (.slice A1 r.lists.length k1):=by rw[←v1];exact H0.out.h.cell 3
 obtain⟨A2,k2,v2,-⟩:=id h.hmaps;have q2:(w.alloc (.cells r.C 41)).cell? ⟨w.heap.size,4,none⟩=some (.slice A2 r.maps.length k2):=by rw[←v2];exact H0.out.h.cell 4
 obtain⟨A3,k3,v3,-⟩:=id h.hacls;have q3:(w.alloc (.cells r.C 41)).cell? ⟨w.heap.size,5,none⟩=some (.slice A3 r.acls.length k3):=by rw[←v3];exact H0.out.h.cell 5
 obtain⟨A4,k4,v4,-⟩:=id h.hnat;have q4:(w.alloc (.cells r.C 41)).cell? ⟨w.heap.size,6,none⟩=some (.slice A4 r.nat.length k4):=by rw[←v4];exact H0.out.h.cell 6
 obtain⟨A5,k5,v5,-⟩:=id h.hstat;have q5:(w.alloc (.cells r.C 41)).cell? ⟨w.heap.size,7,none⟩=some (.slice A5 r.stat.length k5):=by rw[←v5];exact H0.out.h.cell 7
 obtain⟨A6,k6,v6,-⟩:=id h.hranges;have q6:(w.alloc (.cells r.C 41)).cell? ⟨w.heap.size,10,none⟩=some (.slice A6 r.ranges.length k6):=by rw[←v6];exact H0.out.h.cell 10
 obtain⟨A7,k7,v7,-⟩:=id h.hlsRed;have q7:(w.alloc (.cells r.C 41)).cell? ⟨w.heap.size,11,none⟩=some (.slice A7 r.lsRed.length k7):=by rw[←v7];exact H0.out.h.cell 11
 obtain⟨A8,k8,v8,-⟩:=id h.hdvRed;have q8:(w.alloc (.cells r.C 41)).cell? ⟨w.heap.size,16,none⟩=some (.slice A8 r.dvRed.length k8):=by rw[←v8];exact H0.out.h.cell 16
 obtain⟨A9,k9,v9,-⟩:=id h.hpvRed;have q9:(w.alloc (.cells r.C 41)).cell? ⟨w.heap.size,24,none⟩=some (.slice A9 r.pvRed.length k9):=by rw[←v9];exact H0.out.h.cell 24
 obtain⟨A10,k10,v10,-⟩:=id h.hnb;have q10:(w.alloc (.cells r.C 41)).cell? ⟨w.heap.size,20,none⟩=some (.slice A10 r.nb.length k10):=by rw[←v10];exact H0.out.h.cell 20
 obtain⟨A11,k11,v11,-⟩:=id h.hnet;have q11:(w.alloc (.cells r.C 41)).cell? ⟨w.heap.size,21,none⟩=some (.slice A11 r.net.length k11):=by rw[←v11];exact H0.out.h.cell 21
 obtain⟨A12,k12,v12,-⟩:=id h.hag;have q12:(w.alloc (.cells r.C 41)).cell? ⟨w.heap.size,22,none⟩=some (.slice A12 r.ag.length k12):=by rw[←v12];exact H0.out.h.cell 22
 obtain⟨A13,k13,v13,-⟩:=id h.hcd;have q13:(w.alloc (.cells r.C 41)).cell? ⟨w.heap.size,23,none⟩=some (.slice A13 r.cd.length k13):=by rw[←v13];exact H0.out.h.cell 23
 have G1:Hid (∀W,RB r w W→W.cell? ⟨w.heap.size,3,none⟩=some (.slice A1 r.lists.length k1)):=hid fun W h=>by rw[←v1];exact h.h.cell 3
 have S1:=hid (show SlV w B 2 PList.C (.slice A1 r.lists.length k1) r.lists by rw[←v1];exact h.hlists);have N1:=hid h.nlists;have m1:=h.hlists.len;simp only[maxLen]at m1;have G2:Hid (∀W,RB r w W→W.cell? ⟨w.heap.size,4,none⟩=some (.slice A2 r.maps.length k2)):=hid fun W h=>by rw[←v2];exact h.h.cell 4
 have S2:=hid (show SlV w B 2 RMap.C (.slice A2 r.maps.length k2) r.maps by rw[←v2];exact h.hmaps);have N2:=hid h.nmaps;have m2:=h.hmaps.len;simp only[maxLen]at m2;have G3:Hid (∀W,RB r w W→W.cell? ⟨w.heap.size,5,none⟩=some (.slice A3 r.acls.length k3)):=hid fun W h=>by rw[←v3];exact h.h.cell 5
 have S3:=hid (show SlV w B 2 AList.C (.slice A3 r.acls.length k3) r.acls by rw[←v3];exact h.hacls);have N3:=hid h.nacls;have m3:=h.hacls.len;simp only[maxLen]at m3;clear h hB v0 v1 v2 v3 v4 v5 v6 v7 v8 v9 v10 v11 v12 v13;go_enter Tryz.func13,Tryz.ntmps13;go_upto_region 1 with fail
 generalize hwz:w.alloc (.cells r.C 41)=wz at *;refine wp_region_list ?_;simp only[List.append_eq,List.cons_append,List.nil_append];refine sm_op (Z:=141) (k:=2) (b:=false) 6 1 ?_ (hid rfl) (hid ⟨rfl,rfl,rfl⟩) (hid fun _=>rfl) rfl (fun _ _=>rfl) (by decide) ?_ ?_;rotate_left
 ·intro ev hc h;go_simp<;>rfl
 intro x a2 E X y
 iterate 4 (refine sm_op _ _ ?_ E X y rfl (fun _ _=>rfl) (by decide) ?_ ?_;rotate_left;(· (intro ev hc h;go_simp<;>rfl));intro x a2 E' X' y';clear E X y;have E:=E';have X:=X';have y:=y';clear E' X' y')
 obtain⟨e,he⟩:∃e,decide ((12:Int)<r.ifs.length)=e:=⟨_,rfl⟩;have X' : Hid (Sl 141 10 (.pointer (some ⟨w.heap.size,0,none⟩)) e _):=hid ⟨X.out.1,X.out.2.1,by rw[←he];exact y.out rfl⟩;have F:Hid (e=false→True):=hid fun _=>trivial
 clear X y he;have X:=X';have y:Hid (e=false→True):=F;clear X'
 repeat
  (first
   |(refine sm_op _ 1 ?_ E X (hid fun _=>X.out.2.1) rfl (wanted_key rfl rfl) (by decide) ?_ ?_;rotate_left;(· (intro ev hc h;go_simp<;>rfl));intro x a2 E' X' y';clear E X y;have E:=E';have X:=X';have y:=y';clear E' X' y')
   |(refine sm_op _ _ ?_ E X y rfl (wanted_key rfl rfl) (by decide) ?_ ?_;rotate_left;(· (intro ev hc h;go_simp<;>rfl));intro x a2 E' X' y';clear E X y;have E:=E';have X:=X';have y:=y';clear E' X' y')
   |(refine sm_or _ _ _ E F X y ⟨rfl,rfl,rfl⟩ ⟨rfl,rfl,rfl⟩ (by decide) ?_;intro e a2 E' X' F';clear E X y F;have E:=E';have X:=X';have F:=F';clear E' X' F';have y:=F))
 refine sm_last _ _ E F X y ⟨rfl,rfl,rfl⟩ (by decide) ?_;intro bb a2 E2 X2 F2;unfold wpList
 have FIN:bb=false→r.nb.length+r.net.length+r.ag.length+r.cd.length+r.pvRed.length≤1000000:=fun h=>by
  have:=F2.out h;simp at this;omega
 clear X X2 y F F2 E;rw[E2.out];simp only[Act.put,yB,yC,yD];clear E2;clear q0 q1 q2 q3 q4 q5 q6 q7 q8 q9 q10 q11 q12 q13;cases bb with
 |true=>
  go_wp2;go_ret;exact⟨.inl rfl,H0.out.b⟩
 |false=>
 have FI:=hid (FIN rfl);clear FIN;go_wp2;go_loopg [3] r.lists.length (fun gh ix wr=>∃k:Nat,k+gh=r.lists.length∧ix=.int .i64 k∧Hid (RB r w wr));case atStart=>exact⟨0,by omega,rfl,H0⟩
 case round=>
  clear H0;obtain⟨k,hk,rfl,H0⟩:=hrel;have cl:=G1.out wr H0.out;by_cases hlt:k<r.lists.length;case pos=>
   have hkz:(k:Int)<(r.lists.length:Int):=by omega
   obtain⟨g,o,c', e',-,hg,R0⟩:=S1.out.elem (n:=2) (by decide) (fun _=>rfl) hlt;injection e' with e1 e2 e3
   subst e1 e3;obtain⟨Ax,kx,vx,-⟩:=id (N1.out _ (List.getElem_mem hlt));have x1:wr.cell? ⟨g,o+k*2+1,none⟩=some (.slice Ax r.lists[k].rules.length kx):=by rw[←vx];exact zAg R0 (H0.out.b.mono HBB.out) hg 1 _ rfl
   clear R0 e2 vx;generalize r.lists[k].rules.length=nx at x1;by_cases d:(20:Int)<(nx:Int)
   ·go_wp2_with fail
    go_ret;exact⟨.inl rfl,H0.out.b⟩
   go_wp2;go_roundg (r.lists.length - (k+1));case measure=>omega
   case rel=>exact⟨k+1,by omega,by go_num,H0⟩
  have hkz:¬((k:Int)<(r.lists.length:Int)):=by omega
  have cl2:=G2.out wr H0.out;go_wp2_with fail;clear cl cl2 hkz hlt;go_loopg [4] r.maps.length (fun gh ix wr=>∃k:Nat,k+gh=r.maps.length∧ix=.int .i64 k∧Hid (RB r w wr));case atStart=>exact⟨0,by omega,rfl,H0⟩
  case round=>
   clear H0;obtain⟨k,hk,rfl,H0⟩:=hrel;have cl:=G2.out wr H0.out;by_cases hlt:k<r.maps.length;case pos=>
    have hkz:(k:Int)<(r.maps.length:Int):=by omega
    obtain⟨g,o,c', e',-,hg,R0⟩:=S2.out.elem (n:=2) (by decide) (fun _=>rfl) hlt;injection e' with e1 e2 e3
    subst e1 e3;obtain⟨Ax,kx,vx,-⟩:=id (N2.out _ (List.getElem_mem hlt));have x1:wr.cell? ⟨g,o+k*2+1,none⟩=some (.slice Ax r.maps[k].clauses.length kx):=by rw[←vx];exact zAg R0 (H0.out.b.mono HBB.out) hg 1 _ rfl
    clear R0 e2 vx;generalize r.maps[k].clauses.length=nx at x1;by_cases d:(12:Int)<(nx:Int)
    ·go_wp2_with fail
     go_ret;exact⟨.inl rfl,H0.out.b⟩
    go_wp2;go_roundg (r.maps.length - (k+1));case measure=>omega
    case rel=>exact⟨k+1,by omega,by go_num,H0⟩
   have hkz:¬((k:Int)<(r.maps.length:Int)):=by omega
   have cl2:=G3.out wr H0.out;go_wp2_with fail;clear cl cl2 hkz hlt;go_loopg [5] r.acls.length (fun gh ix wr=>∃k:Nat,k+gh=r.acls.length∧ix=.int .i64 k∧Hid (RB r w wr));case atStart=>exact⟨0,by omega,rfl,H0⟩
   case round=>
    clear H0;obtain⟨k,hk,rfl,H0⟩:=hrel;have cl:=G3.out wr H0.out;by_cases hlt:k<r.acls.length;case pos=>
     have hkz:(k:Int)<(r.acls.length:Int):=by omega
     obtain⟨g,o,c', e',-,hg,R0⟩:=S3.out.elem (n:=2) (by decide) (fun _=>rfl) hlt;injection e' with e1 e2 e3
     subst e1 e3;obtain⟨Ax,kx,vx,-⟩:=id (N3.out _ (List.getElem_mem hlt));have x1:wr.cell? ⟨g,o+k*2+1,none⟩=some (.slice Ax r.acls[k].rules.length kx):=by rw[←vx];exact zAg R0 (H0.out.b.mono HBB.out) hg 1 _ rfl
     clear R0 e2 vx;generalize r.acls[k].rules.length=nx at x1;by_cases d:(20:Int)<(nx:Int)
     ·go_wp2_with fail
      go_ret;exact⟨.inl rfl,H0.out.b⟩
     go_wp2;go_roundg (r.acls.length - (k+1));case measure=>omega
     case rel=>exact⟨k+1,by omega,by go_num,H0⟩
    have hkz:¬((k:Int)<(r.acls.length:Int)):=by omega
    go_wp2;go_ret;exact⟨.inr ⟨rfl,FI.out⟩,H0.out.b⟩
theorem zMs(r:Rt)(w:World)(B:Nat)(hB:B≤w.heap.size)(h:r.at w B)(hf:r.fit)(he:EnvA w.heap.size w):Calls Tryz.prog 4 #[.agg r.C] w fun e w' => e=.returned (.bool true)∧Below w.heap.size w w' := by
 have HSN:=hid (fun(W:World) (hW:Below w.heap.size w W)=>sane_gen zBw bParse_any (by kernel_rfl) W ((he.keep hW).up hW.size));have HP:=hid (fun(T:ByteArray) (W:World) (hW:Below w.heap.size w W)=>bParse_any T W ((he.keep hW).up hW.size));have HE:=hid (fun(W:World) (hW:Below w.heap.size w W)=>(he.keep hW).up hW.size);have HBB:=hid hB;have HR:=hid h;have HF:=hid hf;have H1:=hid (RB.start r w);clear he h hf hB;go_enter Tryz.func4,Tryz.ntmps4;go_wp2_with (refine zAa rfl 41 _ rfl rfl H1.out.h.range Tryz.rowRt Tryz.sizeRt ?_);refine(small_any r _ B (yJ HBB.out H1.out.b.size) (HR.out.below (H1.out.b.mono HBB.out))).mono ?_;rintro e w2 ⟨he2,hb⟩;have H2:=hid (H1.out.keep hb);clear hb H1;rcases he2 with rfl|⟨rfl,hps⟩
 case inl=>
  go_wp2;go_ret;exact⟨rfl,H2.out.b⟩
 obtain⟨F,hF⟩:∃F,zJw zBw r=F:=⟨_,rfl⟩;have a1:=format_walk r w2 B (HR.out.below (H2.out.b.mono HBB.out)) (yJ HBB.out H2.out.b.size) HF.out (HE.out w2 H2.out.b);rw[hF]at a1;have HFW:=hid a1;clear a1;go_wp2_with (refine zAa rfl 41 _ rfl rfl H2.out.h.range Tryz.rowRt Tryz.sizeRt ?_);refine HFW.out.mono ?_;rintro e w3 ⟨rfl,hb⟩;have H3:=hid (H2.out.keep hb);clear hb HFW H2;have a1:=rformat_walk r w3 B (HR.out.below (H3.out.b.mono HBB.out)) (yJ HBB.out H3.out.b.size) HF.out hps;rw[hF]at a1;have HFX:=hid a1;clear a1;go_wp2_with (refine zAa rfl 41 _ rfl rfl H3.out.h.range Tryz.rowRt Tryz.sizeRt ?_);refine HFX.out.mono ?_;rintro e w4 ⟨rfl,hb⟩;have H4:=hid (H3.out.keep hb);clear hb HFX H3 hps hF;obtain⟨x,n⟩:=F;have q0:((str x).toList==(str x).toList)=true:=beq_self_eq_true _;go_wp2_with fail;refine(HSN.out w4 H4.out.b).mono ?_;rintro e w5 ⟨rfl,hb⟩;have H5:=hid (H4.out.keep hb);clear hb;go_wp2;go_ret;exact⟨rfl,H5.out.b⟩
theorem zMm(r:Rt)(w:World)(he:EnvA w.heap.size w)(h:r.at w w.heap.size)(hf:r.fit):Calls Tryz.prog 4 #[.agg r.C] w fun e w' => e=.returned (.bool true)∧Below w.heap.size w w' := zMs r w _ (yI _) h hf he
end Go.Proofs.YtdlgnhefpoalnaaGreatDoor
