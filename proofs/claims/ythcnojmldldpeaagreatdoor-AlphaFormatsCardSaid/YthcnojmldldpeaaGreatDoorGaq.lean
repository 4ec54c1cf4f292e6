/- The reference's CheckRouter, of any router. Conditions: the router lies in memory, addresses are numbers below 2^32. -/
import Derived.Test.YthcnojmldldpeaaGreatDoorGap
set_option maxHeartbeats 8000000
set_option maxRecDepth 100000
namespace Go.Proofs.YthcnojmldldpeaaGreatDoor
open Lib (hid)
open Go.RowKit
theorem lnk_ways(r:Rt):(r.lsOn=false∧lnkE r=1∧(r.lsAdmin==0)=false∧(r.lsAdmin != 0)=true)∨(r.lsOn=false∧lnkE r=1∧r.lsAdmin=0∧(0:Int)<(r.ranges.length:Int))∨(r.lsOn=false∧lnkE r=1∧r.lsAdmin=0∧r.ranges.length=0∧(0:Int)<(r.lsRed.length:Int))∨(r.lsOn=false∧lnkE r=0∧r.lsAdmin=0∧r.ranges.length=0∧r.lsRed.length=0)∨(r.lsOn=true∧lnkE r=1∧zAb r.lsAdmin 1 255=false) ∨
  (r.lsOn=true∧zAb r.lsAdmin 1 255=true∧lnkE r=if pairE 4 arF zBl 6 r.ranges=0 then redE r.maps 3 0 16777215 2 r.lsRed else pairE 4 arF zBl 6 r.ranges):=by
 unfold lnkE;cases ho:r.lsOn with
 |false=>
  rw[if_neg (by decide)];by_cases h1:r.lsAdmin=0;case neg=>exact .inl ⟨rfl,by simp[h1],by simpa using h1,by simpa using h1⟩
  by_cases h2:r.ranges.length=0;case neg=>exact .inr (.inl ⟨rfl,by rw[if_pos];rw[show decide ((0:Int)<r.ranges.length)=true by simp;omega,Bool.or_true,Bool.true_or],h1,by omega⟩)
  by_cases h3:r.lsRed.length=0;case neg=>exact .inr (.inr (.inl ⟨rfl,by rw[if_pos];rw[show decide ((0:Int)<r.lsRed.length)=true by simp;omega,Bool.or_true],h1,h2,by omega⟩))
  exact .inr (.inr (.inr (.inl ⟨rfl,by rw[h1,h2,h3];rfl,h1,h2,h3⟩)))
 |true=>
  rw[if_pos rfl];cases hw:zAb r.lsAdmin 1 255 with
  |false=>exact .inr (.inr (.inr (.inr (.inl ⟨rfl,rfl,rfl⟩))))
  |true=>exact .inr (.inr (.inr (.inr (.inr ⟨rfl,rfl,rfl⟩))))
theorem rlink_all(r:Rt)(w:World)(B:Nat)(hB:B≤w.heap.size)(h:r.at w B)(hf:∀x∈r.ranges,x.fit):Calls Tryz.prog 61 #[.agg r.C] w fun e w' => e=.returned (.int .i64 (lnkE r))∧Below w.heap.size w w' := by
 have HBB:=hid hB;have H0:=RB.start r w;have HR:=hid h;have HWI:=hid zCd;have HF:=hid hf;have hl:=h.hranges;have hlen:=hl.len;simp only[maxLen]at hlen;obtain⟨A,c,hv,-⟩:=id hl;obtain⟨A2,c2,hv2,-⟩:=id h.hlsRed;have HLR:=h.hlsRed;rw[hv2]at HLR;rw[hv]at hl;replace HLR:=hid HLR;have HS:=hid hl;have HW:=hid (lnk_ways r);generalize lnkE r=res at HW⊢;have hlr:=HLR.out.len;simp only[maxLen]at hlr;clear hf hl
 have HO:(#[.bool r.lsOn,.int .i64 r.lsAdmin,.slice A r.ranges.length c,.slice A2 r.lsRed.length c2]:Array Value).all (·.oneCell')=true:=by
  rw[Array.all_eq_true_iff_forall_mem];intro v hv;simp only[List.mem_toArray,List.mem_cons,List.not_mem_nil,or_false]at hv;rcases hv with rfl|rfl|rfl|rfl<;>rfl
 have HSh:=hid (H0.h.subM 8 #[.bool r.lsOn,.int .i64 r.lsAdmin,.slice A r.ranges.length c,.slice A2 r.lsRed.length c2] (fun j hj=>by
  have hj' : j<4:=hj
  rcases(show j=0∨j=1∨j=2∨j=3 by omega)with rfl|rfl|rfl|rfl<;>first|rfl|(show some _=some _;simp only[Option.some.injEq];assumption)))
 have H0h:=hid H0;clear H0 hv hv2 h hB;go_enter Tryz.func61,Tryz.ntmps61;go_upto_region 2 with(refine zAa rfl 31 _ rfl rfl HSh.out Tryz.rowLS Tryz.sizeLS ?_)
 have H5:Hid (RBL r w 31 (w.alloc (.cells r.C 41)).heap.size #[.bool r.lsOn,.int .i64 r.lsAdmin,.slice A r.ranges.length c,.slice A2 r.lsRed.length c2] ((w.alloc (.cells r.C 41)).alloc (.cells #[.bool r.lsOn,.int .i64 r.lsAdmin,.slice A r.ranges.length c,.slice A2 r.lsRed.length c2] 31))):=hid ⟨(H0h.out.keep ((Below.refl _ _).alloc (Nat.le_refl _) _)).h,(H0h.out.keep ((Below.refl _ _).alloc (Nat.le_refl _) _)).b,HasC.new _ _ _⟩;clear H0h HSh HO;generalize hw5:(w.alloc (.cells r.C 41)).alloc (.cells #[.bool r.lsOn,.int .i64 r.lsAdmin,.slice A r.ranges.length c,.slice A2 r.lsRed.length c2] 31)=w5 at H5⊢;clear hw5;rw[show(w.alloc (.cells r.C 41)).heap.size=w.heap.size+1 from by simp]at H5;generalize w.heap.size+1=gl at H5⊢;obtain⟨lc0,lc1,lc2,lc3⟩:=bl4 H5.out.l;have WARM:True:=trivial;rcases HW.out with⟨o1,E,v1,v2⟩|⟨o1,E,o2,v1⟩|⟨o1,E,o2,o3,v1⟩|⟨o1,E,o2,o3,o4⟩|⟨o1,E,v1⟩|⟨o1,o2,o3⟩
 iterate 5
  ·replace E:=hid E
   clear HR HF HS HLR HW;rw[o1]at lc0
   try rw[o2]at lc1
   try rw[o3]at lc2
   try rw[o4]at lc3
   generalize r.ranges.length=n2 at *;generalize r.lsRed.length=n3 at *;go_wp2_with (go_at_call 53;refine(HWI.out _ _ _ _).mono ?_;rintro e w' ⟨rfl,rfl⟩);go_ret;exact⟨zAc E.out.symm,H5.out.b⟩
 rw[o1]at lc0;have HRD:=hid o3;have CL:Hid (∀W,RBL r w 31 gl (#[.bool r.lsOn,.int .i64 r.lsAdmin,.slice A r.ranges.length c,.slice A2 r.lsRed.length c2]) W→W.cell? ⟨gl,2,none⟩=some (.slice A r.ranges.length c)∧W.cell? ⟨gl,3,none⟩=some (.slice A2 r.lsRed.length c2)):=hid (fun W h=>⟨h.l.cell 2,h.l.cell 3⟩);generalize (#[.bool r.lsOn,.int .i64 r.lsAdmin,.slice A r.ranges.length c,.slice A2 r.lsRed.length c2]:Array Value)=cs at H5 CL;clear o1 o3 HW WARM;generalize r.ranges=l at *;by_cases h8:4<l.length
 ·have E:Hid (res=7):=hid (by rw[HRD.out,show pairE 4 arF zBl 6 l=7 from if_pos h8];rfl)
  have d8:(4:Int)<(l.length:Int):=by omega
  go_wp2_with (go_at_call 53;refine(HWI.out _ _ _ _).mono ?_;rintro e w' ⟨rfl,rfl⟩);go_ret;exact⟨zAc E.out.symm,H5.out.b⟩
 have d8:¬((4:Int)<(l.length:Int)):=by omega
 have HP:Hid (pairE 4 arF zBl 6 l=zAt arF zBl 6 l l 0):=hid (if_neg h8);generalize hF0:pairE 4 arF zBl 6 l=F0 at HRD HP;clear hF0;have E0:Hid (zAt arF zBl 6 l l 0=F0):=hid HP.out.symm;clear HP;go_wp2_with (go_at_call 53;refine(HWI.out _ _ _ _).mono ?_;rintro e w' ⟨rfl,rfl⟩);clear d8 o2 lc0 lc1 lc2 lc3;go_loopg [4] l.length (fun gh ix wr=>∃k:Nat,k+gh=l.length∧ix=.int .i64 k∧Hid (RBL r w 31 gl cs wr)∧Hid (zAt arF zBl 6 l (l.drop k) k=F0));case atStart=>exact⟨0,by omega,rfl,H5,E0⟩
 case round=>
  clear H5 E0;obtain⟨k,hk,rfl,HB,HG⟩:=hrel;obtain⟨cl,cm⟩:=CL.out wr HB.out;by_cases hlt:k<l.length;case neg=>
   have hkz:¬((k:Int)<(l.length:Int)):=by omega
   have EF:Hid (redE r.maps 3 0 16777215 2 r.lsRed=res):=hid (by rw[HRD.out,if_pos (zCb hlt HG.out)]);go_wp2_with (first|(refine zAa rfl 41 _ rfl rfl HB.out.h.range Tryz.rowRt Tryz.sizeRt ?_)|(refine zAj (by rfl) (zAa rfl 41 _ rfl rfl HB.out.h.range Tryz.rowRt Tryz.sizeRt ?_)));with_reducible refine(zHd r r.lsRed (.slice A2 r.lsRed.length c2) 3 0 16777215 2 (.inl ⟨rfl,rfl⟩) wr B (Nat.le_trans HBB.out HB.out.b.size) (HR.out.below (HB.out.b.mono HBB.out)) (HLR.out.below (HB.out.b.mono HBB.out))).mono ?_
   rintro e w7 ⟨rfl,hb⟩;have H7:=hid (HB.out.keep hb);clear hb;go_wp2;go_ret;exact⟨zAc EF.out,H7.out.b⟩
  have hkz:(k:Int)<(l.length:Int):=by omega
  obtain⟨g,o,c', e',-,hg,R0⟩:=HS.out.elem (n:=3) (by decide) (fun _=>rfl) hlt;injection e' with e1 e2 e3
  subst e1 e3;have HPA:=zCk hlt HG.out
  have HR1:Hid (arF l[k]=1→res=1):=hid fun q=>by
   have f0:F0=1:=by rw[zBe HPA (by rw[q];decide),q]
   rw[HRD.out,f0];rfl
  have HT0:Hid (arF l[k]=0→F0=if(l.take k).any (zBl l[k])then 6 else zAt arF zBl 6 l (l.drop (k+1)) (k+1)):=hid (zDg HPA);clear HPA HG;have FX:=hid (HF.out _ (List.getElem_mem hlt));have XA:Hid (∀W,RBL r w 31 gl cs W→W.cell? ⟨g,o+k*3,none⟩=some (.int .i64 l[k].area)∧W.cell? ⟨g,o+k*3+1,none⟩=some (.int .u32 (l[k].pa:Int))∧W.cell? ⟨g,o+k*3+2,none⟩=some (.int .i64 l[k].pl)):=hid (fun W h=>have hb:=h.b.mono HBB.out;⟨(hb.cell (p:=⟨g,o+k*3,none⟩) hg).trans (R0 0 _ rfl),(hb.cell (p:=⟨g,o+k*3+1,none⟩) hg).trans (R0 1 _ rfl),(hb.cell (p:=⟨g,o+k*3+2,none⟩) hg).trans (R0 2 _ rfl)⟩);have HAF:Hid (arF l[k]=if zAb l[k].area 0 255&&zAv l[k].pa l[k].pl then 0 else 1):=hid rfl;have hvd:=zEi l[k].pa l[k].pl wr FX.out;unfold PV at hvd;have HVD:=hid hvd;clear R0 e2 hvd;generalize l[k]=x at *;obtain⟨xa,xp,xl⟩:=XA.out wr HB.out;have HCX:Hid (∀y,zBl x y=((y.area==x.area)&&overP y.pa y.pl x.pa x.pl)):=hid fun _=>rfl
  generalize zBl x=cx at HT0 HCX;generalize arF x=fx at HR1 HT0 HAF;cases k1:zAb x.area 0 255 with
  |false=>
   have E:Hid (res=1):=hid (HR1.out (by rw[HAF.out,k1];rfl));clear HAF HT0;go_wp2_with (go_at_call 53;refine(HWI.out _ _ _ _).mono ?_;rintro e w' ⟨rfl,rfl⟩);go_ret;exact⟨zAc E.out.symm,HB.out.b⟩
  |true=>
  have HAG:Hid (fx=if zAv x.pa x.pl then 0 else 1):=hid (by rw[HAF.out,k1];rfl);clear HAF;generalize zAv x.pa x.pl=vx at HAG HVD;go_wp2_with (go_at_call 53;refine(HWI.out _ _ _ _).mono ?_;rintro e w' ⟨rfl,rfl⟩);refine HVD.out.mono ?_;rintro e wz ⟨rfl,hb⟩;have HZ:=hid (HB.out.keep hb);clear hb xa xp xl k1 HVD HB cl cm;cases vx with
  |false=>
   have E:=hid (HR1.out HAG.out);clear HAG HT0;go_wp2;go_ret;exact⟨zAc E.out.symm,HZ.out.b⟩
  |true=>
  have HT1:=hid (HT0.out HAG.out);clear HAG HT0 HR1;go_wp2;go_loopg [5] k (fun gh ix wq=>∃j:Nat,j+gh=k∧ix=.int .i64 j∧Hid (RBL r w 31 gl cs wq)∧Hid (∀i (hi:i<l.length),i<j→cx l[i]=false));case atStart=>exact⟨0,by omega,rfl,HZ,hid fun _ _ h=>absurd h (Nat.not_lt_zero _)⟩
  case round=>
   clear HZ;obtain⟨j,hj,rfl,HQ,HN⟩:=hrel;by_cases hjl:j<k;case neg=>
    have hjz:¬((j:Int)<(k:Int)):=by omega
    obtain rfl:j=k:=by omega
    have EN:Hid (zAt arF zBl 6 l (l.drop (j+1)) (j+1)=F0):=hid (by rw[HT1.out,zFu (by omega) HN.out];rfl);go_wp2;go_roundg (l.length - (j+1));case measure=>omega
    case rel=>exact⟨j+1,by omega,by go_num,HQ,EN⟩
   have hjn:j<l.length:=by omega
   have hjz:(j:Int)<(k:Int):=by omega
   have hjm:(j:Int)<(l.length:Int):=by omega
   obtain⟨g', o', c'', e',-,hg', R0⟩:=HS.out.elem (n:=3) (by decide) (fun _=>rfl) hjn;injection e' with e1 e2 e3
   injection e1 with e1
   injection e1 with e1 e4
   subst e1 e4;have HC:=HCX.out l[j];have HH:Hid (cx l[j]=true→res=6):=hid fun h=>by rw[HRD.out,HT1.out,zFt hjn hjl h];rfl
   have HM:Hid (cx l[j]=false→∀i (hi:i<l.length),i<j+1→cx l[i]=false):=hid fun h i hi hlt=>by
    rcases Nat.lt_or_ge i j with h1|h1
    ·exact HN.out i hi h1
    ·obtain rfl:i=j:=by omega
     exact h
   clear HN;have FY:=hid (HF.out _ (List.getElem_mem hjn));have YA:Hid (∀W,RBL r w 31 gl cs W→W.cell? ⟨g,o+j*3,none⟩=some (.int .i64 l[j].area)∧W.cell? ⟨g,o+j*3+1,none⟩=some (.int .u32 (l[j].pa:Int))∧W.cell? ⟨g,o+j*3+2,none⟩=some (.int .i64 l[j].pl)):=hid (fun W h=>have hb:=h.b.mono HBB.out;⟨(hb.cell (p:=⟨g,o+j*3,none⟩) hg').trans (R0 0 _ rfl),(hb.cell (p:=⟨g,o+j*3+1,none⟩) hg').trans (R0 1 _ rfl),(hb.cell (p:=⟨g,o+j*3+2,none⟩) hg').trans (R0 2 _ rfl)⟩);clear R0 e2 e3;generalize l[j]=y at HC HH HM FY YA;generalize cx y=b0 at HC HH HM;have PO:=hid (fun W=>zIg y.pa y.pl x.pa x.pl W FY.out FX.out);unfold PV at PO
   have NA:((y.area==x.area)=false∧b0=false)∨((y.area==x.area)=true∧overP y.pa y.pl x.pa x.pl=b0):=by
    cases ha:(y.area==x.area)with
    |false=>rw[ha]at HC;exact .inl ⟨rfl,HC⟩
    |true=>rw[ha,Bool.true_and]at HC;exact .inr ⟨rfl,HC.symm⟩
   clear HC;obtain⟨cl,cm⟩:=CL.out wr HQ.out;go_wp2_with fail;refine zAo (fun W=>RBL r w 31 gl cs W) (by kernel_rfl) (by kernel_rfl) (HQ.out.keep (zAs wr)) ?_;rcases NA with⟨NA,rfl⟩|⟨NA,NB⟩
   case' inr=>cases b0
   case' inl=>have HN2:=hid (HM.out rfl)
   case' inr.false=>have HN2:=hid (HM.out rfl)
   case' inr.true=>have E:=hid (HH.out rfl)
   all_goals
    repeat
     (first
      |(refine zIs ?_ ?_;(· rfl))
      |(refine zBd (v:=?_) ?_ ?_ ?_;rotate_left;(· rfl);(· (intro W hW;obtain⟨xa,xp,xl⟩:=XA.out W hW;obtain⟨ya,yp,yl⟩:=YA.out W hW;obtain⟨cl,cm⟩:=CL.out W hW;go_simp<;>rfl)))
      |(refine zAm ?_ ?_ (fun W hW=>(PO.out W).mono fun e w' ⟨he,hb⟩=>⟨he,hW.keep hb⟩) ?_;(· rfl);(· (intro W hW;go_simp<;>rfl))))
     simp only[Act.put,List.setIfInBounds_toArray,List.set_cons_zero,List.set_cons_succ]
    refine zBo (fun wq hS=>?_);have HZ:=hid hS;clear hS YA PO HQ cl cm;go_wp2_with fail
    first
     | (go_roundg (k - (j + 1))
        case measure=>omega
        case rel=>exact⟨j+1,by omega,by go_num,HZ,HN2⟩)
     | (go_ret
        exact⟨zAc E.out.symm,HZ.out.b⟩)
theorem tr_ways(acls:List AList)(x:Tr) :
  (x.kind=1∧natE acls x=1∧x.ins=0)∨(x.kind=1∧natE acls x=1∧NZ (x.ins:Int)∧x.outs=0)∨(x.kind=1∧natE acls x=(if sameS x then 0 else 1)∧NZ (x.ins:Int)∧NZ (x.outs:Int)) ∨
  (x.kind=2∧natE acls x=1∧x.lo=0)∨(x.kind=2∧natE acls x=1∧NZ (x.lo:Int)∧x.hi<x.lo)∨(x.kind=2∧natE acls x=1∧NZ (x.lo:Int)∧x.lo≤x.hi∧8≤x.hi - x.lo)∨(x.kind=2∧natE acls x=(if sameP x then(if decide (idxF (fun y=>y.name==x.list) acls 0<0)then 5 else 0)else 1)∧NZ (x.lo:Int)∧x.lo≤x.hi∧x.hi - x.lo<8) ∨
  (x.kind=3∧natE acls x=1∧x.ins=0)∨(x.kind=3∧natE acls x=1∧NZ (x.ins:Int)∧x.outs=0)∨(x.kind=3∧natE acls x=1∧NZ (x.ins:Int)∧NZ (x.outs:Int)∧(x.proto==6)=false∧(x.proto==17)=false) ∨
  (x.kind=3∧NZ (x.ins:Int)∧NZ (x.outs:Int)∧(x.proto=6∨(x.proto==6)=false∧x.proto=17) ∧
   ((natE acls x=1∧zAb x.iport 0 65535=false)∨(natE acls x=1∧zAb x.iport 0 65535=true∧zAb x.oport 0 65535=false)∨(natE acls x=1∧zAb x.iport 0 65535=true∧zAb x.oport 0 65535=true∧(str x.list).toList.isEmpty=false)∨(natE acls x=1∧zAb x.iport 0 65535=true∧zAb x.oport 0 65535=true∧x.list=[]∧NZ (x.lo:Int))∨(natE acls x=1∧zAb x.iport 0 65535=true∧zAb x.oport 0 65535=true∧x.list=[]∧x.lo=0∧NZ (x.hi:Int))∨(natE acls x=0∧zAb x.iport 0 65535=true∧zAb x.oport 0 65535=true∧x.list=[]∧x.lo=0∧x.hi=0))) ∨
  (natE acls x=1∧(x.kind==1)=false∧(x.kind==2)=false∧(x.kind==3)=false):=by
 obtain⟨kind,ins,outs,proto,iport,oport,list,lo,hi⟩:=x;dsimp only;have N:∀n:Nat,n≠0→NZ (n:Int)∧(n==0)=false:=fun n h=>⟨nzI (by omega),by simpa using h⟩
 by_cases q1:kind=1
 ·subst q1
  by_cases h1:ins=0
  ·exact .inl ⟨rfl,by subst h1;simp[natE,zBi],h1⟩
  by_cases h2:outs=0
  ·exact .inr (.inl ⟨rfl,by subst h2;simp[natE,zBi],(N _ h1).1,h2⟩)
  refine .inr (.inr (.inl ⟨rfl,?_,(N _ h1).1,(N _ h2).1⟩));simp[natE,zBi,(N _ h1).2,(N _ h2).2]
 by_cases q2:kind=2
 ·subst q2
  by_cases h1:lo=0
  ·exact .inr (.inr (.inr (.inl ⟨rfl,by subst h1;simp[natE,zBi],h1⟩)))
  by_cases h2:lo≤hi;case neg=>exact .inr (.inr (.inr (.inr (.inl ⟨rfl,by simp[natE,zBi,h2],(N _ h1).1,by omega⟩))))
  by_cases h3:hi - lo<8;case neg=>exact .inr (.inr (.inr (.inr (.inr (.inl ⟨rfl,by simp[natE,zBi,h3],(N _ h1).1,h2,by omega⟩)))))
  refine .inr (.inr (.inr (.inr (.inr (.inr (.inl ⟨rfl,?_,(N _ h1).1,h2,h3⟩))))));simp[natE,zBi,(N _ h1).2,h2,h3]
 by_cases q3:kind=3
 ·subst q3
  by_cases h1:ins=0
  ·exact .inr (.inr (.inr (.inr (.inr (.inr (.inr (.inl ⟨rfl,by subst h1;simp[natE,zBi],h1⟩)))))))
  by_cases h2:outs=0
  ·exact .inr (.inr (.inr (.inr (.inr (.inr (.inr (.inr (.inl ⟨rfl,by subst h2;simp[natE,zBi],(N _ h1).1,h2⟩))))))))
  have P:(proto=6∨(proto==6)=false∧proto=17)∨((proto==6)=false∧(proto==17)=false):=by simp;omega
  rcases P with P|⟨P1,P2⟩
  case inr=>exact .inr (.inr (.inr (.inr (.inr (.inr (.inr (.inr (.inr (.inl ⟨rfl,by simp[natE,zBi,P1,P2],(N _ h1).1,(N _ h2).1,P1,P2⟩)))))))))
  have P3:(proto==6||proto==17)=true:=by rcases P with rfl|⟨_,rfl⟩<;>rfl
  have E3:natE acls ⟨3,ins,outs,proto,iport,oport,list,lo,hi⟩=if(zAb iport 0 65535&&zAb oport 0 65535&&list.isEmpty&&lo==0&&hi==0)then 0 else 1:=by
   rcases P with rfl|⟨_,rfl⟩<;>simp[natE,zBi,(N _ h1).2,(N _ h2).2]
  refine .inr (.inr (.inr (.inr (.inr (.inr (.inr (.inr (.inr (.inr (.inl ⟨rfl,(N _ h1).1,(N _ h2).1,P,?_⟩))))))))));rw[E3];cases zAb iport 0 65535 with
  |false=>exact .inl ⟨rfl,rfl⟩
  |true=>
  cases zAb oport 0 65535 with
  |false=>exact .inr (.inl ⟨rfl,rfl,rfl⟩)
  |true=>
  by_cases h3:list=[];case neg=>exact .inr (.inr (.inl ⟨by rw[(zCe h3).1];rfl,rfl,rfl,by rw[zJa];exact(zCe h3).1⟩))
  by_cases h4:lo=0;case neg=>exact .inr (.inr (.inr (.inl ⟨by rw[(N _ h4).2,Bool.and_false];rfl,rfl,rfl,h3,(N _ h4).1⟩)))
  by_cases h5:hi=0;case neg=>exact .inr (.inr (.inr (.inr (.inl ⟨by rw[(N _ h5).2,Bool.and_false];rfl,rfl,rfl,h3,h4,(N _ h5).1⟩))))
  exact .inr (.inr (.inr (.inr (.inr ⟨by rw[h3,h4,h5];rfl,rfl,rfl,h3,h4,h5⟩))))
 exact .inr (.inr (.inr (.inr (.inr (.inr (.inr (.inr (.inr (.inr (.inr ⟨by simp[natE,zBi,q1,q2,q3],by simpa using q1,by simpa using q2,by simpa using q3⟩))))))))))
theorem zJf(r:Rt)(w:World)(B:Nat)(hB:B≤w.heap.size)(h:r.at w B)(hf:∀x∈r.nat,x.fit):Calls Tryz.prog 58 #[.agg r.C] w fun e w' => e=.returned (.int .i64 (natsE r.acls r.nat))∧Below w.heap.size w w' := by
 have HBB:=hid hB;have HR:=hid h;have HB:=hid (RB.start r w);have HF:=hid hf;have HWI:=hid zCd;have hl:=h.hnat;have hlen:=hl.len;simp only[maxLen]at hlen;generalize r.nat=l at *;obtain⟨A,c,hv,-⟩:=id hl;have HL:Hid (∀w', RB r w w' → w'.cell? ⟨w.heap.size,6,none⟩=some (.slice A l.length c)):=hid (fun w' h=>by rw[←hv];exact h.h.cell 6);rw[hv]at hl;have HS:=hid hl;have cl:=HL.out _ HB.out;clear h hf hl hv;obtain⟨res,hres⟩:∃res,natsE r.acls l=res:=⟨_,rfl⟩;rw[hres];by_cases h8:8<l.length
 ·have E:Hid (res=7):=hid (by rw[←hres];exact if_pos h8)
  have d8:(8:Int)<(l.length:Int):=by omega
  clear hres;go_enter Tryz.func58,Tryz.ntmps58;go_wp2;go_ret;exact⟨zAc E.out.symm,HB.out.b⟩
 have d8:¬((8:Int)<(l.length:Int)):=by omega
 have E:Hid (zAl (natE r.acls) l=res):=hid (by rw[←hres];exact(if_neg h8).symm);clear hres;go_enter Tryz.func58,Tryz.ntmps58;go_wp2_with fail;clear cl d8;go_loopg [3] l.length (fun gh ix wr=>∃k:Nat,k+gh=l.length∧ix=.int .i64 k∧Hid (RB r w wr)∧Hid (zAl (natE r.acls) (l.drop k)=res));case atStart=>exact⟨0,by omega,rfl,HB,E⟩
 case round=>
  clear HB E;obtain⟨k,hk,rfl,HB,HG⟩:=hrel;have cl:=HL.out wr HB.out;by_cases hlt:k<l.length;case neg=>
   have hkz:¬((k:Int)<(l.length:Int)):=by omega
   have E:=hid (zDm hlt HG.out);go_wp2;go_ret;exact⟨zAc E.out.symm,HB.out.b⟩
  have hkz:(k:Int)<(l.length:Int):=by omega
  obtain⟨g,o,c', e',-,hg,R0⟩:=HS.out.elem (n:=9) (by decide) (fun _=>rfl) hlt;injection e' with e1 e2 e3
  subst e1 e3;have r1:=hid (zAf R0 (HB.out.b.mono HBB.out) hg);have FX:=hid (HF.out _ (List.getElem_mem hlt));have HAT:=hid (zEd hlt HG.out);clear HG;generalize l[k]=x at r1 FX HAT;clear R0 e2;go_upto_region 7 with(first|(refine zAa rfl 106 _ rfl rfl r1.out Tryz.rowTr Tryz.sizeTr ?_)|(refine zAd rfl 106 _ _ rfl rfl rfl (HasC.new wr _ _) rfl Tryz.sizeTr (Tr.one x) ?_;intro w5 hz1 hz2))
  have H5:Hid (RBL r w 106 wr.heap.size x.C w5):=hid (let q:=HB.out.keep (zAi hz2);⟨q.h,q.b,hz1⟩);clear hz1 hz2 r1 HB cl;generalize wr.heap.size=gx at H5⊢;have FH:=FX.out.2.2.2;have HW:=hid (tr_ways r.acls x);have HE:Hid (∀n:Int,n≠0→natE r.acls x=n→res=n):=hid fun n h q=>by rw[HAT.out,q,if_neg h]
  have HN:Hid (natE r.acls x=0→zAl (natE r.acls) (l.drop (k+1))=res):=hid fun q=>by rw[HAT.out,if_pos q]
  clear HAT;generalize hfx:natE r.acls x=fx at HE HN HW;clear hfx;obtain⟨kind,ins,outs,proto,iport,oport,list,lo,hi⟩:=x;dsimp only at HW FH;have g:=Tryz.trGuard;have tn:=zAe ([]:List UInt8);have QS:=hid (fun W=>trS_eql ins outs proto iport oport list lo hi W);have QP:=hid (fun W=>trP_eql ins outs proto iport oport list lo hi W);obtain⟨x0,x1,x2,x3,x4,x5⟩:=bl6 H5.out.l;have x6:w5.cell? ⟨gx,6,none⟩=some (.string (str list)):=H5.out.l.cell 6;have x7:=cl7 H5.out.l;have x8:=cl8 H5.out.l;have HX:Hid (HasC 106 gx #[.int .i64 kind,.int .u32 (ins:Int),.int .u32 (outs:Int),.int .i64 proto,.int .i64 iport,.int .i64 oport,.string (str list),.int .u32 (lo:Int),.int .u32 (hi:Int)] w5):=hid H5.out.l;have HM:Hid (RB r w w5):=hid ⟨H5.out.h,H5.out.b⟩;have ADR:=hid (zEy r list w5 B (HR.out.below (H5.out.b.mono HBB.out)) (Nat.le_trans HBB.out H5.out.b.size));clear H5 FX;rcases HW.out with⟨rfl,E,h1⟩|⟨rfl,E,⟨v1,v2⟩,h1⟩|⟨rfl,E,⟨v1,v2⟩,⟨u1,u2⟩⟩|⟨rfl,E,h1⟩|⟨rfl,E,⟨v1,v2⟩,h2⟩|⟨rfl,E,⟨v1,v2⟩,h2,h3⟩|⟨rfl,E,⟨v1,v2⟩,h2,h3⟩|⟨rfl,E,h1⟩|⟨rfl,E,⟨v1,v2⟩,h1⟩|⟨rfl,E,⟨v1,v2⟩,⟨u1,u2⟩,p1,p2⟩|⟨rfl,⟨v1,v2⟩,⟨u1,u2⟩,p1,h2⟩|⟨E,q1,q2,q3⟩
  iterate 2
   ·subst h1
    replace E:=hid (HE.out 1 (by decide) E);clear HW HE HN QS QP HX ADR;go_wp2;go_ret;exact⟨zAc E.out.symm,HM.out.b⟩
  ·have qe:∀W,(binOp .eql 106 (.agg #[.int .i64 1,.int .u32 (ins:Int),.int .u32 (outs:Int),.int .i64 proto,.int .i64 iport,.int .i64 oport,.string (str list),.int .u32 (lo:Int),.int .u32 (hi:Int)]) (.agg #[.int .i64 1,.int .u32 (ins:Int),.int .u32 (outs:Int),.int .i64 0,.int .i64 0,.int .i64 0,.string ⟨#[]⟩,.int .u32 0,.int .u32 0])).run Tryz.prog W=.ok (.bool (sameS ⟨1,ins,outs,proto,iport,oport,list,lo,hi⟩)) W:=QS.out
   generalize sameS ⟨1,ins,outs,proto,iport,oport,list,lo,hi⟩=b at qe E;cases b with
   |false=>
    replace E:=hid (HE.out 1 (by decide) E);clear HW HE HN QS QP ADR;go_wp2_with (refine zAj (by rfl) (zAa rfl 106 _ rfl rfl HX.out.range Tryz.rowTr Tryz.sizeTr ?_));go_ret;exact⟨zAc E.out.symm,HM.out.b⟩
   |true=>
    replace E:=hid (HN.out E);clear HW HE HN QS QP ADR;go_wp2_with (refine zAj (by rfl) (zAa rfl 106 _ rfl rfl HX.out.range Tryz.rowTr Tryz.sizeTr ?_));go_roundg (l.length - (k+1));case measure=>omega
    case rel=>exact⟨k+1,by omega,by go_num,HM,E⟩
  ·subst h1
   replace E:=hid (HE.out 1 (by decide) E);clear HW HE HN QS QP HX ADR;go_wp2;go_ret;exact⟨zAc E.out.symm,HM.out.b⟩
  ·have hle:¬((lo:Int)≤(hi:Int)):=by omega
   replace E:=hid (HE.out 1 (by decide) E);clear HW HE HN QS QP HX ADR h2;go_wp2;go_ret;exact⟨zAc E.out.symm,HM.out.b⟩
  ·have hle:((lo:Int)≤(hi:Int)):=by omega
   have hs:=zId hi lo h2 FH;have h8:¬(((hi - lo:Nat):Int)<8):=by omega
   generalize (((hi - lo:Nat):Int))=dd at hs h8;replace E:=hid (HE.out 1 (by decide) E);clear HW HE HN QS QP HX ADR h2 h3;go_wp2;go_ret;exact⟨zAc E.out.symm,HM.out.b⟩
  ·have hle:((lo:Int)≤(hi:Int)):=by omega
   have hs:=zId hi lo h2 FH;have h8:(((hi - lo:Nat):Int)<8):=by omega
   generalize (((hi - lo:Nat):Int))=dd at hs h8;have qe:=QP.out;generalize sameP ⟨2,ins,outs,proto,iport,oport,list,lo,hi⟩=b at qe E;clear h2 h3;cases b with
   |false=>
    replace E:=hid (HE.out 1 (by decide) E);clear HW HE HN QS QP ADR;go_wp2_with (refine zAj (by rfl) (zAa rfl 106 _ rfl rfl HX.out.range Tryz.rowTr Tryz.sizeTr ?_));go_ret;exact⟨zAc E.out.symm,HM.out.b⟩
   |true=>
    replace E:=hid E;clear QS QP HW;go_wp2_with (first|(refine zAj (by rfl) (zAa rfl 106 _ rfl rfl HX.out.range Tryz.rowTr Tryz.sizeTr ?_))|(refine zAa rfl 41 _ rfl rfl HM.out.h.range Tryz.rowRt Tryz.sizeRt ?_)|(refine zAj (by rfl) (zAa rfl 41 _ rfl rfl HM.out.h.range Tryz.rowRt Tryz.sizeRt ?_)));with_reducible refine ADR.out.mono ?_
    rintro e w7 ⟨rfl,hb⟩;have H7:=hid (HM.out.keep hb);clear hb x0 x1 x2 x3 x4 x5 x6 x7 x8 qe ADR HX HM;cases dd:decide (idxF (fun y:AList=>y.name==list) r.acls 0<0)with
    |true=>
     replace E:=hid (HE.out 5 (by decide) (by rw[E.out,dd];rfl));go_wp2;go_ret;exact⟨zAc E.out.symm,H7.out.b⟩
    |false=>
     replace E:=hid (HN.out (by rw[E.out,dd];rfl));go_wp2;go_roundg (l.length - (k+1));case measure=>omega
     case rel=>exact⟨k+1,by omega,by go_num,H7,E⟩
  iterate 2
   ·subst h1
    replace E:=hid (HE.out 1 (by decide) E);clear HW HE HN QS QP HX ADR;go_wp2;go_ret;exact⟨zAc E.out.symm,HM.out.b⟩
  ·replace E:=hid (HE.out 1 (by decide) E)
   clear HW HE HN QS QP HX ADR;go_wp2;go_ret;exact⟨zAc E.out.symm,HM.out.b⟩
  ·clear HW QS QP HX ADR
   rcases h2 with⟨E,h2⟩|⟨E,h2,h3⟩|⟨E,h2,h3,h4⟩|⟨E,h2,h3,rfl,h4,h5⟩|⟨E,h2,h3,rfl,rfl,h4,h5⟩|⟨E,h2,h3,rfl,rfl,rfl⟩
   all_goals
    rcases p1 with rfl|⟨p0,rfl⟩
    all_goals
     first
      | (have E2 := hid (HE.out 1 (by decide) E)
         clear E HE HN;go_wp2_with (go_at_call 53;refine(HWI.out _ _ _ _).mono ?_;rintro e w' ⟨rfl,rfl⟩);go_ret
         exact⟨zAc E2.out.symm,HM.out.b⟩)
      | (have E2 := hid (HN.out E)
         clear E HE HN;go_wp2_with (go_at_call 53;refine(HWI.out _ _ _ _).mono ?_;rintro e w' ⟨rfl,rfl⟩);go_roundg (l.length - (k+1));case measure=>omega
         case rel=>exact⟨k+1,by omega,by go_num,HM,E2⟩)
  ·replace E:=hid (HE.out 1 (by decide) E)
   clear HW HE HN QS QP HX ADR;go_wp2;go_ret;exact⟨zAc E.out.symm,HM.out.b⟩
theorem zIy{α:Type}{p:α→Bool}{l:List α}{j:Nat}(hn:∀i (hi:i<l.length),i<j→p l[i]=false){hj:j<l.length}(h:p l[j]=false):∀i (hi:i<l.length),i<j+1→p l[i]=false:=fun i hi hlt=>by
 rcases Nat.lt_or_ge i j with h1|h1
 ·exact hn i hi h1
 ·obtain rfl:i=j:=by omega
  exact h
theorem decide_swap{a b:Nat}{c d:Int}:decide (a=b∧c=d)=decide (b=a∧d=c):=decide_eq_decide.2 ⟨fun h=>⟨h.1.symm,h.2.symm⟩,fun h=>⟨h.1.symm,h.2.symm⟩⟩
theorem rorig_all(r:Rt)(w:World)(B:Nat)(hB:B≤w.heap.size)(h:r.at w B)(hf1:∀x∈r.net,x.fit)(hf2:∀x∈r.ag,x.fit)(hf3:∀x∈r.cd,x.fit):Calls Tryz.prog 112 #[.agg r.pvC] w fun e w' => e=.returned (.int .i64 (origE r))∧Below w.heap.size w w' := by
 have HBB:=hid hB;have HB:=hid (RQ.start 39 r.pvC w);have HF1:=hid hf1;have hl1:=h.hnet;have hlen1:=hl1.len;simp only[maxLen]at hlen1;obtain⟨A1,c1,hv1,-⟩:=id hl1;have CL1:Hid (∀W,RQ 39 r.pvC w W→W.cell? ⟨w.heap.size,4,none⟩=some (.slice A1 r.net.length c1)):=hid (fun W h=>by rw[←hv1];exact h.h.cell 4);rw[hv1]at hl1;have HS1:=hid hl1;have HF2:=hid hf2;have hl2:=h.hag;have hlen2:=hl2.len;simp only[maxLen]at hlen2;obtain⟨A2,c2,hv2,-⟩:=id hl2;have CL2:Hid (∀W,RQ 39 r.pvC w W→W.cell? ⟨w.heap.size,5,none⟩=some (.slice A2 r.ag.length c2)):=hid (fun W h=>by rw[←hv2];exact h.h.cell 5);rw[hv2]at hl2;have HS2:=hid hl2;have HF3:=hid hf3;have hl3:=h.hcd;have hlen3:=hl3.len;simp only[maxLen]at hlen3;obtain⟨A3,c3,hv3,-⟩:=id hl3;have CL3:Hid (∀W,RQ 39 r.pvC w W→W.cell? ⟨w.heap.size,6,none⟩=some (.slice A3 r.cd.length c3)):=hid (fun W h=>by rw[←hv3];exact h.h.cell 6);rw[hv3]at hl3;have HS3:=hid hl3;obtain⟨res,hres⟩:∃res,origE r=res:=⟨_,rfl⟩;rw[hres];unfold origE netsE agsE cdsE at hres;clear h hf1 hf2 hf3 hl1 hl2 hl3 hv1 hv2 hv3;generalize r.net=l1 at *;generalize r.ag=l2 at *;generalize r.cd=l3 at *;generalize hF1:pairE 8 netF zDu 4 l1=F1 at hres;replace hF1:=hid hF1;generalize hF2:pairE 8 agF zEk 4 l2=F2 at hres;replace hF2:=hid hF2;generalize hF3:pairE 8 cdF zEl 4 l3=F3 at hres;replace hF3:=hid hF3;have R1:=hid hres.symm;clear hres;have cn:=CL1.out _ HB.out;by_cases h8:8<l1.length
 ·have E:Hid (res=7):=hid (by rw[R1.out,show F1=7 from hF1.out.symm.trans (if_pos h8)];rfl)
  have d8:(8:Int)<(l1.length:Int):=by omega
  go_enter Tryz.func112,Tryz.ntmps112;go_wp2;go_ret;exact⟨zAc E.out.symm,HB.out.b⟩
 have d8:¬((8:Int)<(l1.length:Int)):=by omega
 have E:Hid (zAt netF zDu 4 l1 l1 0=F1):=hid ((if_neg h8).symm.trans hF1.out);clear hF1;go_enter Tryz.func112,Tryz.ntmps112;go_wp2_with fail;clear cn d8;go_loopg [3] l1.length (fun gh ix wr=>∃k:Nat,k+gh=l1.length∧ix=.int .i64 k∧Hid (RQ 39 r.pvC w wr)∧Hid (zAt netF zDu 4 l1 (l1.drop k) k=F1));case atStart=>exact⟨0,by omega,rfl,HB,E⟩
 case round=>
  clear HB E;obtain⟨k,hk,rfl,HB,HG⟩:=hrel;have cl:=CL1.out wr HB.out;by_cases hlt:k<l1.length;case neg=>
   have hkz:¬((k:Int)<(l1.length:Int)):=by omega
   have R2:Hid (res=if F2=0 then F3 else F2):=hid (by rw[R1.out,if_pos (zCb hlt HG.out)]);have cn:=CL2.out wr HB.out;by_cases h8:8<l2.length
   ·have E:Hid (res=7):=hid (by rw[R2.out,show F2=7 from hF2.out.symm.trans (if_pos h8)];rfl)
    have d8:(8:Int)<(l2.length:Int):=by omega
    go_wp2;go_ret;exact⟨zAc E.out.symm,HB.out.b⟩
   have d8:¬((8:Int)<(l2.length:Int)):=by omega
   have E:Hid (zAt agF zEk 4 l2 l2 0=F2):=hid ((if_neg h8).symm.trans hF2.out);go_wp2_with fail;clear cn cl d8 hF2 h8 HG HS1 HF1 CL1 R1;go_loopg [5] l2.length (fun gh ix wr=>∃k:Nat,k+gh=l2.length∧ix=.int .i64 k∧Hid (RQ 39 r.pvC w wr)∧Hid (zAt agF zEk 4 l2 (l2.drop k) k=F2));case atStart=>exact⟨0,by omega,rfl,HB,E⟩
   case round=>
    clear HB E;obtain⟨k,hk,rfl,HB,HG⟩:=hrel;have cl:=CL2.out wr HB.out;by_cases hlt:k<l2.length;case neg=>
     have hkz:¬((k:Int)<(l2.length:Int)):=by omega
     have R3:Hid (res=F3):=hid (by rw[R2.out,if_pos (zCb hlt HG.out)]);have cn:=CL3.out wr HB.out;by_cases h8:8<l3.length
     ·have E:Hid (res=7):=hid (by rw[R3.out,show F3=7 from hF3.out.symm.trans (if_pos h8)])
      have d8:(8:Int)<(l3.length:Int):=by omega
      go_wp2;go_ret;exact⟨zAc E.out.symm,HB.out.b⟩
     have d8:¬((8:Int)<(l3.length:Int)):=by omega
     have E:Hid (zAt cdF zEl 4 l3 l3 0=F3):=hid ((if_neg h8).symm.trans hF3.out);go_wp2_with fail;clear cn cl d8 hF3 h8 HG HS2 HF2 CL2 R2;go_loopg [7] l3.length (fun gh ix wr=>∃k:Nat,k+gh=l3.length∧ix=.int .i64 k∧Hid (RQ 39 r.pvC w wr)∧Hid (zAt cdF zEl 4 l3 (l3.drop k) k=F3));case atStart=>exact⟨0,by omega,rfl,HB,E⟩
     case round=>
      clear HB E;obtain⟨k,hk,rfl,HB,HG⟩:=hrel;have cl:=CL3.out wr HB.out;by_cases hlt:k<l3.length;case neg=>
       have hkz:¬((k:Int)<(l3.length:Int)):=by omega
       have E:Hid (res=0):=hid (by rw[R3.out,zCb hlt HG.out]);go_wp2;go_ret;exact⟨zAc E.out.symm,HB.out.b⟩
      have hkz:(k:Int)<(l3.length:Int):=by omega
      obtain⟨g,o,c', e',-,hg,R0⟩:=HS3.out.elem (n:=5) (by decide) (fun _=>rfl) hlt;injection e' with e1 e2 e3
      subst e1 e3;have HPA:=zCk hlt HG.out;have HF0:Hid (cdF l3[k]≠0→F3=cdF l3[k]):=hid (zBe HPA);have HT0:Hid (cdF l3[k]=0→F3=if(l3.take k).any (zEl l3[k])then 4 else zAt cdF zEl 4 l3 (l3.drop (k+1)) (k+1)):=hid (zDg HPA);clear HPA HG;have FX:=hid (HF3.out _ (List.getElem_mem hlt));have r1:=hid (zAf R0 (HB.out.b.mono HBB.out) hg);have HAF:Hid (cdF l3[k]=if zAv l3[k].pa l3[k].pl&&zAv l3[k].ia l3[k].il then(if decide (l3[k].pa=l3[k].ia∧l3[k].pl=l3[k].il)then 6 else 0)else 1):=hid rfl;clear R0 e2;generalize l3[k]=x at *;have HCX:Hid (∀y,zEl x y=decide (y.pa=x.pa∧y.pl=x.pl)):=hid fun _=>rfl
      generalize zEl x=cx at HT0 HCX;generalize cdF x=fx at HF0 HT0 HAF;have HE:Hid (∀n:Int,n≠0→fx=n→res=n):=hid fun n h q=>by rw[R3.out,HF0.out (by rw[q];exact h),q]
      go_upto_region 31 with(first|(refine zAa rfl 119 _ rfl rfl r1.out Tryz.rowCd Tryz.sizeCd ?_)|(refine zAd rfl 119 _ _ rfl rfl rfl (HasC.new wr _ _) rfl Tryz.sizeCd (Cd.one x) ?_;intro w5 hz1 hz2))
      have H5:Hid (RQ 39 r.pvC w w5∧HasC 119 wr.heap.size x.C w5):=hid ⟨HB.out.keep (zAi hz2),hz1⟩;clear hz1 hz2 r1 HB cl HF0;generalize wr.heap.size=gx at H5⊢;have KS:Hid (∀{W W' : World},(RQ 39 r.pvC w W∧HasC 119 gx x.C W)→Below W.heap.size W W' → (RQ 39 r.pvC w W' ∧ HasC 119 gx x.C W')):=hid (fun h hb=>⟨h.1.keep hb,h.2.keep hb⟩);obtain⟨pa,pl,ia,il,ab⟩:=x;dsimp only at HAF HCX;have CE:Hid (∀W,(RQ 39 r.pvC w W∧HasC 119 gx (Cd.C ⟨pa,pl,ia,il,ab⟩) W)→W.cell? ⟨gx,0,none⟩=some (.int .u32 (pa:Int))∧W.cell? ⟨gx,1,none⟩=some (.int .i64 pl)∧W.cell? ⟨gx,2,none⟩=some (.int .u32 (ia:Int))∧W.cell? ⟨gx,3,none⟩=some (.int .i64 il)):=hid (fun W h=>⟨h.2.cell 0,h.2.cell 1,h.2.cell 2,h.2.cell 3⟩);generalize Cd.C ⟨pa,pl,ia,il,ab⟩=cs at H5 KS CE;have V1:=hid (fun W=>zEi pa pl W FX.out.1);have V2:=hid (fun W=>zEi ia il W FX.out.2);unfold PV at V1 V2;generalize zAv pa pl=v1 at V1 HAF;generalize zAv ia il=v2 at V2 HAF;obtain⟨x0,x1,x2,x3⟩:=CE.out w5 H5.out;go_wp2_with fail;refine(V1.out w5).mono ?_;rintro e w6 ⟨rfl,hb⟩;have H6:=hid (KS.out H5.out hb);clear hb x0 x1 x2 x3 H5 V1;cases v1 with
      |false=>
       have E:=hid (HE.out 1 (by decide) HAF.out);go_wp2;go_ret;exact⟨zAc E.out.symm,H6.out.1.b⟩
      |true=>
      obtain⟨x0,x1,x2,x3⟩:=CE.out w6 H6.out;go_wp2_with fail;refine(V2.out w6).mono ?_;rintro e wz ⟨rfl,hb⟩;have HZ:=hid (KS.out H6.out hb);clear hb x0 x1 x2 x3 H6 V2;cases v2 with
      |false=>
       have E:=hid (HE.out 1 (by decide) HAF.out);go_wp2;go_ret;exact⟨zAc E.out.symm,HZ.out.1.b⟩
      |true=>
      obtain⟨x0,x1,x2,x3⟩:=CE.out wz HZ.out;have qi:∀w,(binOp .eql 90 (.agg #[.int .u32 (pa:Int),.int .i64 pl]) (.agg #[.int .u32 (ia:Int),.int .i64 il])).run Tryz.prog w=.ok (.bool (decide (pa=ia∧pl=il))) w:=fun w=>zFo pa ia pl il w
      have gp:=Tryz.pfxGuard;generalize decide (pa=ia∧pl=il)=v3 at qi HAF;cases v3 with
      |true=>
       have E:=hid (HE.out 6 (by decide) HAF.out);clear HAF HT0;go_wp2;go_ret;exact⟨zAc E.out.symm,HZ.out.1.b⟩
      |false=>
      have HT1:=hid (HT0.out HAF.out);clear HAF HT0 HE;go_wp2_with fail;clear x0 x1 x2 x3 qi gp;go_loopg [9] k (fun gh ix wq=>∃j:Nat,j+gh=k∧ix=.int .i64 j∧Hid (RQ 39 r.pvC w wq∧HasC 119 gx cs wq)∧Hid (∀i (hi:i<l3.length),i<j→cx l3[i]=false));case atStart=>exact⟨0,by omega,rfl,HZ,hid fun _ _ h=>absurd h (Nat.not_lt_zero _)⟩
      case round=>
       clear HZ;obtain⟨j,hj,rfl,HQ,HN⟩:=hrel;have cl:=CL3.out wr HQ.out.1;obtain⟨x0,x1,-,-⟩:=CE.out wr HQ.out;by_cases hjl:j<k;case neg=>
        have hjz:¬((j:Int)<(k:Int)):=by omega
        obtain rfl:j=k:=by omega
        have EN:Hid (zAt cdF zEl 4 l3 (l3.drop (j+1)) (j+1)=F3):=hid (by rw[HT1.out,zFu (by omega) HN.out];rfl);go_wp2;go_roundg (l3.length - (j+1));case measure=>omega
        case rel=>exact⟨j+1,by omega,by go_num,hid HQ.out.1,EN⟩
       have hjn:j<l3.length:=by omega
       have hjz:(j:Int)<(k:Int):=by omega
       have hjm:(j:Int)<(l3.length:Int):=by omega
       obtain⟨g', o', c'', e',-,hg', R0⟩:=HS3.out.elem (n:=5) (by decide) (fun _=>rfl) hjn;injection e' with e1 e2 e3
       injection e1 with e1
       injection e1 with e1 e4
       subst e1 e4;have y0:wr.cell? ⟨g,o+j*5,none⟩=some (.int .u32 (l3[j].pa:Int)):=zAf R0 (HQ.out.1.b.mono HBB.out) hg' 0 _ rfl;have y1:wr.cell? ⟨g,o+j*5+1,none⟩=some (.int .i64 l3[j].pl):=zAf R0 (HQ.out.1.b.mono HBB.out) hg' 1 _ rfl;have HH:Hid (cx l3[j]=true→res=4):=hid fun h=>by rw[R3.out,HT1.out,zFt hjn hjl h];rfl
       have HM:Hid (cx l3[j]=false→∀i (hi:i<l3.length),i<j+1→cx l3[i]=false):=hid (zIy HN.out);have HC:=HCX.out l3[j];have HQ2:=hid (KS.out HQ.out (zAs wr));clear HN R0 e2 e3;generalize l3[j]=y at HC HH HM y0 y1;generalize cx y=bp at HC HH HM;have qe:∀w,(binOp .eql 90 (.agg #[.int .u32 (y.pa:Int),.int .i64 y.pl]) (.agg #[.int .u32 (pa:Int),.int .i64 pl])).run Tryz.prog w=.ok (.bool bp) w:=fun w=>by rw[zFo y.pa pa y.pl pl w,HC]
       have gp:=Tryz.pfxGuard;clear HC;cases bp with
       |true=>
        have E:=hid (HH.out rfl);go_wp2_with fail;go_still (by kernel_rfl);go_wp2;go_ret;exact⟨zAc E.out.symm,HQ2.out.1.b⟩
       |false=>
       have HN2:=hid (HM.out rfl);go_wp2_with fail;go_still (by kernel_rfl);go_wp2;go_roundg (k - (j+1));case measure=>omega
       case rel=>exact⟨j+1,by omega,by go_num,HQ2,HN2⟩
    have hkz:(k:Int)<(l2.length:Int):=by omega
    obtain⟨g,o,c', e',-,hg,R0⟩:=HS2.out.elem (n:=3) (by decide) (fun _=>rfl) hlt;injection e' with e1 e2 e3
    subst e1 e3;have HPA:=zCk hlt HG.out;have HF0:Hid (agF l2[k]≠0→F2=agF l2[k]):=hid (zBe HPA);have HT0:Hid (agF l2[k]=0→F2=if(l2.take k).any (zEk l2[k])then 4 else zAt agF zEk 4 l2 (l2.drop (k+1)) (k+1)):=hid (zDg HPA);clear HPA HG;have FX:=hid (HF2.out _ (List.getElem_mem hlt));have XA:Hid (∀W,RQ 39 r.pvC w W→W.cell? ⟨g,o+k*3,none⟩=some (.int .u32 (l2[k].pa:Int))∧W.cell? ⟨g,o+k*3+1,none⟩=some (.int .i64 l2[k].pl)):=hid (fun W h=>have hb:=h.b.mono HBB.out;⟨(hb.cell (p:=⟨g,o+k*3,none⟩) hg).trans (R0 0 _ rfl),(hb.cell (p:=⟨g,o+k*3+1,none⟩) hg).trans (R0 1 _ rfl)⟩);have hvd:=zEi l2[k].pa l2[k].pl wr FX.out;unfold PV at hvd;have HVD:=hid hvd;have HAF:Hid (agF l2[k]=if zAv l2[k].pa l2[k].pl then 0 else 1):=hid rfl;clear R0 e2 hvd;generalize l2[k]=x at *;obtain⟨x0,x1⟩:=XA.out wr HB.out;have HCX:Hid (∀y,zEk x y=decide (y.pa=x.pa∧y.pl=x.pl)):=hid fun _=>rfl
    generalize zEk x=cx at HT0 HCX;generalize agF x=fx at HF0 HT0 HAF;generalize zAv x.pa x.pl=vx at HAF HVD;go_wp2_with fail;refine HVD.out.mono ?_;rintro e wz ⟨rfl,hb⟩;have HZ:=hid (HB.out.keep hb);clear hb x0 x1 HVD HB cl FX;cases vx with
    |false=>
     have E:Hid (res=1):=hid (by have q:=HAF.out;rw[if_neg (by decide)]at q;rw[R2.out,HF0.out (by rw[q];decide),q];rfl);clear HAF HT0 HF0;go_wp2;go_ret;exact⟨zAc E.out.symm,HZ.out.b⟩
    |true=>
    have HT1:=hid (HT0.out HAF.out);clear HAF HT0 HF0;go_wp2;go_loopg [6] k (fun gh ix wq=>∃j:Nat,j+gh=k∧ix=.int .i64 j∧Hid (RQ 39 r.pvC w wq)∧Hid (∀i (hi:i<l2.length),i<j→cx l2[i]=false));case atStart=>exact⟨0,by omega,rfl,HZ,hid fun _ _ h=>absurd h (Nat.not_lt_zero _)⟩
    case round=>
     clear HZ;obtain⟨j,hj,rfl,HQ,HN⟩:=hrel;have cl:=CL2.out wr HQ.out;obtain⟨x0,x1⟩:=XA.out wr HQ.out;by_cases hjl:j<k;case neg=>
      have hjz:¬((j:Int)<(k:Int)):=by omega
      obtain rfl:j=k:=by omega
      have EN:Hid (zAt agF zEk 4 l2 (l2.drop (j+1)) (j+1)=F2):=hid (by rw[HT1.out,zFu (by omega) HN.out];rfl);go_wp2;go_roundg (l2.length - (j+1));case measure=>omega
      case rel=>exact⟨j+1,by omega,by go_num,HQ,EN⟩
     have hjn:j<l2.length:=by omega
     have hjz:(j:Int)<(k:Int):=by omega
     have hjm:(j:Int)<(l2.length:Int):=by omega
     obtain⟨g', o', c'', e',-,hg', R0⟩:=HS2.out.elem (n:=3) (by decide) (fun _=>rfl) hjn;injection e' with e1 e2 e3
     injection e1 with e1
     injection e1 with e1 e4
     subst e1 e4;have y0:wr.cell? ⟨g,o+j*3,none⟩=some (.int .u32 (l2[j].pa:Int)):=zAf R0 (HQ.out.b.mono HBB.out) hg' 0 _ rfl;have y1:wr.cell? ⟨g,o+j*3+1,none⟩=some (.int .i64 l2[j].pl):=zAf R0 (HQ.out.b.mono HBB.out) hg' 1 _ rfl;have HH:Hid (cx l2[j]=true→res=4):=hid fun h=>by rw[R2.out,HT1.out,zFt hjn hjl h];rfl
     have HM:Hid (cx l2[j]=false→∀i (hi:i<l2.length),i<j+1→cx l2[i]=false):=hid (zIy HN.out);have HC:=HCX.out l2[j];have HQ2:=hid (HQ.out.keep (zAs wr));clear HN R0 e2 e3;generalize l2[j]=y at HC HH HM y0 y1;generalize cx y=bp at HC HH HM;have qe:∀w,(binOp .eql 90 (.agg #[.int .u32 (y.pa:Int),.int .i64 y.pl]) (.agg #[.int .u32 (x.pa:Int),.int .i64 x.pl])).run Tryz.prog w=.ok (.bool bp) w:=fun w=>by rw[zFo y.pa x.pa y.pl x.pl w,HC]
     have gp:=Tryz.pfxGuard;clear HC;cases bp with
     |true=>
      have E:=hid (HH.out rfl);go_wp2_with fail;go_still (by kernel_rfl);go_wp2;go_ret;exact⟨zAc E.out.symm,HQ2.out.b⟩
     |false=>
     have HN2:=hid (HM.out rfl);go_wp2_with fail;go_still (by kernel_rfl);go_wp2;go_roundg (k - (j+1));case measure=>omega
     case rel=>exact⟨j+1,by omega,by go_num,HQ2,HN2⟩
  have hkz:(k:Int)<(l1.length:Int):=by omega
  obtain⟨g,o,c', e',-,hg,R0⟩:=HS1.out.elem (n:=2) (by decide) (fun _=>rfl) hlt;injection e' with e1 e2 e3
  subst e1 e3;have HPA:=zCk hlt HG.out;have HF0:Hid (netF l1[k]≠0→F1=netF l1[k]):=hid (zBe HPA);have HT0:Hid (netF l1[k]=0→F1=if(l1.take k).any (zDu l1[k])then 4 else zAt netF zDu 4 l1 (l1.drop (k+1)) (k+1)):=hid (zDg HPA);clear HPA HG;have FX:=hid (HF1.out _ (List.getElem_mem hlt));have XA:Hid (∀W,RQ 39 r.pvC w W→W.cell? ⟨g,o+k*2,none⟩=some (.int .u32 (l1[k].pa:Int))∧W.cell? ⟨g,o+k*2+1,none⟩=some (.int .i64 l1[k].pl)):=hid (fun W h=>have hb:=h.b.mono HBB.out;⟨(hb.cell (p:=⟨g,o+k*2,none⟩) hg).trans (R0 0 _ rfl),(hb.cell (p:=⟨g,o+k*2+1,none⟩) hg).trans (R0 1 _ rfl)⟩);have hvd:=zEi l1[k].pa l1[k].pl wr FX.out;unfold PV at hvd;have HVD:=hid hvd;have HAF:Hid (netF l1[k]=if zAv l1[k].pa l1[k].pl then 0 else 1):=hid rfl;clear R0 e2 hvd;generalize l1[k]=x at *;obtain⟨x0,x1⟩:=XA.out wr HB.out;have HCX:Hid (∀y,zDu x y=decide (y.pa=x.pa∧y.pl=x.pl)):=hid fun _=>decide_swap
  generalize zDu x=cx at HT0 HCX;generalize netF x=fx at HF0 HT0 HAF;generalize zAv x.pa x.pl=vx at HAF HVD;go_wp2_with fail;refine HVD.out.mono ?_;rintro e wz ⟨rfl,hb⟩;have HZ:=hid (HB.out.keep hb);clear hb x0 x1 HVD HB cl FX;cases vx with
  |false=>
   have E:Hid (res=1):=hid (by have q:=HAF.out;rw[if_neg (by decide)]at q;rw[R1.out,HF0.out (by rw[q];decide),q];rfl);clear HAF HT0 HF0;go_wp2;go_ret;exact⟨zAc E.out.symm,HZ.out.b⟩
  |true=>
  have HT1:=hid (HT0.out HAF.out);clear HAF HT0 HF0;go_wp2;go_loopg [4] k (fun gh ix wq=>∃j:Nat,j+gh=k∧ix=.int .i64 j∧Hid (RQ 39 r.pvC w wq)∧Hid (∀i (hi:i<l1.length),i<j→cx l1[i]=false));case atStart=>exact⟨0,by omega,rfl,HZ,hid fun _ _ h=>absurd h (Nat.not_lt_zero _)⟩
  case round=>
   clear HZ;obtain⟨j,hj,rfl,HQ,HN⟩:=hrel;have cl:=CL1.out wr HQ.out;obtain⟨x0,x1⟩:=XA.out wr HQ.out;by_cases hjl:j<k;case neg=>
    have hjz:¬((j:Int)<(k:Int)):=by omega
    obtain rfl:j=k:=by omega
    have EN:Hid (zAt netF zDu 4 l1 (l1.drop (j+1)) (j+1)=F1):=hid (by rw[HT1.out,zFu (by omega) HN.out];rfl);go_wp2;go_roundg (l1.length - (j+1));case measure=>omega
    case rel=>exact⟨j+1,by omega,by go_num,HQ,EN⟩
   have hjn:j<l1.length:=by omega
   have hjz:(j:Int)<(k:Int):=by omega
   have hjm:(j:Int)<(l1.length:Int):=by omega
   obtain⟨g', o', c'', e',-,hg', R0⟩:=HS1.out.elem (n:=2) (by decide) (fun _=>rfl) hjn;injection e' with e1 e2 e3
   injection e1 with e1
   injection e1 with e1 e4
   subst e1 e4;have y0:wr.cell? ⟨g,o+j*2,none⟩=some (.int .u32 (l1[j].pa:Int)):=zAf R0 (HQ.out.b.mono HBB.out) hg' 0 _ rfl;have y1:wr.cell? ⟨g,o+j*2+1,none⟩=some (.int .i64 l1[j].pl):=zAf R0 (HQ.out.b.mono HBB.out) hg' 1 _ rfl;have HH:Hid (cx l1[j]=true→res=4):=hid fun h=>by rw[R1.out,HT1.out,zFt hjn hjl h];rfl
   have HM:Hid (cx l1[j]=false→∀i (hi:i<l1.length),i<j+1→cx l1[i]=false):=hid (zIy HN.out);have HC:=HCX.out l1[j];have HQ2:=hid (HQ.out.keep (zAs wr));clear HN R0 e2 e3;generalize l1[j]=y at HC HH HM y0 y1;generalize cx y=bp at HC HH HM;have qe:∀w,(binOp .eql 90 (.agg #[.int .u32 (y.pa:Int),.int .i64 y.pl]) (.agg #[.int .u32 (x.pa:Int),.int .i64 x.pl])).run Tryz.prog w=.ok (.bool bp) w:=fun w=>by rw[zFo y.pa x.pa y.pl x.pl w,HC]
   have gp:=Tryz.pfxGuard;clear HC;cases bp with
   |true=>
    have E:=hid (HH.out rfl);go_wp2_with fail;go_still (by kernel_rfl);go_wp2;go_ret;exact⟨zAc E.out.symm,HQ2.out.b⟩
   |false=>
   have HN2:=hid (HM.out rfl);go_wp2_with fail;go_still (by kernel_rfl);go_wp2;go_roundg (k - (j+1));case measure=>omega
   case rel=>exact⟨j+1,by omega,by go_num,HQ2,HN2⟩
theorem pv_ways(r:Rt){n:Int}(hn:n=(r.nb.length:Int)+r.net.length+r.ag.length+r.cd.length+r.pvRed.length):(r.pvOn=false∧pvE r=1∧NZ r.ext)∨(r.pvOn=false∧pvE r=1∧r.ext=0∧NZ r.int)∨(r.pvOn=false∧pvE r=1∧r.ext=0∧r.int=0∧(0:Int)<n)∨(r.pvOn=false∧pvE r=0∧r.ext=0∧r.int=0∧¬((0:Int)<n))∨(r.pvOn=true∧pvE r=1∧r.asn=0)∨(r.pvOn=true∧pvE r=1∧NZ r.asn∧zAb r.ext 1 255=false)∨(r.pvOn=true∧pvE r=1∧NZ r.asn∧zAb r.ext 1 255=true∧zAb r.int 1 255=false)∨(r.pvOn=true∧NZ r.asn∧zAb r.ext 1 255=true∧zAb r.int 1 255=true∧pvE r=if nbsE r.maps r.nb=0 then(if origE r=0 then redE r.maps 5 0 16777215 0 r.pvRed else origE r)else nbsE r.maps r.nb):=by
 unfold pvE;cases ho:r.pvOn with
 |false=>
  rw[if_neg (by decide)];by_cases h1:r.ext=0;case neg=>exact .inl ⟨rfl,by simp[h1],nzI h1⟩
  by_cases h2:r.int=0;case neg=>exact .inr (.inl ⟨rfl,by simp[h1,h2],h1,nzI h2⟩)
  rw[h1,h2]
  have G:(decide ((0:Int)<r.nb.length)||(decide ((0:Int)<r.net.length)||(decide ((0:Int)<r.ag.length)||(decide ((0:Int)<r.cd.length)||decide ((0:Int)<r.pvRed.length)))))=decide ((0:Int)<n):=by
   rw[←Bool.decide_or,←Bool.decide_or,←Bool.decide_or,←Bool.decide_or];exact decide_eq_decide.2 (by omega)
  rw[G];by_cases h3:(0:Int)<n
  ·exact .inr (.inr (.inl ⟨rfl,by rw[decide_eq_true h3];rfl,rfl,rfl,h3⟩))
  ·exact .inr (.inr (.inr (.inl ⟨rfl,by rw[decide_eq_false h3];rfl,rfl,rfl,h3⟩)))
 |true=>
  rw[if_pos rfl];by_cases h1:r.asn=0
  ·exact .inr (.inr (.inr (.inr (.inl ⟨rfl,by rw[h1];rfl,h1⟩))))
  have h1' : (r.asn==0)=false:=by simpa using h1
  rw[h1'];cases h2:zAb r.ext 1 255 with
  |false=>exact .inr (.inr (.inr (.inr (.inr (.inl ⟨rfl,rfl,nzI h1,rfl⟩)))))
  |true=>
  cases h3:zAb r.int 1 255 with
  |false=>exact .inr (.inr (.inr (.inr (.inr (.inr (.inl ⟨rfl,rfl,nzI h1,rfl,rfl⟩))))))
  |true=>exact .inr (.inr (.inr (.inr (.inr (.inr (.inr ⟨rfl,nzI h1,rfl,rfl,rfl⟩))))))
theorem rpath_all(r:Rt)(w:World)(B:Nat)(hB:B≤w.heap.size)(h:r.at w B)(hf1:∀x∈r.net,x.fit)(hf2:∀x∈r.ag,x.fit)(hf3:∀x∈r.cd,x.fit)(hs:r.nb.length+r.net.length+r.ag.length+r.cd.length+r.pvRed.length≤1000000):Calls Tryz.prog 63 #[.agg r.C] w fun e w' => e=.returned (.int .i64 (pvE r))∧Below w.heap.size w w' := by
 have HBB:=hid hB;have H0:=RB.start r w;have HWI:=hid zCd;have HR:=hid h;obtain⟨A1,c1,hv1,-⟩:=id h.hnb;obtain⟨A2,c2,hv2,-⟩:=id h.hnet;obtain⟨A3,c3,hv3,-⟩:=id h.hag;obtain⟨A4,c4,hv4,-⟩:=id h.hcd;obtain⟨A5,c5,hv5,-⟩:=id h.hpvRed;have HLR:=h.hpvRed;rw[hv5]at HLR;replace HLR:=hid HLR;have EP:r.pvC=#[.bool r.pvOn,.int .i64 r.ext,.int .i64 r.int,.slice A1 r.nb.length c1,.slice A2 r.net.length c2,.slice A3 r.ag.length c3,.slice A4 r.cd.length c4,.slice A5 r.pvRed.length c5]:=by unfold Rt.pvC;rw[hv1,hv2,hv3,hv4,hv5]
 have PO:=hid (fun W (hb:Below w.heap.size w W)=>rorig_all r W B (Nat.le_trans hB hb.size) (h.below (hb.mono hB)) hf1 hf2 hf3);rw[EP]at PO;clear EP;have HW:=hid (pv_ways r rfl);generalize origE r=eO at HW PO;obtain⟨res,hres⟩:∃res,pvE r=res:=⟨_,rfl⟩;rw[hres]at HW⊢;clear hres
 have HO:(#[.bool r.pvOn,.int .i64 r.ext,.int .i64 r.int,.slice A1 r.nb.length c1,.slice A2 r.net.length c2,.slice A3 r.ag.length c3,.slice A4 r.cd.length c4,.slice A5 r.pvRed.length c5]:Array Value).all (·.oneCell')=true:=by
  rw[Array.all_eq_true_iff_forall_mem];intro v hv;simp only[List.mem_toArray,List.mem_cons,List.not_mem_nil,or_false]at hv;rcases hv with rfl|rfl|rfl|rfl|rfl|rfl|rfl|rfl<;>rfl
 have HSh:=hid (H0.h.subM 17 #[.bool r.pvOn,.int .i64 r.ext,.int .i64 r.int,.slice A1 r.nb.length c1,.slice A2 r.net.length c2,.slice A3 r.ag.length c3,.slice A4 r.cd.length c4,.slice A5 r.pvRed.length c5] (fun j hj=>by
  have hj' : j<8:=hj
  rcases(show j=0∨j=1∨j=2∨j=3∨j=4∨j=5∨j=6∨j=7 by omega)with rfl|rfl|rfl|rfl|rfl|rfl|rfl|rfl<;>first|rfl|(show some _=some _;simp only[Option.some.injEq];assumption)))
 have H0h:=hid H0;clear H0 hv1 hv2 hv3 hv4 hv5 h hB hf1 hf2 hf3;go_enter Tryz.func63,Tryz.ntmps63;go_upto_region 2 with(refine zAa rfl 39 _ rfl rfl HSh.out Tryz.rowPV Tryz.sizePV ?_)
 have H5:Hid (RBL r w 39 (w.alloc (.cells r.C 41)).heap.size #[.bool r.pvOn,.int .i64 r.ext,.int .i64 r.int,.slice A1 r.nb.length c1,.slice A2 r.net.length c2,.slice A3 r.ag.length c3,.slice A4 r.cd.length c4,.slice A5 r.pvRed.length c5] ((w.alloc (.cells r.C 41)).alloc (.cells #[.bool r.pvOn,.int .i64 r.ext,.int .i64 r.int,.slice A1 r.nb.length c1,.slice A2 r.net.length c2,.slice A3 r.ag.length c3,.slice A4 r.cd.length c4,.slice A5 r.pvRed.length c5] 39))):=hid ⟨(H0h.out.keep ((Below.refl _ _).alloc (Nat.le_refl _) _)).h,(H0h.out.keep ((Below.refl _ _).alloc (Nat.le_refl _) _)).b,HasC.new _ _ _⟩;clear H0h HSh HO;generalize hw5:(w.alloc (.cells r.C 41)).alloc (.cells #[.bool r.pvOn,.int .i64 r.ext,.int .i64 r.int,.slice A1 r.nb.length c1,.slice A2 r.net.length c2,.slice A3 r.ag.length c3,.slice A4 r.cd.length c4,.slice A5 r.pvRed.length c5] 39)=w5 at H5⊢;clear hw5;rw[show(w.alloc (.cells r.C 41)).heap.size=w.heap.size+1 from by simp]at H5;generalize w.heap.size+1=gl at H5⊢;obtain⟨lc0,lc1,lc2,lc3,lc4,lc5,lc6,lc7⟩:=bl8 H5.out.l;have a1:=cl1 H5.out.h;rcases HW.out with⟨o1,E,v1,v2⟩|⟨o1,E,o2,v1,v2⟩|⟨o1,E,o2,o3,v1⟩|⟨o1,E,o2,o3,v1⟩|⟨o1,E,o4⟩|⟨o1,E,⟨v1,v2⟩,v3⟩|⟨o1,E,⟨v1,v2⟩,v3,v4⟩|⟨o1,⟨v1,v2⟩,v3,v4,v5⟩
 iterate 7
  ·replace E:=hid E
   clear HR HLR PO HW;rw[o1]at lc0
   try rw[o2]at lc1
   try rw[o3]at lc2
   try rw[o4]at a1
   have s1:IntKind.i64.wrap ((r.nb.length:Int)+r.net.length)=(r.nb.length:Int)+r.net.length:=by rw[IntKind.wrap_i64];omega
   have s2:IntKind.i64.wrap ((r.nb.length:Int)+r.net.length+r.ag.length)=(r.nb.length:Int)+r.net.length+r.ag.length:=by rw[IntKind.wrap_i64];omega
   have s3:IntKind.i64.wrap ((r.nb.length:Int)+r.net.length+r.ag.length+r.cd.length)=(r.nb.length:Int)+r.net.length+r.ag.length+r.cd.length:=by rw[IntKind.wrap_i64];omega
   have s4:IntKind.i64.wrap ((r.nb.length:Int)+r.net.length+r.ag.length+r.cd.length+r.pvRed.length)=(r.nb.length:Int)+r.net.length+r.ag.length+r.cd.length+r.pvRed.length:=by rw[IntKind.wrap_i64];omega
   clear hs;go_wp2_with (go_at_call 53;refine(HWI.out _ _ _ _).mono ?_;rintro e w' ⟨rfl,rfl⟩);go_ret;exact⟨zAc E.out.symm,H5.out.b⟩
 rw[o1]at lc0;clear o1 HW;have HRD:=hid v5;clear v5;have CL7:Hid (∀W,RBL r w 39 gl #[.bool r.pvOn,.int .i64 r.ext,.int .i64 r.int,.slice A1 r.nb.length c1,.slice A2 r.net.length c2,.slice A3 r.ag.length c3,.slice A4 r.cd.length c4,.slice A5 r.pvRed.length c5] W→W.cell? ⟨gl,7,none⟩=some (.slice A5 r.pvRed.length c5)):=hid (fun W h=>h.l.cell 7);clear lc3 lc4 lc5 lc6 lc7 hs;go_wp2_with (first|(go_at_call 53;refine(HWI.out _ _ _ _).mono ?_;rintro e w' ⟨rfl,rfl⟩)|(first|(refine zAa rfl 41 _ rfl rfl H5.out.h.range Tryz.rowRt Tryz.sizeRt ?_)|(refine zAj (by rfl) (zAa rfl 41 _ rfl rfl H5.out.h.range Tryz.rowRt Tryz.sizeRt ?_))));with_reducible refine(rneighbors_all r w5 B (Nat.le_trans HBB.out H5.out.b.size) (HR.out.below (H5.out.b.mono HBB.out))).mono ?_
 rintro e w6 ⟨rfl,hb⟩;have H6:=hid (H5.out.keep hb);clear hb lc0 lc1 lc2 a1 H5 v1 v2 v3 v4;generalize nbsE r.maps r.nb=eN at HRD⊢;by_cases hN:eN=0;case neg=>
  have E:Hid (eN=res):=hid (by rw[HRD.out,if_neg hN]);have d0:(eN != 0)=true:=by simpa using hN
  have d1:(eN==0)=false:=by simpa using hN
  clear hN;go_wp2;go_ret;exact⟨zAc E.out,H6.out.b⟩
 have HRE:Hid (res=if eO=0 then redE r.maps 5 0 16777215 0 r.pvRed else eO):=hid (by rw[HRD.out,if_pos hN]);subst hN;clear HRD;go_wp2_with (refine zAa rfl 39 _ rfl rfl H6.out.l.range Tryz.rowPV Tryz.sizePV ?_);with_reducible refine(PO.out w6 H6.out.b).mono ?_
 rintro e w7 ⟨rfl,hb⟩;have H7:=hid (H6.out.keep hb);clear hb H6 PO;by_cases hO:eO=0;case neg=>
  have E:Hid (eO=res):=hid (by rw[HRE.out,if_neg hO]);have d0:(eO != 0)=true:=by simpa using hO
  have d1:(eO==0)=false:=by simpa using hO
  clear hO;go_wp2;go_ret;exact⟨zAc E.out,H7.out.b⟩
 have E:Hid (redE r.maps 5 0 16777215 0 r.pvRed=res):=hid (by rw[HRE.out,if_pos hO]);subst hO;clear HRE;have lz:=CL7.out w7 H7.out;go_wp2_with (first|(refine zAa rfl 41 _ rfl rfl H7.out.h.range Tryz.rowRt Tryz.sizeRt ?_)|(refine zAj (by rfl) (zAa rfl 41 _ rfl rfl H7.out.h.range Tryz.rowRt Tryz.sizeRt ?_)));with_reducible refine(zHd r r.pvRed (.slice A5 r.pvRed.length c5) 5 0 16777215 0 (.inr ⟨by decide,rfl⟩) w7 B (Nat.le_trans HBB.out H7.out.b.size) (HR.out.below (H7.out.b.mono HBB.out)) (HLR.out.below (H7.out.b.mono HBB.out))).mono ?_
 rintro e w8 ⟨rfl,hb⟩;have H8:=hid (H7.out.keep hb);clear hb lz;go_wp2;go_ret;exact⟨zAc E.out,H8.out.b⟩
theorem kinds_sum(x:Sr):cntB (zGb x)=(if x.next=0 then(0:Int)else 1)+(if x.iface=[]then 0 else 1)+(if x.discard then 1 else 0):=by
 obtain⟨pa,pl,next,iface,discard,admin,tag⟩:=x;unfold zGb;dsimp only;by_cases h1:next=0<;>cases iface<;>cases discard<;>simp[cntB,h1]
theorem rstatics_all(r:Rt)(w:World)(B:Nat)(hB:B≤w.heap.size)(h:r.at w B)(hf:∀x∈r.stat,x.fit):Calls Tryz.prog 60 #[.agg r.C] w fun e w' => e=.returned (.int .i64 (zJo r.ifs r.stat))∧Below w.heap.size w w' := by
 have HBB:=hid hB;have HR:=hid h;have HB:=hid (RB.start r w);have HF:=hid hf;have HWI:=hid zCd;have hl:=h.hstat;have hlen:=hl.len;simp only[maxLen]at hlen;have HSI:=hid h.hifs;obtain⟨A,c,hv,-⟩:=id hl;have HL:Hid (∀w', RB r w w' → w'.cell? ⟨w.heap.size,7,none⟩=some (.slice A r.stat.length c)):=hid (fun w' h=>by rw[←hv];exact h.h.cell 7);rw[hv]at hl;generalize r.stat=l at *;have HS:=hid hl;have cl:=HL.out _ HB.out;clear h hf hl hv;obtain⟨res,hres⟩:∃res,zJo r.ifs l=res:=⟨_,rfl⟩;rw[hres];by_cases h8:16<l.length
 ·have E:Hid (res=7):=hid (by rw[←hres];exact if_pos h8)
  have d8:(16:Int)<(l.length:Int):=by omega
  clear hres;go_enter Tryz.func60,Tryz.ntmps60;go_wp2;go_ret;exact⟨zAc E.out.symm,HB.out.b⟩
 have d8:¬((16:Int)<(l.length:Int)):=by omega
 have E:Hid (zAt (staF r.ifs) zBz 6 l l 0=res):=hid (by rw[←hres];exact(if_neg h8).symm);clear hres;go_enter Tryz.func60,Tryz.ntmps60;go_wp2_with fail;clear cl d8;go_loopg [3] l.length (fun gh ix wr=>∃k:Nat,k+gh=l.length∧ix=.int .i64 k∧Hid (RB r w wr)∧Hid (zAt (staF r.ifs) zBz 6 l (l.drop k) k=res));case atStart=>exact⟨0,by omega,rfl,HB,E⟩
 case round=>
  clear HB E;obtain⟨k,hk,rfl,HB,HG⟩:=hrel;have cl:=HL.out wr HB.out;by_cases hlt:k<l.length;case neg=>
   have hkz:¬((k:Int)<(l.length:Int)):=by omega
   have E:=hid (zCb hlt HG.out);go_wp2;go_ret;exact⟨zAc E.out.symm,HB.out.b⟩
  have hkz:(k:Int)<(l.length:Int):=by omega
  obtain⟨g,o,c', e',-,hg,R0⟩:=HS.out.elem (n:=7) (by decide) (fun _=>rfl) hlt;injection e' with e1 e2 e3
  subst e1 e3;have r1:=hid (zAf R0 (HB.out.b.mono HBB.out) hg);have FX:=hid (HF.out _ (List.getElem_mem hlt));have HPA:=zCk hlt HG.out;clear HG;generalize l[k]=x at r1 FX HPA;have HE:Hid (∀n:Int,n≠0→staF r.ifs x=n→res=n):=hid fun n h q=>by rw[HPA,q,if_neg h]
  have HT0:Hid (staF r.ifs x=0→res=if(l.take k).any (zBz x)then 6 else zAt (staF r.ifs) zBz 6 l (l.drop (k+1)) (k+1)):=hid (zDg HPA);have HFE:Hid (staF r.ifs x=if zFf r.ifs x then(if x.iface.isEmpty then 0 else if idxF (fun y=>y.name==x.iface) r.ifs 0<0 then 5 else if lenAt r.ifs x.iface=0 then 1 else 0)else 1):=hid rfl;have HRE:Hid (zFf r.ifs x=(zAv x.pa x.pl&&cntB (zGb x)==1&&(x.next==0||decide (idxF (hasA x.next) r.ifs 0<0))&&zAb x.admin 1 255&&zAb x.tag 0 65535)):=hid rfl;have HKE:Hid (cntB (zGb x)=(if x.next=0 then(0:Int)else 1)+(if x.iface=[]then 0 else 1)+(if x.discard then 1 else 0)):=hid (kinds_sum x);have HCX:Hid (∀y,zBz x y=(decide (y.pa=x.pa∧y.pl=x.pl)&&y.admin==x.admin)):=hid fun _=>rfl
  clear HPA;generalize zBz x=cx at HT0 HCX;generalize staF r.ifs x=fx at HE HT0 HFE;generalize zFf r.ifs x=rr at HFE HRE;generalize cntB (zGb x)=nn at HRE HKE;clear R0 e2;go_upto_region 7 with(first|(refine zAa rfl 109 _ rfl rfl r1.out Tryz.rowSr Tryz.sizeSr ?_)|(refine zAd rfl 109 _ _ rfl rfl rfl (HasC.new wr _ _) rfl Tryz.sizeSr (Sr.one x) ?_;intro w5 hz1 hz2))
  have H5:Hid (RBL r w 109 wr.heap.size x.C w5):=hid (let q:=HB.out.keep (zAi hz2);⟨q.h,q.b,hz1⟩);clear hz1 hz2 r1 HB cl;generalize wr.heap.size=gx at H5⊢;have FP:=hid FX.out.1;clear FX;have hvd:=fun W=>zEi x.pa x.pl W FP.out
  unfold PV at hvd;have HVD:=hid hvd;clear hvd;generalize zAv x.pa x.pl=vv at HVD HRE;obtain⟨pa,pl,next,iface,discard,admin,tag⟩:=x;dsimp only at HVD HFE HRE HKE HCX;have CE:Hid (∀W,RBL r w 109 gx (Sr.C ⟨pa,pl,next,iface,discard,admin,tag⟩) W→W.cell? ⟨gx,2,none⟩=some (.int .u32 (next:Int))∧W.cell? ⟨gx,3,none⟩=some (.string (str iface))∧W.cell? ⟨gx,4,none⟩=some (.bool discard)∧W.cell? ⟨gx,5,none⟩=some (.int .i64 admin)∧W.cell? ⟨gx,6,none⟩=some (.int .i64 tag)):=hid (fun W h=>⟨h.l.cell 2,h.l.cell 3,h.l.cell 4,h.l.cell 5,h.l.cell 6⟩);obtain⟨x0,x1⟩:=bl2 H5.out.l;have CF:Hid (∀W,RBL r w 109 gx (Sr.C ⟨pa,pl,next,iface,discard,admin,tag⟩) W→W.cell? ⟨gx,0,none⟩=some (.int .u32 (pa:Int))∧W.cell? ⟨gx,1,none⟩=some (.int .i64 pl)∧W.cell? ⟨gx,5,none⟩=some (.int .i64 admin)):=hid (fun W h=>⟨h.l.cell 0,h.l.cell 1,h.l.cell 5⟩);generalize Sr.C ⟨pa,pl,next,iface,discard,admin,tag⟩=cs at H5 CE CF;obtain⟨x2,x3,x4,x5,x6⟩:=CE.out w5 H5.out;have tni:=zAe ([]:List UInt8);have tne:(str ([]:List UInt8)).toList.isEmpty=true:=by rw[zAe];rfl
  go_upto_if 26 with fail
  go_cut [5] (fun v wx=>v=.int .i64 (if next=0 then 0 else 1)∧RBL r w 109 gx cs wx)
  case first=>
   by_cases hn:next=0
   ·rw[hn]at x2
    have v1:((next:Int) != 0)=false:=by rw[hn];rfl
    go_wp2;go_meet;exact⟨by rw[if_pos hn],H5.out⟩
   ·have v1:((next:Int) != 0)=true:=by simp;omega
    go_wp2;go_meet;exact⟨by rw[if_neg hn],H5.out⟩
  case rest=>
  obtain⟨hv5,h5⟩:=hcut;subst hv5;replace H5:=hid h5;clear h5 x0 x1 x2 x3 x4 x5 x6;obtain⟨x2,x3,x4,x5,x6⟩:=CE.out _ H5.out;have B8:(if next=0 then(0:Int)else 1)=0∨(if next=0 then(0:Int)else 1)=1:=by split<;>simp
  generalize (if next=0 then(0:Int)else 1)=n8 at HKE B8⊢;go_upto_if 31 with fail
  go_cut [5] (fun v wx=>v=.int .i64 (n8+(if iface=[]then 0 else 1))∧RBL r w 109 gx cs wx)
  case first=>
   by_cases hn:iface=[]
   ·have v1:(str iface).toList.isEmpty=true:=by rw[zJa,hn];rfl
    rw[v1,Bool.not_true];clear v1;go_wp2;go_meet;exact⟨by rw[if_pos hn];simp,H5.out⟩
   ·obtain⟨i1,i2,i3⟩:=zCe hn
    have i4:(str iface).toList.isEmpty=false:=by rw[zJa];exact i1
    rw[i4,Bool.not_false];go_wp2;go_meet;exact⟨by rw[if_neg hn],H5.out⟩
  case rest=>
  obtain⟨hv5,h5⟩:=hcut;subst hv5;replace H5:=hid h5;clear h5 x2 x3 x4 x5 x6;obtain⟨x2,x3,x4,x5,x6⟩:=CE.out _ H5.out;have B9:(n8+(if iface=[]then(0:Int)else 1))=0∨(n8+(if iface=[]then(0:Int)else 1))=1∨(n8+(if iface=[]then(0:Int)else 1))=2:=by split<;>omega
  generalize (n8+(if iface=[]then(0:Int)else 1))=n9 at HKE B9⊢;go_upto_if 35 with fail
  go_cut [5] (fun v wx=>v=.int .i64 (n9+(if discard then 1 else 0))∧RBL r w 109 gx cs wx)
  case first=>
   cases discard with
   |false=>
    go_wp2;go_meet;exact⟨by first|rfl|simp,H5.out⟩
   |true=>
    rcases B9 with rfl|rfl|rfl
    all_goals
     go_wp2;go_meet;exact⟨by first|rfl|simp,H5.out⟩
  case rest=>
  obtain⟨hv5,h5⟩:=hcut;subst hv5;replace H5:=hid h5;rw[←HKE.out];clear h5 x2 x3 x4 x5 x6 B8 B9 HKE;go_upto_region 14 with fail
  go_cut [69] (fun v wx=>v=.bool (!rr)∧RBL r w 109 gx cs wx)
  case first=>
   obtain⟨x0,x1,-⟩:=CF.out _ H5.out;have ADR:=hid (fun W (h:RBL r w 109 gx cs W)=>raddress_any r next W B (HR.out.below (h.b.mono HBB.out)) (Nat.le_trans HBB.out h.b.size));clear HE HT0 HFE HCX;go_wp2_with fail;refine(HVD.out _).mono ?_;rintro e w6 ⟨rfl,hb⟩;have H6:=hid (H5.out.keep hb);clear hb x0 x1 HVD;obtain⟨x2,x3,x4,x5,x6⟩:=CE.out w6 H6.out;cases vv with
   |false=>
    have E:Hid (rr=false):=hid (by rw[HRE.out];rfl);clear HRE;go_wp2;go_meet;exact⟨by rw[E.out];rfl,H6.out⟩
   |true=>
   by_cases hn1:nn=1;case neg=>
    have d0:(nn != 1)=true:=by simpa using hn1
    have d1:(nn==1)=false:=by simpa using hn1
    have E:Hid (rr=false):=hid (by rw[HRE.out,d1];rfl);clear HRE hn1;go_wp2;go_meet;exact⟨by rw[E.out];rfl,H6.out⟩
   subst hn1;by_cases hn:next=0
   ·rw[hn]at x2
    have v1:((next:Int) != 0)=false:=by rw[hn];rfl
    have E:Hid (rr=(zAb admin 1 255&&zAb tag 0 65535)):=hid (by rw[HRE.out,hn];rfl);clear HRE hn;cases k2:zAb admin 1 255<;>cases k3:zAb tag 0 65535
    all_goals
     have E2:=hid E.out;rw[k2,k3]at E2;clear E;go_wp2_with (go_at_call 53;refine(HWI.out _ _ _ _).mono ?_;rintro e w' ⟨rfl,rfl⟩);go_meet;exact⟨by rw[E2.out];rfl,H6.out⟩
   ·have v1:((next:Int) != 0)=true:=by simp;omega
    have v2:(next==0)=false:=by simpa using hn
    go_wp2_with (first|(refine zAa rfl 41 _ rfl rfl H6.out.h.range Tryz.rowRt Tryz.sizeRt ?_)|(refine zAj (by rfl) (zAa rfl 41 _ rfl rfl H6.out.h.range Tryz.rowRt Tryz.sizeRt ?_)));refine(ADR.out w6 H6.out).mono ?_;rintro e wz ⟨rfl,hb⟩;have HZ:=hid (H6.out.keep hb);clear hb x2 x3 x4 x5 x6 ADR
    have q4:decide ((0:Int)≤idxF (hasA next) r.ifs 0) = !decide (idxF (hasA next) r.ifs 0<0):=by
     rw[←decide_not];exact decide_eq_decide.2 (by omega)
    have E:Hid (rr=(decide (idxF (hasA next) r.ifs 0<0)&&zAb admin 1 255&&zAb tag 0 65535)):=hid (by rw[HRE.out,v2];rfl);clear HRE hn v1 v2;generalize decide (idxF (hasA next) r.ifs 0<0)=di at q4 E;obtain⟨x2,x3,x4,x5,x6⟩:=CE.out wz HZ.out;cases di with
    |false=>
     replace q4:decide ((0:Int)≤idxF (hasA next) r.ifs 0)=true:=q4;have E2:Hid (rr=false):=hid E.out;generalize idxF (hasA next) r.ifs 0=ix at q4⊢;clear E;go_wp2;go_meet;exact⟨by first|(rw[E2.out];rfl)|(rw[E2.out,q4];rfl),HZ.out⟩
    |true=>
    replace q4:decide ((0:Int)≤idxF (hasA next) r.ifs 0)=false:=q4;generalize idxF (hasA next) r.ifs 0=ix at q4⊢;cases k2:zAb admin 1 255<;>cases k3:zAb tag 0 65535
    all_goals
     have E2:=hid E.out;rw[k2,k3]at E2;clear E;go_wp2_with (go_at_call 53;refine(HWI.out _ _ _ _).mono ?_;rintro e w' ⟨rfl,rfl⟩);go_meet;exact⟨by rw[E2.out];first|rfl|(rw[q4];rfl),HZ.out⟩
  case rest=>
  obtain⟨hv5,h5⟩:=hcut;subst hv5;replace H5:=hid h5;clear h5 HVD HRE;obtain⟨x2,x3,x4,x5,x6⟩:=CE.out _ H5.out;cases rr with
  |false=>
   have E:=hid (HE.out 1 (by decide) HFE.out);clear HFE HT0 HE;go_wp2;go_ret;exact⟨zAc E.out.symm,H5.out.b⟩
  |true=>
  have HF2:Hid (fx=if iface.isEmpty then 0 else if idxF (fun y=>y.name==iface) r.ifs 0<0 then 5 else if lenAt r.ifs iface=0 then 1 else 0):=hid HFE.out;clear HFE;go_upto_if 72 with fail
  rcases Decidable.em (iface=[])with hn|hn
  case' inl=>
   have v1:(str iface).toList.isEmpty=true:=by rw[zJa,hn];rfl
   have HT1:=hid (HT0.out (by rw[HF2.out,hn];rfl));clear HT0 HE HF2 hn;rw[v1,Bool.not_true];clear v1;go_wp2_with fail;have HZ:=H5;clear H5 x2 x3 x4 x5 x6 tni tne
  case' inr=>
   obtain⟨i1,i2,i3⟩:=zCe hn;have i4:(str iface).toList.isEmpty=false:=by rw[zJa];exact i1
   have HF3:Hid (fx=if idxF (fun y=>y.name==iface) r.ifs 0<0 then 5 else if lenAt r.ifs iface=0 then 1 else 0):=hid (by rw[HF2.out,i1];rfl);clear HF2;rw[i4,Bool.not_false];have LKI:=hid (fun W (h:RBL r w 109 gx cs W)=>rlookIf_any r iface W B (HR.out.below (h.b.mono HBB.out)) (Nat.le_trans HBB.out h.b.size));go_wp2_with (first|(refine zAa rfl 41 _ rfl rfl H5.out.h.range Tryz.rowRt Tryz.sizeRt ?_)|(refine zAj (by rfl) (zAa rfl 41 _ rfl rfl H5.out.h.range Tryz.rowRt Tryz.sizeRt ?_)));refine(LKI.out _ H5.out).mono ?_;rintro e wz ⟨rfl,hb⟩;have HZ:=hid (H5.out.keep hb);clear hb x2 x3 x4 x5 x6 LKI H5 i1 i2 i3 i4 tni tne;rcases Decidable.em (idxF (fun y=>y.name==iface) r.ifs 0<0)with q2|q2
   case inl=>
    have E:=hid (HE.out 5 (by decide) (by rw[HF3.out,if_pos q2]));clear HE HT0 HF3;generalize idxF (fun y:If=>y.name==iface) r.ifs 0=ix at q2⊢;go_wp2;go_ret;exact⟨zAc E.out.symm,HZ.out.b⟩
   obtain⟨i,hii⟩:∃i:Nat,idxF (fun y=>y.name==iface) r.ifs 0=(i:Int):=⟨_,(Int.toNat_of_nonneg (by omega)).symm⟩;have hil:i<r.ifs.length:=by have:=(idxF_bd (fun y=>y.name==iface) r.ifs 0).2;omega
   have EL:lenAt r.ifs iface=r.ifs[i].len:=by unfold lenAt;rw[hii,Int.toNat_natCast,List.getElem?_eq_getElem hil];rfl
   have HF4:Hid (fx=if r.ifs[i].len=0 then 1 else 0):=hid (by rw[HF3.out,if_neg q2,EL]);rw[hii];obtain⟨gi,oi,ci,ei,-,hgi,RI⟩:=HSI.out.elem (n:=12) (by decide) (fun _=>rfl) hil;have cli:wz.cell? ⟨gi,oi+i*12+2,none⟩=some (.int .i64 r.ifs[i].len):=zAf RI (HZ.out.b.mono HBB.out) hgi 2 _ rfl;have csi:wz.cell? ⟨w.heap.size,2,none⟩=some (.slice (some ⟨gi,oi,none⟩) r.ifs.length ci):=by rw[←ei];exact HZ.out.h.cell 2
   have hiz:(i:Int)<(r.ifs.length:Int):=by omega
   have hlm:r.ifs.length≤9223372036854775807:=by have:=HSI.out.len;simp only[maxLen]at this;omega
   clear RI ei q2 EL HF3 hii;generalize r.ifs[i].len=li at cli HF4;rcases Decidable.em (li=0)with q3|q3
   case inl=>
    have E:=hid (HE.out 1 (by decide) (by rw[HF4.out,if_pos q3]));have dz:(li==0)=true:=by simpa using q3
    clear HE HT0 HF4 q3;go_wp2;go_ret;exact⟨zAc E.out.symm,HZ.out.b⟩
   have dz:(li==0)=false:=by simpa using q3
   have HT1:=hid (HT0.out (by rw[HF4.out,if_neg q3]));clear HE HT0 HF4 q3;go_wp2_with fail;clear cli csi dz
  all_goals
   go_loopg [7] k (fun gh ix wq=>∃j:Nat,j+gh=k∧ix=.int .i64 j∧Hid (RBL r w 109 gx cs wq)∧Hid (∀i (hi:i<l.length),i<j→cx l[i]=false));case atStart=>exact⟨0,by omega,rfl,HZ,hid fun _ _ h=>absurd h (Nat.not_lt_zero _)⟩
   case round=>
    clear HZ;obtain⟨j,hj,rfl,HQ,HN⟩:=hrel;have cl:=HL.out wr ⟨HQ.out.h,HQ.out.b⟩;by_cases hjl:j<k;case pos=>
     have hjn:j<l.length:=by omega
     have hjz:(j:Int)<(k:Int):=by omega
     have hjm:(j:Int)<(l.length:Int):=by omega
     obtain⟨g', o', c'', e',-,hg', R0⟩:=HS.out.elem (n:=7) (by decide) (fun _=>rfl) hjn;injection e' with e1 e2 e3
     injection e1 with e1
     injection e1 with e1 e4
     subst e1 e4;have HH:Hid (cx l[j]=true→res=6):=hid fun h=>by rw[HT1.out,zFt hjn hjl h];rfl
     have HM:Hid (cx l[j]=false→∀i (hi:i<l.length),i<j+1→cx l[i]=false):=hid (zIy HN.out);have HC:=HCX.out l[j];clear HN;have YA:Hid (∀W,RBL r w 109 gx cs W→W.cell? ⟨g,o+j*7,none⟩=some (.int .u32 (l[j].pa:Int))∧W.cell? ⟨g,o+j*7+1,none⟩=some (.int .i64 l[j].pl)∧W.cell? ⟨g,o+j*7+5,none⟩=some (.int .i64 l[j].admin)):=hid (fun W h=>have hb:=h.b.mono HBB.out;⟨(hb.cell (p:=⟨g,o+j*7,none⟩) hg').trans (R0 0 _ rfl),(hb.cell (p:=⟨g,o+j*7+1,none⟩) hg').trans (R0 1 _ rfl),(hb.cell (p:=⟨g,o+j*7+5,none⟩) hg').trans (R0 5 _ rfl)⟩);generalize l[j]=y at YA HC HH HM;generalize cx y=b0 at HC HH HM;have qe:∀w,(binOp .eql 90 (.agg #[.int .u32 (y.pa:Int),.int .i64 y.pl]) (.agg #[.int .u32 (pa:Int),.int .i64 pl])).run Tryz.prog w=.ok (.bool (decide (y.pa=pa∧y.pl=pl))) w:=fun w=>zFo y.pa pa y.pl pl w
     have gp:=Tryz.pfxGuard;generalize decide (y.pa=pa∧y.pl=pl)=bp at qe HC;obtain⟨ba,hba⟩:∃ba,(y.admin==admin)=ba:=⟨_,rfl⟩;rw[hba]at HC;rcases(show(bp=false∧b0=false)∨(bp=true∧ba=false∧b0=false)∨(bp=true∧ba=true∧b0=true) by rw[HC];cases bp<;>cases ba<;>simp)with⟨rfl,rfl⟩|⟨rfl,rfl,rfl⟩|⟨rfl,rfl,rfl⟩
     case' inl=>clear hba;have HN2:=hid (HM.out rfl)
     case' inr.inl=>have HN2:=hid (HM.out rfl)
     case' inr.inr=>have E:=hid (HH.out rfl)
     all_goals
      clear R0 e2 e3 HC HH HM;go_wp2_with fail;refine zAo (fun W=>RBL r w 109 gx cs W) (by kernel_rfl) (by kernel_rfl) (HQ.out.keep (zAs wr)) ?_
      repeat
       (first
        |(refine zIs ?_ ?_;(· rfl))
        |(refine zBd (v:=?_) ?_ ?_ ?_;rotate_left;(· rfl);(· (intro W hW;obtain⟨y0,y1,y5⟩:=YA.out W hW;obtain⟨x0,x1,x5⟩:=CF.out W hW;have cl:=HL.out W ⟨hW.h,hW.b⟩;go_simp<;>rfl))))
       simp only[Act.put,List.setIfInBounds_toArray,List.set_cons_zero,List.set_cons_succ]
      refine zBo (fun wq hS=>?_);have HZ:=hid hS;clear hS YA HQ cl;go_wp2_with fail
      first
       | (go_roundg (k - (j + 1))
          case measure=>omega
          case rel=>exact⟨j+1,by omega,by go_num,HZ,HN2⟩)
       | (go_ret
          exact⟨zAc E.out.symm,HZ.out.b⟩)
    have hjz:¬((j:Int)<(k:Int)):=by omega
    obtain rfl:j=k:=by omega
    have EN:Hid (zAt (staF r.ifs) zBz 6 l (l.drop (j+1)) (j+1)=res):=hid (by rw[HT1.out,zFu (by omega) HN.out];rfl);go_wp2;go_roundg (l.length - (j+1));case measure=>omega
    case rel=>exact⟨j+1,by omega,by go_num,hid ⟨HQ.out.h,HQ.out.b⟩,EN⟩
theorem rcheck_all(r:Rt)(w:World)(B:Nat)(hB:B≤w.heap.size)(h:r.at w B)(hf:r.fit)(hps:r.nb.length+r.net.length+r.ag.length+r.cd.length+r.pvRed.length≤1000000):Calls Tryz.prog 19 #[.agg r.C] w fun e w' => e=.returned (.int .i64 (zBp r))∧Below w.heap.size w w' := by
 unfold Rt.fit at hf;have h2:∀W,RB r w W→r.at W B:=fun W hW=>h.below (hW.b.mono hB)
 have HWI:=hid zCd;have P0:Hid (∀W,RB r w W→Calls Tryz.prog 54 #[r.ifsV] W fun e w' => e=.returned (.int .i64 (ifsE r.ifs))∧RB r w w'):=hid (fun W hW=>have hs:=Nat.le_trans hB hW.b.size;(rinterfaces_all r.ifs r.ifsV W B hs (h2 W hW).hifs hf.1).mono fun e w' ⟨he,hb⟩=>⟨he,hW.keep hb⟩);have P1:Hid (∀W,RB r w W→Calls Tryz.prog 55 #[r.listsV] W fun e w' => e=.returned (.int .i64 (plsE r.lists))∧RB r w w'):=hid (fun W hW=>have hs:=Nat.le_trans hB hW.b.size;(zKf r.lists r.listsV W B hs (h2 W hW).hlists (h2 W hW).nlists hf.2.1).mono fun e w' ⟨he,hb⟩=>⟨he,hW.keep hb⟩);have P2:Hid (∀W,RB r w W→Calls Tryz.prog 56 #[.agg r.C] W fun e w' => e=.returned (.int .i64 (mapsE r.lists r.maps))∧RB r w w'):=hid (fun W hW=>have hs:=Nat.le_trans hB hW.b.size;(rrouteMaps_all r W B hs (h2 W hW)).mono fun e w' ⟨he,hb⟩=>⟨he,hW.keep hb⟩);have P3:Hid (∀W,RB r w W→Calls Tryz.prog 57 #[r.aclsV] W fun e w' => e=.returned (.int .i64 (aclsE r.acls))∧RB r w w'):=hid (fun W hW=>have hs:=Nat.le_trans hB hW.b.size;(zKd r.acls r.aclsV W B hs (h2 W hW).hacls (h2 W hW).nacls hf.2.2.2.1).mono fun e w' ⟨he,hb⟩=>⟨he,hW.keep hb⟩);have P4:Hid (∀W,RB r w W→Calls Tryz.prog 58 #[.agg r.C] W fun e w' => e=.returned (.int .i64 (natsE r.acls r.nat))∧RB r w w'):=hid (fun W hW=>have hs:=Nat.le_trans hB hW.b.size;(zJf r W B hs (h2 W hW) hf.2.2.2.2.1).mono fun e w' ⟨he,hb⟩=>⟨he,hW.keep hb⟩);have P5:Hid (∀W,RB r w W→Calls Tryz.prog 59 #[.agg r.C] W fun e w' => e=.returned (.int .i64 (zAl (filtE r.acls) r.ifs))∧RB r w w'):=hid (fun W hW=>have hs:=Nat.le_trans hB hW.b.size;(rfilters_all r W B hs (h2 W hW) hf.1).mono fun e w' ⟨he,hb⟩=>⟨he,hW.keep hb⟩);have P6:Hid (∀W,RB r w W→Calls Tryz.prog 60 #[.agg r.C] W fun e w' => e=.returned (.int .i64 (zJo r.ifs r.stat))∧RB r w w'):=hid (fun W hW=>have hs:=Nat.le_trans hB hW.b.size;(rstatics_all r W B hs (h2 W hW) hf.2.2.2.2.2.1).mono fun e w' ⟨he,hb⟩=>⟨he,hW.keep hb⟩);have P7:Hid (∀W,RB r w W→Calls Tryz.prog 61 #[.agg r.C] W fun e w' => e=.returned (.int .i64 (lnkE r))∧RB r w w'):=hid (fun W hW=>have hs:=Nat.le_trans hB hW.b.size;(rlink_all r W B hs (h2 W hW) hf.2.2.2.2.2.2.1).mono fun e w' ⟨he,hb⟩=>⟨he,hW.keep hb⟩);have P8:Hid (∀W,RB r w W→Calls Tryz.prog 62 #[.agg r.C] W fun e w' => e=.returned (.int .i64 (dvE r))∧RB r w w'):=hid (fun W hW=>have hs:=Nat.le_trans hB hW.b.size;(rdistance_all r W B hs (h2 W hW)).mono fun e w' ⟨he,hb⟩=>⟨he,hW.keep hb⟩);have P9:Hid (∀W,RB r w W→Calls Tryz.prog 63 #[.agg r.C] W fun e w' => e=.returned (.int .i64 (pvE r))∧RB r w w'):=hid (fun W hW=>have hs:=Nat.le_trans hB hW.b.size;(rpath_all r W B hs (h2 W hW) hf.2.2.2.2.2.2.2.2.2.2.1 hf.2.2.2.2.2.2.2.2.2.2.2.1 hf.2.2.2.2.2.2.2.2.2.2.2.2.1 hps).mono fun e w' ⟨he,hb⟩=>⟨he,hW.keep hb⟩);have HB:=hid (RB.start r w);clear h hf h2 hB hps;obtain⟨res,hres⟩:∃res,zBp r=res:=⟨_,rfl⟩;rw[hres];unfold zBp secsE at hres;have CE:Hid (∀W,RB r w W→W.cell? ⟨w.heap.size,2,none⟩=some r.ifsV∧W.cell? ⟨w.heap.size,3,none⟩=some r.listsV∧W.cell? ⟨w.heap.size,5,none⟩=some r.aclsV):=hid (fun W h=>⟨h.h.cell 2,h.h.cell 3,h.h.cell 5⟩);have c0:(w.alloc (.cells r.C 41)).cell? ⟨w.heap.size,0,none⟩=some (.string (str r.name)):=HB.out.h.cell 0;have c1:=cl1 HB.out.h;generalize ifsE r.ifs=e0 at P0 hres;generalize plsE r.lists=e1 at P1 hres;generalize mapsE r.lists r.maps=e2 at P2 hres;generalize aclsE r.acls=e3 at P3 hres;generalize natsE r.acls r.nat=e4 at P4 hres;generalize zAl (filtE r.acls) r.ifs=e5 at P5 hres;generalize zJo r.ifs r.stat=e6 at P6 hres;generalize lnkE r=e7 at P7 hres;generalize dvE r=e8 at P8 hres;generalize pvE r=e9 at P9 hres;go_enter Tryz.func19,Tryz.ntmps19;go_wp2_with fail;refine(rnameL r.name _).mono ?_;rintro e w' ⟨rfl,rfl⟩;cases z1:nameB r.name with
 |false=>
  have E:Hid (res=3):=hid (by rw[←hres,z1];rfl);clear hres;go_wp2;go_ret;exact⟨zAc E.out.symm,HB.out.b⟩
 |true=>
 cases z2:zAb r.asn 0 65535 with
 |false=>
  have E:Hid (res=1):=hid (by rw[←hres,z1,z2];rfl);clear hres;go_wp2_with (go_at_call 53;refine(HWI.out _ _ _ _).mono ?_;rintro e w' ⟨rfl,rfl⟩);go_ret;exact⟨zAc E.out.symm,HB.out.b⟩
 |true=>
 rw[z1,z2]at hres;simp only[Bool.not_true,Bool.false_eq_true,if_false]at hres;obtain⟨L,hL⟩:∃L:List Int,L=[e0,e1,e2,e3,e4,e5,e6,e7,e8,e9]:=⟨_,rfl⟩;rw[←hL]at hres;have HR:=hid hres;clear hres;go_wp2_with (go_at_call 53;refine(HWI.out _ _ _ _).mono ?_;rintro e w' ⟨rfl,rfl⟩);clear c0 c1 z1 z2;refine zEc (fun W=>RB r w W) 23 (by kernel_rfl) (by kernel_rfl) (HB.out.keep (zAs _)) ?_;clear HB
 repeat
  (first
   |refine seqT_yields (zGc (by rfl) 41 _ rfl rfl (fun W hW=>hW.h.range) Tryz.rowRt Tryz.sizeRt) ?_
   |(refine zCc (v:=?_) ?_ ?_ ?_;rotate_left;(· rfl);(· (intro W hW;obtain⟨k1,k2,k3⟩:=CE.out W hW;go_simp<;>rfl)))
   |(refine zAq ?_ ?_ (fun W hW=>P0.out W hW) ?_;(· rfl);(· (intro W hW;go_simp<;>rfl)))
   |(refine zAq ?_ ?_ (fun W hW=>P1.out W hW) ?_;(· rfl);(· (intro W hW;go_simp<;>rfl)))
   |(refine zAq ?_ ?_ (fun W hW=>P2.out W hW) ?_;(· rfl);(· (intro W hW;go_simp<;>rfl)))
   |(refine zAq ?_ ?_ (fun W hW=>P3.out W hW) ?_;(· rfl);(· (intro W hW;go_simp<;>rfl)))
   |(refine zAq ?_ ?_ (fun W hW=>P4.out W hW) ?_;(· rfl);(· (intro W hW;go_simp<;>rfl)))
   |(refine zAq ?_ ?_ (fun W hW=>P5.out W hW) ?_;(· rfl);(· (intro W hW;go_simp<;>rfl)))
   |(refine zAq ?_ ?_ (fun W hW=>P6.out W hW) ?_;(· rfl);(· (intro W hW;go_simp<;>rfl)))
   |(refine zAq ?_ ?_ (fun W hW=>P7.out W hW) ?_;(· rfl);(· (intro W hW;go_simp<;>rfl)))
   |(refine zAq ?_ ?_ (fun W hW=>P8.out W hW) ?_;(· rfl);(· (intro W hW;go_simp<;>rfl)))
   |(refine zAq ?_ ?_ (fun W hW=>P9.out W hW) ?_;(· rfl);(· (intro W hW;go_simp<;>rfl))))
  simp only[Act.put,List.setIfInBounds_toArray,List.set_cons_zero,List.set_cons_succ]
 refine zCn ?_;intro wq hS;change wpList _ _ _ (_ :: _ :: []) _ _;have H1:=hid (hS.keep ((Below.refl _ _).alloc (Nat.le_refl _) (.cells #[.int .i64 e0,.int .i64 e1,.int .i64 e2,.int .i64 e3,.int .i64 e4,.int .i64 e5,.int .i64 e6,.int .i64 e7,.int .i64 e8,.int .i64 e9] 43)))
 have HC:Hid (∀k (hk:k<L.length),(wq.alloc (.cells #[.int .i64 e0,.int .i64 e1,.int .i64 e2,.int .i64 e3,.int .i64 e4,.int .i64 e5,.int .i64 e6,.int .i64 e7,.int .i64 e8,.int .i64 e9] 43)).cell? ⟨wq.heap.size,k,none⟩=some (.int .i64 L[k])):=hid (fun k hk=>((HasC.new _ _ _).cell k).trans (by
  subst hL;have hk' : k<10:=hk
  rcases(show k=0∨k=1∨k=2∨k=3∨k=4∨k=5∨k=6∨k=7∨k=8∨k=9 by omega)with rfl|rfl|rfl|rfl|rfl|rfl|rfl|rfl|rfl|rfl<;>rfl))
 have hl10:L.length=10:=by rw[hL];rfl
 clear hS CE P0 P1 P2 P3 P4 P5 P6 P7 P8 P9 hL;go_wp2_with fail;generalize wq.alloc (.cells #[.int .i64 e0,.int .i64 e1,.int .i64 e2,.int .i64 e3,.int .i64 e4,.int .i64 e5,.int .i64 e6,.int .i64 e7,.int .i64 e8,.int .i64 e9] 43)=wA at H1 HC⊢;generalize wq.heap.size=gs at HC⊢;go_loopg [4] 10 (fun gh ix wr=>wr=wA∧∃k:Nat,k+gh=10∧ix=.int .i64 k∧Hid (zAl (fun e=>e) (L.drop k)=res));case atStart=>exact⟨rfl,0,by omega,rfl,HR⟩
 case round=>
  clear HR;obtain⟨rfl,k,hk,rfl,HR⟩:=hrel;by_cases hlt:k<10;case neg=>
   have hkz:¬((k:Int)<10):=by omega
   have E:Hid (res=0):=hid (by rw[←HR.out,List.drop_of_length_le (by omega)];rfl);go_wp2;go_ret;exact⟨zAc E.out.symm,H1.out.b⟩
  have hkz:(k:Int)<10:=by omega
  have hkl:k<L.length:=by omega
  have ck:=HC.out k hkl;have FD:=first_drop hkl HR.out;generalize L[k]=e at ck FD;rcases FD with⟨h0,h1⟩|⟨h0,h1⟩
  ·have E:=hid h1
   have d0:(e==0)=false:=by simpa using h0
   have d1:(e != 0)=true:=by simpa using h0
   clear h0 h1;go_wp2;go_ret;exact⟨zAc E.out,H1.out.b⟩
  ·subst h0
   have E:=hid h1;clear h1;go_wp2;go_roundg (10 - (k+1));case measure=>omega
   case rel=>exact⟨rfl,k+1,by omega,by go_num,E⟩
end Go.Proofs.YthcnojmldldpeaaGreatDoor
