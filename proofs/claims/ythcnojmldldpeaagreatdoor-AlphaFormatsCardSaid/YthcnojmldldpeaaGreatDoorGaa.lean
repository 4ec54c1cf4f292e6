/- The walk of CheckRouter. Conditions: the router lies in memory, addresses are numbers below 2^32. -/
import Derived.Test.YthcnojmldldpeaaGreatDoorGz
set_option maxHeartbeats 8000000
set_option maxRecDepth 100000
namespace Go.Proofs.YthcnojmldldpeaaGreatDoor
open Lib (hid)
open Go.RowKit
def redF(maps:List RMap)(into least most types:Int)(x:Rd):Int:=if zAb x.frm 1 5 && !(x.frm==into)&&zAb x.metric least most&&zAb x.tag 0 65535&&zAb x.typ (min 1 types) types then(if zAu (·.name) maps x.map then 5 else 0)else 1
def zCi(x y:Rd):Bool:=y.frm==x.frm
def redE(maps:List RMap)(into least most types:Int)(l:List Rd):Int:=pairE 4 (redF maps into least most types) zCi 4 l
theorem zCz(r:Rt)(l:List Rd)(v:Value)(into least most types:Int)(w:World)(B:Nat)(h:r.at w B)(hl:SlV w B 5 Rd.C v l)(hB:B≤w.heap.size):Calls Tryz.prog 91 #[.agg r.C,v,.int .i64 into,.int .i64 least,.int .i64 most,.int .i64 types] w fun e w' => e=.returned (.int .i64 (redE r.maps into least most types l))∧Below w.heap.size w w' := by
 have H0:=hid (RB.start r w);have HR:=hid h;have HLS:=hid hl;have HBB:=hid hB;obtain⟨A,c,hv,hle,-⟩:=hl;have HV:=hid hv;rw[hv];clear h hv hB;obtain⟨res,hres⟩:∃res,redE r.maps into least most types l=res:=⟨_,rfl⟩;rw[hres];by_cases h8:4<l.length
 ·have E:Hid (res=7):=hid (by rw[←hres];exact if_pos h8)
  clear hres;go_enter Tryz.func91,Tryz.ntmps91;go_wp2;go_ret;exact⟨zAc E.out.symm,H0.out.b⟩
 have d8:decide ((4:Int)<l.length)=false:=by simp;omega
 have E:Hid (zAt (redF r.maps into least most types) zCi 4 l l 0=res):=hid (by rw[←hres];exact(if_neg h8).symm);clear hres;go_enter Tryz.func91,Tryz.ntmps91;go_wp2_with fail;clear d8;go_loopg [22] l.length (fun gh ix wr=>∃k:Nat,k+gh=l.length∧ix=.int .i64 k∧Hid (RB r w wr)∧Hid (zAt (redF r.maps into least most types) zCi 4 l (l.drop k) k=res));case atStart=>exact⟨0,by omega,rfl,H0,E⟩
 case round=>
  obtain⟨k,hk,rfl,HW,HG⟩:=hrel;clear H0 E;by_cases hlt:k<l.length;case neg=>
   have E:=hid (zCb hlt HG.out);go_wp2;go_ret;exact⟨zAc E.out.symm,HW.out.b⟩
  have HAT:=hid (zCk hlt HG.out);obtain⟨g,o,c', e',-,hg,R0⟩:=(HLS.out).elem (n:=5) (by decide) (fun _=>rfl) hlt;rw[HV.out]at e';injection e' with e1 e2 e3
  subst e1 e3;have r1:=hid (zAf R0 (HW.out.b.mono HBB.out) hg);clear R0 HG e2;generalize l[k]=x at HAT r1;go_upto_region 6 with(first|(refine zAa rfl 149 _ rfl rfl r1.out Tryz.rowRd Tryz.sizeRd ?_)|(refine zAd rfl 149 _ _ rfl rfl rfl (HasC.new wr _ _) rfl Tryz.sizeRd (Rd.one x) ?_;intro w5 hz1 hz2))
  have H5:=hid (HW.out.keep (zAi hz2));have X5:=hz1;clear hz1 hz2 r1 HW;generalize wr.heap.size=gx at X5⊢;replace X5:=hid X5;have PE:Hid ((redF r.maps into least most types) x=if zAb x.frm 1 5 && !(x.frm==into)&&zAb x.metric least most&&zAb x.tag 0 65535&&zAb x.typ (min 1 types) types then(if zAu (·.name) r.maps x.map then 5 else 0)else 1):=hid rfl;obtain⟨xc0,xc1,xc2⟩:=bl3 X5.out;have xc3:w5.cell? ⟨gx,3,none⟩=some (.string (str x.map)):=X5.out.cell 3;have xc4:=cl4 X5.out;cases h1:zAb x.frm 1 5 with
  |false=>
   have F1:Hid ((redF r.maps into least most types) x=1):=hid (by rw[PE.out,h1];rfl);have E:Hid (res=1):=hid ((zBe HAT.out (by rw[F1.out];decide)).trans (F1.out));go_wp2_with (go_at_call 27;refine(zAr _ _ _ _).mono ?_;rintro e w' ⟨rfl,rfl⟩);go_ret;exact⟨zAc E.out.symm,H5.out.b⟩
  |true=>
  by_cases h2:x.frm=into
  ·have d2:(x.frm==into)=true:=by simpa using h2
   have F1:Hid ((redF r.maps into least most types) x=1):=hid (by rw[PE.out,h1,d2];rfl);clear h2;have E:Hid (res=1):=hid ((zBe HAT.out (by rw[F1.out];decide)).trans (F1.out));go_wp2_with (go_at_call 27;refine(zAr _ _ _ _).mono ?_;rintro e w' ⟨rfl,rfl⟩);go_ret;exact⟨zAc E.out.symm,H5.out.b⟩
  have d2:(x.frm==into)=false:=by simpa using h2
  clear h2;cases h3:zAb x.metric least most with
  |false=>
   have F1:Hid ((redF r.maps into least most types) x=1):=hid (by rw[PE.out,h1,d2,h3];rfl);have E:Hid (res=1):=hid ((zBe HAT.out (by rw[F1.out];decide)).trans (F1.out));go_wp2_with (go_at_call 27;refine(zAr _ _ _ _).mono ?_;rintro e w' ⟨rfl,rfl⟩);go_ret;exact⟨zAc E.out.symm,H5.out.b⟩
  |true=>
  cases h4:zAb x.tag 0 65535 with
  |false=>
   have F1:Hid ((redF r.maps into least most types) x=1):=hid (by rw[PE.out,h1,d2,h3,h4];rfl);have E:Hid (res=1):=hid ((zBe HAT.out (by rw[F1.out];decide)).trans (F1.out));go_wp2_with (go_at_call 27;refine(zAr _ _ _ _).mono ?_;rintro e w' ⟨rfl,rfl⟩);go_ret;exact⟨zAc E.out.symm,H5.out.b⟩
  |true=>
  cases h5:zAb x.typ (min 1 types) types with
  |false=>
   have F1:Hid ((redF r.maps into least most types) x=1):=hid (by rw[PE.out,h1,d2,h3,h4,h5];rfl);have E:Hid (res=1):=hid ((zBe HAT.out (by rw[F1.out];decide)).trans (F1.out));go_wp2_with (go_at_call 27;refine(zAr _ _ _ _).mono ?_;rintro e w' ⟨rfl,rfl⟩);go_ret;exact⟨zAc E.out.symm,H5.out.b⟩
  |true=>
  have PE2:Hid ((redF r.maps into least most types) x=if zAu (·.name) r.maps x.map then 5 else 0):=hid (by rw[PE.out,h1,d2,h3,h4,h5];rfl);by_cases hi:x.map=[]
  ·have F0:Hid ((redF r.maps into least most types) x=0):=hid (by rw[PE2.out,hi];rfl)
   have tn:(str x.map).toList=[]:=by rw[zAe,hi]
   clear hi PE PE2;have HAN:Hid (res=if(l.take k).any (zCi x)then 4 else zAt (redF r.maps into least most types) zCi 4 l (l.drop (k+1)) (k+1)):=hid (zDg HAT.out F0.out);clear HAT F0;go_wp2_with (go_at_call 27;refine(zAr _ _ _ _).mono ?_;rintro e w' ⟨rfl,rfl⟩);clear xc0 xc1 xc2 xc3 xc4 tn;go_loopg [74] k (fun gh ix wq=>∃j:Nat,j+gh=k∧ix=.int .i64 j∧Hid (RB r w wq)∧Hid (HasC 149 gx x.C wq)∧Hid ((l.take k).any (zCi x)=((l.take k).drop j).any (zCi x)));case atStart=>exact⟨0,by omega,rfl,H5,X5,hid rfl⟩
   case round=>
    obtain⟨j,hj,rfl,HQ,XQ,HAY⟩:=hrel;by_cases hjl:j<k;case neg=>
     have E:Hid (zAt (redF r.maps into least most types) zCi 4 l (l.drop (k+1)) (k+1)=res):=hid (zDt HAN.out HAY.out hjl).symm;go_wp2;go_roundg (l.length - (k+1));case measure=>omega
     case rel=>exact⟨k+1,by omega,by go_num,HQ,E⟩
    have hjn:j<l.length:=by omega
    obtain⟨g', o', c'', e',-,hg', R0⟩:=(HLS.out).elem (n:=5) (by decide) (fun _=>rfl) hjn;rw[HV.out]at e';injection e' with e1 e2 e3
    injection e1 with e1
    injection e1 with e1 e4
    subst e1 e4;have HST:=hid (zDr (all:=l) (p:=zCi x) hjl hjn);have r1:=hid (zAf R0 (HQ.out.b.mono HBB.out) hg');clear R0 e2 e3;generalize l[j]=y at HST r1;have hjk:(j:Int)<k:=by omega
    go_upto_region 13 with(first|(refine zAa rfl 149 _ rfl rfl r1.out Tryz.rowRd Tryz.sizeRd ?_)|(refine zAd rfl 149 _ _ rfl rfl rfl (HasC.new wr _ _) rfl Tryz.sizeRd (Rd.one y) ?_;intro w6 hz1 hz2))
    have H6:=hid (HQ.out.keep (zAi hz2));have X6:=hid (XQ.out.keep (zAi hz2));have Y6:=hz1;clear hz1 hz2 r1 HQ XQ;generalize wr.heap.size=gy at Y6⊢;replace Y6:=hid Y6;have xc0:=cl0 X6.out;have yc0:=cl0 Y6.out;have CC:Hid (zCi x y=(y.frm==x.frm)):=hid rfl;by_cases ha:y.frm=x.frm
    ·have da:(y.frm==x.frm)=true:=by simpa using ha
     have CD:Hid (zCi x y=true):=hid (by rw[CC.out,da]);clear ha;have E:Hid (res=4):=hid (zEp HAN.out HAY.out (by rw[HST.out,CD.out]));go_wp2;go_ret;exact⟨zAc E.out.symm,H6.out.b⟩
    have da:(y.frm==x.frm)=false:=by simpa using ha
    have CD:Hid (zCi x y=false):=hid (by rw[CC.out,da]);clear ha;have EN:Hid ((l.take k).any (zCi x)=((l.take k).drop (j+1)).any (zCi x)):=hid (zCo HAY.out (by rw[HST.out,CD.out]));go_wp2;go_roundg (k - (j+1));case measure=>omega
    case rel=>exact⟨j+1,by omega,by go_num,H6,X6,EN⟩
  obtain⟨i1,i2,i3⟩:=zCe hi;have PI:Hid (zAu (·.name) r.maps x.map=decide (idxF (fun y=>y.name==x.map) r.maps 0<0)):=hid (by unfold zAu;rw[i1];rfl);clear hi PE;go_wp2_with (first|(go_at_call 27;refine(zAr _ _ _ _).mono ?_;rintro e w' ⟨rfl,rfl⟩)|(refine zAj (by rfl) (zAa rfl 41 _ rfl rfl H5.out.h.range Tryz.rowRt Tryz.sizeRt ?_)));with_reducible refine(zFe r x.map w5 B (HR.out.below (H5.out.b.mono HBB.out)) (Nat.le_trans HBB.out H5.out.b.size)).mono ?_
  rintro e w7 ⟨rfl,hb⟩;have H7:=hid (H5.out.keep hb);have X7:=hid (X5.out.keep hb);clear hb H5 X5 i1 i2 i3 xc0 xc1 xc2 xc3 xc4;by_cases hd:idxF (fun y=>y.name==x.map) r.maps 0<0
  ·have di:=decide_eq_true hd
   have F1:Hid ((redF r.maps into least most types) x=5):=hid (by rw[PE2.out,PI.out,di];rfl);clear hd;have E:Hid (res=5):=hid ((zBe HAT.out (by rw[F1.out];decide)).trans (F1.out));go_wp2;go_ret;exact⟨zAc E.out.symm,H7.out.b⟩
  have di:=decide_eq_false hd;have F0:Hid ((redF r.maps into least most types) x=0):=hid (by rw[PE2.out,PI.out,di];rfl);clear hd PE2 PI;have HAN:Hid (res=if(l.take k).any (zCi x)then 4 else zAt (redF r.maps into least most types) zCi 4 l (l.drop (k+1)) (k+1)):=hid (zDg HAT.out F0.out);clear HAT F0;go_wp2;go_loopg [74] k (fun gh ix wq=>∃j:Nat,j+gh=k∧ix=.int .i64 j∧Hid (RB r w wq)∧Hid (HasC 149 gx x.C wq)∧Hid ((l.take k).any (zCi x)=((l.take k).drop j).any (zCi x)));case atStart=>exact⟨0,by omega,rfl,H7,X7,hid rfl⟩
  case round=>
   obtain⟨j,hj,rfl,HQ,XQ,HAY⟩:=hrel;by_cases hjl:j<k;case neg=>
    have E:Hid (zAt (redF r.maps into least most types) zCi 4 l (l.drop (k+1)) (k+1)=res):=hid (zDt HAN.out HAY.out hjl).symm;go_wp2;go_roundg (l.length - (k+1));case measure=>omega
    case rel=>exact⟨k+1,by omega,by go_num,HQ,E⟩
   have hjn:j<l.length:=by omega
   obtain⟨g', o', c'', e',-,hg', R0⟩:=(HLS.out).elem (n:=5) (by decide) (fun _=>rfl) hjn;rw[HV.out]at e';injection e' with e1 e2 e3
   injection e1 with e1
   injection e1 with e1 e4
   subst e1 e4;have HST:=hid (zDr (all:=l) (p:=zCi x) hjl hjn);have r1:=hid (zAf R0 (HQ.out.b.mono HBB.out) hg');clear R0 e2 e3;generalize l[j]=y at HST r1;have hjk:(j:Int)<k:=by omega
   go_upto_region 13 with(first|(refine zAa rfl 149 _ rfl rfl r1.out Tryz.rowRd Tryz.sizeRd ?_)|(refine zAd rfl 149 _ _ rfl rfl rfl (HasC.new wr _ _) rfl Tryz.sizeRd (Rd.one y) ?_;intro w6 hz1 hz2))
   have H6:=hid (HQ.out.keep (zAi hz2));have X6:=hid (XQ.out.keep (zAi hz2));have Y6:=hz1;clear hz1 hz2 r1 HQ XQ;generalize wr.heap.size=gy at Y6⊢;replace Y6:=hid Y6;have xc0:=cl0 X6.out;have yc0:=cl0 Y6.out;have CC:Hid (zCi x y=(y.frm==x.frm)):=hid rfl;by_cases ha:y.frm=x.frm
   ·have da:(y.frm==x.frm)=true:=by simpa using ha
    have CD:Hid (zCi x y=true):=hid (by rw[CC.out,da]);clear ha;have E:Hid (res=4):=hid (zEp HAN.out HAY.out (by rw[HST.out,CD.out]));go_wp2;go_ret;exact⟨zAc E.out.symm,H6.out.b⟩
   have da:(y.frm==x.frm)=false:=by simpa using ha
   have CD:Hid (zCi x y=false):=hid (by rw[CC.out,da]);clear ha;have EN:Hid ((l.take k).any (zCi x)=((l.take k).drop (j+1)).any (zCi x)):=hid (zCo HAY.out (by rw[HST.out,CD.out]));go_wp2;go_roundg (k - (j+1));case measure=>omega
   case rel=>exact⟨j+1,by omega,by go_num,H6,X6,EN⟩
def nbF(maps:List RMap)(x:Nb):Int:=if !(x.addr==0)&&zAb x.asn 1 65535 then(if zAu (·.name) maps x.inn||zAu (·.name) maps x.out then 5 else 0)else 1
def zBf(x y:Nb):Bool:=y.addr==x.addr
def nbsE(maps:List RMap)(l:List Nb):Int:=pairE 8 (nbF maps) zBf 4 l
theorem zIo(r:Rt)(w:World)(B:Nat)(h:r.at w B)(hB:B≤w.heap.size):Calls Tryz.prog 92 #[.agg r.C] w fun e w' => e=.returned (.int .i64 (nbsE r.maps r.nb))∧Below w.heap.size w w' := by
 have H0:=hid (RB.start r w);have HR:=hid h;have HBB:=hid hB;obtain⟨A,c,hv,hle,-⟩:=h.hnb;have HL:Hid (∀w', RB r w w' → w'.cell? ⟨w.heap.size,20,none⟩=some (.slice A r.nb.length c)):=hid (fun w' h=>by rw[←hv];exact h.h.cell 20);have HV:=hid hv;clear h hv hB;have c2:=HL.out _ H0.out;obtain⟨res,hres⟩:∃res,nbsE r.maps r.nb=res:=⟨_,rfl⟩;rw[hres];by_cases h8:8<r.nb.length
 ·have E:Hid (res=7):=hid (by rw[←hres];exact if_pos h8)
  clear hres;go_enter Tryz.func92,Tryz.ntmps92;go_wp2;go_ret;exact⟨zAc E.out.symm,H0.out.b⟩
 have d8:decide ((8:Int)<r.nb.length)=false:=by simp;omega
 have E:Hid (zAt (nbF r.maps) zBf 4 r.nb r.nb 0=res):=hid (by rw[←hres];exact(if_neg h8).symm);clear hres;go_enter Tryz.func92,Tryz.ntmps92;go_wp2_with fail;clear c2 d8;go_loopg [16] r.nb.length (fun gh ix wr=>∃k:Nat,k+gh=r.nb.length∧ix=.int .i64 k∧Hid (RB r w wr)∧Hid (zAt (nbF r.maps) zBf 4 r.nb (r.nb.drop k) k=res));case atStart=>exact⟨0,by omega,rfl,H0,E⟩
 case round=>
  obtain⟨k,hk,rfl,HW,HG⟩:=hrel;clear H0 E;by_cases hlt:k<r.nb.length;case neg=>
   have E:=hid (zCb hlt HG.out);go_wp2;go_ret;exact⟨zAc E.out.symm,HW.out.b⟩
  have HAT:=hid (zCk hlt HG.out);obtain⟨g,o,c', e',-,hg,R0⟩:=(HR.out.hnb).elem (n:=4) (by decide) (fun _=>rfl) hlt;rw[HV.out]at e';injection e' with e1 e2 e3
  subst e1 e3;have r1:=hid (zAf R0 (HW.out.b.mono HBB.out) hg);clear R0 HG e2;generalize r.nb[k]=x at HAT r1;go_upto_region 6 with(first|(refine zAa rfl 115 _ rfl rfl r1.out Tryz.rowNb Tryz.sizeNb ?_)|(refine zAd rfl 115 _ _ rfl rfl rfl (HasC.new wr _ _) rfl Tryz.sizeNb (Nb.one x) ?_;intro w5 hz1 hz2))
  have H5:=hid (HW.out.keep (zAi hz2));have X5:=hz1;clear hz1 hz2 r1 HW;generalize wr.heap.size=gx at X5⊢;replace X5:=hid X5;have PE:Hid ((nbF r.maps) x=if !(x.addr==0)&&zAb x.asn 1 65535 then(if zAu (·.name) r.maps x.inn||zAu (·.name) r.maps x.out then 5 else 0)else 1):=hid rfl;obtain⟨xc0,xc1⟩:=bl2 X5.out;by_cases h1:x.addr=0
  ·have d1:(x.addr==0)=true:=by simpa using h1
   have d1b:((x.addr:Int)==0)=true:=by simp;omega
   have F1:Hid ((nbF r.maps) x=1):=hid (by rw[PE.out,d1];rfl);clear h1;have E:Hid (res=1):=hid ((zBe HAT.out (by rw[F1.out];decide)).trans (F1.out));go_wp2_with (go_at_call 27;refine(zAr _ _ _ _).mono ?_;rintro e w' ⟨rfl,rfl⟩);go_ret;exact⟨zAc E.out.symm,H5.out.b⟩
  have d1:(x.addr==0)=false:=by simpa using h1
  have d1b:((x.addr:Int)==0)=false:=by simp;omega
  clear h1;cases h2:zAb x.asn 1 65535 with
  |false=>
   have F1:Hid ((nbF r.maps) x=1):=hid (by rw[PE.out,d1,h2];rfl);have E:Hid (res=1):=hid ((zBe HAT.out (by rw[F1.out];decide)).trans (F1.out));go_wp2_with (go_at_call 27;refine(zAr _ _ _ _).mono ?_;rintro e w' ⟨rfl,rfl⟩);go_ret;exact⟨zAc E.out.symm,H5.out.b⟩
  |true=>
  have PE2:Hid ((nbF r.maps) x=if zAu (·.name) r.maps x.inn||zAu (·.name) r.maps x.out then 5 else 0):=hid (by rw[PE.out,d1,h2];rfl);clear PE;by_cases hi:x.inn=[]
  ·have tn:(str x.inn).toList=[]:=by rw[zAe,hi]
   have EI:Hid (zAu (·.name) r.maps x.inn=false):=hid (by rw[hi];rfl);clear hi;have xc2:w5.cell? ⟨gx,2,none⟩=some (.string (str x.inn)):=X5.out.cell 2;have xc3:w5.cell? ⟨gx,3,none⟩=some (.string (str x.out)):=X5.out.cell 3;by_cases ho:x.out=[]
   ·have tno:(str x.out).toList=[]:=by rw[zAe,ho]
    have F0:Hid ((nbF r.maps) x=0):=hid (by rw[PE2.out,EI.out,ho];rfl);clear ho PE2 EI;have HAN:Hid (res=if(r.nb.take k).any (zBf x)then 4 else zAt (nbF r.maps) zBf 4 r.nb (r.nb.drop (k+1)) (k+1)):=hid (zDg HAT.out F0.out);clear HAT F0;have c2:=HL.out _ H5.out;go_wp2_with (go_at_call 27;refine(zAr _ _ _ _).mono ?_;rintro e w' ⟨rfl,rfl⟩);clear c2;go_loopg [58] k (fun gh ix wq=>∃j:Nat,j+gh=k∧ix=.int .i64 j∧Hid (RB r w wq)∧Hid (HasC 115 gx x.C wq)∧Hid ((r.nb.take k).any (zBf x)=((r.nb.take k).drop j).any (zBf x)));case atStart=>exact⟨0,by omega,rfl,H5,X5,hid rfl⟩
    case round=>
     obtain⟨j,hj,rfl,HQ,XQ,HAY⟩:=hrel;by_cases hjl:j<k;case neg=>
      have E:Hid (zAt (nbF r.maps) zBf 4 r.nb (r.nb.drop (k+1)) (k+1)=res):=hid (zDt HAN.out HAY.out hjl).symm;go_wp2;go_roundg (r.nb.length - (k+1));case measure=>omega
      case rel=>exact⟨k+1,by omega,by go_num,HQ,E⟩
     have hjn:j<r.nb.length:=by omega
     obtain⟨g', o', c'', e',-,hg', R0⟩:=(HR.out.hnb).elem (n:=4) (by decide) (fun _=>rfl) hjn;rw[HV.out]at e';injection e' with e1 e2 e3
     injection e1 with e1
     injection e1 with e1 e4
     subst e1 e4;have HST:=hid (zDr (all:=r.nb) (p:=zBf x) hjl hjn);have r1:=hid (zAf R0 (HQ.out.b.mono HBB.out) hg');clear R0 e2 e3;generalize r.nb[j]=y at HST r1;have hjk:(j:Int)<k:=by omega
     go_upto_region 13 with(first|(refine zAa rfl 115 _ rfl rfl r1.out Tryz.rowNb Tryz.sizeNb ?_)|(refine zAd rfl 115 _ _ rfl rfl rfl (HasC.new wr _ _) rfl Tryz.sizeNb (Nb.one y) ?_;intro w6 hz1 hz2))
     have H6:=hid (HQ.out.keep (zAi hz2));have X6:=hid (XQ.out.keep (zAi hz2));have Y6:=hz1;clear hz1 hz2 r1 HQ XQ;generalize wr.heap.size=gy at Y6⊢;replace Y6:=hid Y6;have xc0:=cl0 X6.out;have yc0:=cl0 Y6.out;have CC:Hid (zBf x y=(y.addr==x.addr)):=hid rfl;by_cases ha:y.addr=x.addr
     ·have da:((y.addr:Int)==(x.addr:Int))=true:=by rw[ha];simp
      have CD:Hid (zBf x y=true):=hid (by rw[CC.out,ha];simp);clear ha;have E:Hid (res=4):=hid (zEp HAN.out HAY.out (by rw[HST.out,CD.out]));go_wp2;go_ret;exact⟨zAc E.out.symm,H6.out.b⟩
     have da:((y.addr:Int)==(x.addr:Int))=false:=by simp;omega
     have CD:Hid (zBf x y=false):=hid (by rw[CC.out];simpa using ha);clear ha;have EN:Hid ((r.nb.take k).any (zBf x)=((r.nb.take k).drop (j+1)).any (zBf x)):=hid (zCo HAY.out (by rw[HST.out,CD.out]));go_wp2;go_roundg (k - (j+1));case measure=>omega
     case rel=>exact⟨j+1,by omega,by go_num,H6,X6,EN⟩
   obtain⟨o1,o2,o3⟩:=zCe ho;have PO:Hid (zAu (·.name) r.maps x.out=decide (idxF (fun y=>y.name==x.out) r.maps 0<0)):=hid (by unfold zAu;rw[o1];rfl);clear ho;go_wp2_with (first|(go_at_call 27;refine(zAr _ _ _ _).mono ?_;rintro e w' ⟨rfl,rfl⟩)|(refine zAj (by rfl) (zAa rfl 41 _ rfl rfl H5.out.h.range Tryz.rowRt Tryz.sizeRt ?_)));with_reducible refine(zFe r x.out w5 B (HR.out.below (H5.out.b.mono HBB.out)) (Nat.le_trans HBB.out H5.out.b.size)).mono ?_
   rintro e w9 ⟨rfl,hb⟩;have H9:=hid (H5.out.keep hb);have X9:=hid (X5.out.keep hb);clear hb ;by_cases hd:idxF (fun y=>y.name==x.out) r.maps 0<0
   ·have di:=decide_eq_true hd
    have F1:Hid ((nbF r.maps) x=5):=hid (by rw[PE2.out,EI.out,PO.out,di];rfl);clear hd;have E:Hid (res=5):=hid ((zBe HAT.out (by rw[F1.out];decide)).trans (F1.out));go_wp2;go_ret;exact⟨zAc E.out.symm,H9.out.b⟩
   have di2:=decide_eq_false hd;have F0:Hid ((nbF r.maps) x=0):=hid (by rw[PE2.out,EI.out,PO.out,di2];rfl);clear hd PE2 EI PO;have HAN:Hid (res=if(r.nb.take k).any (zBf x)then 4 else zAt (nbF r.maps) zBf 4 r.nb (r.nb.drop (k+1)) (k+1)):=hid (zDg HAT.out F0.out);clear HAT F0;have c2:=HL.out _ H9.out;go_wp2_with fail;clear c2;go_loopg [58] k (fun gh ix wq=>∃j:Nat,j+gh=k∧ix=.int .i64 j∧Hid (RB r w wq)∧Hid (HasC 115 gx x.C wq)∧Hid ((r.nb.take k).any (zBf x)=((r.nb.take k).drop j).any (zBf x)));case atStart=>exact⟨0,by omega,rfl,H9,X9,hid rfl⟩
   case round=>
    obtain⟨j,hj,rfl,HQ,XQ,HAY⟩:=hrel;by_cases hjl:j<k;case neg=>
     have E:Hid (zAt (nbF r.maps) zBf 4 r.nb (r.nb.drop (k+1)) (k+1)=res):=hid (zDt HAN.out HAY.out hjl).symm;go_wp2;go_roundg (r.nb.length - (k+1));case measure=>omega
     case rel=>exact⟨k+1,by omega,by go_num,HQ,E⟩
    have hjn:j<r.nb.length:=by omega
    obtain⟨g', o', c'', e',-,hg', R0⟩:=(HR.out.hnb).elem (n:=4) (by decide) (fun _=>rfl) hjn;rw[HV.out]at e';injection e' with e1 e2 e3
    injection e1 with e1
    injection e1 with e1 e4
    subst e1 e4;have HST:=hid (zDr (all:=r.nb) (p:=zBf x) hjl hjn);have r1:=hid (zAf R0 (HQ.out.b.mono HBB.out) hg');clear R0 e2 e3;generalize r.nb[j]=y at HST r1;have hjk:(j:Int)<k:=by omega
    go_upto_region 13 with(first|(refine zAa rfl 115 _ rfl rfl r1.out Tryz.rowNb Tryz.sizeNb ?_)|(refine zAd rfl 115 _ _ rfl rfl rfl (HasC.new wr _ _) rfl Tryz.sizeNb (Nb.one y) ?_;intro w6 hz1 hz2))
    have H6:=hid (HQ.out.keep (zAi hz2));have X6:=hid (XQ.out.keep (zAi hz2));have Y6:=hz1;clear hz1 hz2 r1 HQ XQ;generalize wr.heap.size=gy at Y6⊢;replace Y6:=hid Y6;have xc0:=cl0 X6.out;have yc0:=cl0 Y6.out;have CC:Hid (zBf x y=(y.addr==x.addr)):=hid rfl;by_cases ha:y.addr=x.addr
    ·have da:((y.addr:Int)==(x.addr:Int))=true:=by rw[ha];simp
     have CD:Hid (zBf x y=true):=hid (by rw[CC.out,ha];simp);clear ha;have E:Hid (res=4):=hid (zEp HAN.out HAY.out (by rw[HST.out,CD.out]));go_wp2;go_ret;exact⟨zAc E.out.symm,H6.out.b⟩
    have da:((y.addr:Int)==(x.addr:Int))=false:=by simp;omega
    have CD:Hid (zBf x y=false):=hid (by rw[CC.out];simpa using ha);clear ha;have EN:Hid ((r.nb.take k).any (zBf x)=((r.nb.take k).drop (j+1)).any (zBf x)):=hid (zCo HAY.out (by rw[HST.out,CD.out]));go_wp2;go_roundg (k - (j+1));case measure=>omega
    case rel=>exact⟨j+1,by omega,by go_num,H6,X6,EN⟩
  obtain⟨i1,i2,i3⟩:=zCe hi;have PI:Hid (zAu (·.name) r.maps x.inn=decide (idxF (fun y=>y.name==x.inn) r.maps 0<0)):=hid (by unfold zAu;rw[i1];rfl);clear hi;have xc2:w5.cell? ⟨gx,2,none⟩=some (.string (str x.inn)):=X5.out.cell 2;have xc3:w5.cell? ⟨gx,3,none⟩=some (.string (str x.out)):=X5.out.cell 3;go_wp2_with (first|(go_at_call 27;refine(zAr _ _ _ _).mono ?_;rintro e w' ⟨rfl,rfl⟩)|(refine zAj (by rfl) (zAa rfl 41 _ rfl rfl H5.out.h.range Tryz.rowRt Tryz.sizeRt ?_)));with_reducible refine(zFe r x.inn w5 B (HR.out.below (H5.out.b.mono HBB.out)) (Nat.le_trans HBB.out H5.out.b.size)).mono ?_
  rintro e w8 ⟨rfl,hb⟩;have H8:=hid (H5.out.keep hb);have X8:=hid (X5.out.keep hb);clear hb ;by_cases hd:idxF (fun y=>y.name==x.inn) r.maps 0<0
  ·have di:=decide_eq_true hd
   have F1:Hid ((nbF r.maps) x=5):=hid (by rw[PE2.out,PI.out,di];rfl);clear hd;have E:Hid (res=5):=hid ((zBe HAT.out (by rw[F1.out];decide)).trans (F1.out));go_wp2;go_ret;exact⟨zAc E.out.symm,H8.out.b⟩
  have di:=decide_eq_false hd;have EI:Hid (zAu (·.name) r.maps x.inn=false):=hid (by rw[PI.out,di]);clear hd PI;have xc2:w8.cell? ⟨gx,2,none⟩=some (.string (str x.inn)):=X8.out.cell 2;have xc3:w8.cell? ⟨gx,3,none⟩=some (.string (str x.out)):=X8.out.cell 3;by_cases ho:x.out=[]
  ·have tno:(str x.out).toList=[]:=by rw[zAe,ho]
   have F0:Hid ((nbF r.maps) x=0):=hid (by rw[PE2.out,EI.out,ho];rfl);clear ho PE2 EI;have HAN:Hid (res=if(r.nb.take k).any (zBf x)then 4 else zAt (nbF r.maps) zBf 4 r.nb (r.nb.drop (k+1)) (k+1)):=hid (zDg HAT.out F0.out);clear HAT F0;have c2:=HL.out _ H8.out;go_wp2_with fail;clear c2;go_loopg [58] k (fun gh ix wq=>∃j:Nat,j+gh=k∧ix=.int .i64 j∧Hid (RB r w wq)∧Hid (HasC 115 gx x.C wq)∧Hid ((r.nb.take k).any (zBf x)=((r.nb.take k).drop j).any (zBf x)));case atStart=>exact⟨0,by omega,rfl,H8,X8,hid rfl⟩
   case round=>
    obtain⟨j,hj,rfl,HQ,XQ,HAY⟩:=hrel;by_cases hjl:j<k;case neg=>
     have E:Hid (zAt (nbF r.maps) zBf 4 r.nb (r.nb.drop (k+1)) (k+1)=res):=hid (zDt HAN.out HAY.out hjl).symm;go_wp2;go_roundg (r.nb.length - (k+1));case measure=>omega
     case rel=>exact⟨k+1,by omega,by go_num,HQ,E⟩
    have hjn:j<r.nb.length:=by omega
    obtain⟨g', o', c'', e',-,hg', R0⟩:=(HR.out.hnb).elem (n:=4) (by decide) (fun _=>rfl) hjn;rw[HV.out]at e';injection e' with e1 e2 e3
    injection e1 with e1
    injection e1 with e1 e4
    subst e1 e4;have HST:=hid (zDr (all:=r.nb) (p:=zBf x) hjl hjn);have r1:=hid (zAf R0 (HQ.out.b.mono HBB.out) hg');clear R0 e2 e3;generalize r.nb[j]=y at HST r1;have hjk:(j:Int)<k:=by omega
    go_upto_region 13 with(first|(refine zAa rfl 115 _ rfl rfl r1.out Tryz.rowNb Tryz.sizeNb ?_)|(refine zAd rfl 115 _ _ rfl rfl rfl (HasC.new wr _ _) rfl Tryz.sizeNb (Nb.one y) ?_;intro w6 hz1 hz2))
    have H6:=hid (HQ.out.keep (zAi hz2));have X6:=hid (XQ.out.keep (zAi hz2));have Y6:=hz1;clear hz1 hz2 r1 HQ XQ;generalize wr.heap.size=gy at Y6⊢;replace Y6:=hid Y6;have xc0:=cl0 X6.out;have yc0:=cl0 Y6.out;have CC:Hid (zBf x y=(y.addr==x.addr)):=hid rfl;by_cases ha:y.addr=x.addr
    ·have da:((y.addr:Int)==(x.addr:Int))=true:=by rw[ha];simp
     have CD:Hid (zBf x y=true):=hid (by rw[CC.out,ha];simp);clear ha;have E:Hid (res=4):=hid (zEp HAN.out HAY.out (by rw[HST.out,CD.out]));go_wp2;go_ret;exact⟨zAc E.out.symm,H6.out.b⟩
    have da:((y.addr:Int)==(x.addr:Int))=false:=by simp;omega
    have CD:Hid (zBf x y=false):=hid (by rw[CC.out];simpa using ha);clear ha;have EN:Hid ((r.nb.take k).any (zBf x)=((r.nb.take k).drop (j+1)).any (zBf x)):=hid (zCo HAY.out (by rw[HST.out,CD.out]));go_wp2;go_roundg (k - (j+1));case measure=>omega
    case rel=>exact⟨j+1,by omega,by go_num,H6,X6,EN⟩
  obtain⟨o1,o2,o3⟩:=zCe ho;have PO:Hid (zAu (·.name) r.maps x.out=decide (idxF (fun y=>y.name==x.out) r.maps 0<0)):=hid (by unfold zAu;rw[o1];rfl);clear ho;go_wp2_with (first|fail|(refine zAj (by rfl) (zAa rfl 41 _ rfl rfl H8.out.h.range Tryz.rowRt Tryz.sizeRt ?_)));with_reducible refine(zFe r x.out w8 B (HR.out.below (H8.out.b.mono HBB.out)) (Nat.le_trans HBB.out H8.out.b.size)).mono ?_
  rintro e w9 ⟨rfl,hb⟩;have H9:=hid (H8.out.keep hb);have X9:=hid (X8.out.keep hb);clear hb ;by_cases hd:idxF (fun y=>y.name==x.out) r.maps 0<0
  ·have di:=decide_eq_true hd
   have F1:Hid ((nbF r.maps) x=5):=hid (by rw[PE2.out,EI.out,PO.out,di];rfl);clear hd;have E:Hid (res=5):=hid ((zBe HAT.out (by rw[F1.out];decide)).trans (F1.out));go_wp2;go_ret;exact⟨zAc E.out.symm,H9.out.b⟩
  have di2:=decide_eq_false hd;have F0:Hid ((nbF r.maps) x=0):=hid (by rw[PE2.out,EI.out,PO.out,di2];rfl);clear hd PE2 EI PO;have HAN:Hid (res=if(r.nb.take k).any (zBf x)then 4 else zAt (nbF r.maps) zBf 4 r.nb (r.nb.drop (k+1)) (k+1)):=hid (zDg HAT.out F0.out);clear HAT F0;have c2:=HL.out _ H9.out;go_wp2_with fail;clear c2;go_loopg [58] k (fun gh ix wq=>∃j:Nat,j+gh=k∧ix=.int .i64 j∧Hid (RB r w wq)∧Hid (HasC 115 gx x.C wq)∧Hid ((r.nb.take k).any (zBf x)=((r.nb.take k).drop j).any (zBf x)));case atStart=>exact⟨0,by omega,rfl,H9,X9,hid rfl⟩
  case round=>
   obtain⟨j,hj,rfl,HQ,XQ,HAY⟩:=hrel;by_cases hjl:j<k;case neg=>
    have E:Hid (zAt (nbF r.maps) zBf 4 r.nb (r.nb.drop (k+1)) (k+1)=res):=hid (zDt HAN.out HAY.out hjl).symm;go_wp2;go_roundg (r.nb.length - (k+1));case measure=>omega
    case rel=>exact⟨k+1,by omega,by go_num,HQ,E⟩
   have hjn:j<r.nb.length:=by omega
   obtain⟨g', o', c'', e',-,hg', R0⟩:=(HR.out.hnb).elem (n:=4) (by decide) (fun _=>rfl) hjn;rw[HV.out]at e';injection e' with e1 e2 e3
   injection e1 with e1
   injection e1 with e1 e4
   subst e1 e4;have HST:=hid (zDr (all:=r.nb) (p:=zBf x) hjl hjn);have r1:=hid (zAf R0 (HQ.out.b.mono HBB.out) hg');clear R0 e2 e3;generalize r.nb[j]=y at HST r1;have hjk:(j:Int)<k:=by omega
   go_upto_region 13 with(first|(refine zAa rfl 115 _ rfl rfl r1.out Tryz.rowNb Tryz.sizeNb ?_)|(refine zAd rfl 115 _ _ rfl rfl rfl (HasC.new wr _ _) rfl Tryz.sizeNb (Nb.one y) ?_;intro w6 hz1 hz2))
   have H6:=hid (HQ.out.keep (zAi hz2));have X6:=hid (XQ.out.keep (zAi hz2));have Y6:=hz1;clear hz1 hz2 r1 HQ XQ;generalize wr.heap.size=gy at Y6⊢;replace Y6:=hid Y6;have xc0:=cl0 X6.out;have yc0:=cl0 Y6.out;have CC:Hid (zBf x y=(y.addr==x.addr)):=hid rfl;by_cases ha:y.addr=x.addr
   ·have da:((y.addr:Int)==(x.addr:Int))=true:=by rw[ha];simp
    have CD:Hid (zBf x y=true):=hid (by rw[CC.out,ha];simp);clear ha;have E:Hid (res=4):=hid (zEp HAN.out HAY.out (by rw[HST.out,CD.out]));go_wp2;go_ret;exact⟨zAc E.out.symm,H6.out.b⟩
   have da:((y.addr:Int)==(x.addr:Int))=false:=by simp;omega
   have CD:Hid (zBf x y=false):=hid (by rw[CC.out];simpa using ha);clear ha;have EN:Hid ((r.nb.take k).any (zBf x)=((r.nb.take k).drop (j+1)).any (zBf x)):=hid (zCo HAY.out (by rw[HST.out,CD.out]));go_wp2;go_roundg (k - (j+1));case measure=>omega
   case rel=>exact⟨j+1,by omega,by go_num,H6,X6,EN⟩
theorem HasC.subM{T:TypeId}{g:Nat}{cs:Array Value}{w:World}(h:HasC T g cs w)(f:Nat)(ds:Array Value)(hd:∀j,j<ds.size→cs[f+j]? = ds[j]?):w.rangeAt g f ds.toList:=fun j v hv=>by
 rw[h.cell (f+j)]
 have hj:j<ds.size:=by
  rcases Nat.lt_or_ge j ds.size with h|h
  ·exact h
  ·rw[List.getElem?_eq_none (by simpa using h)]at hv;cases hv
 rw[hd j hj];simpa using hv
structure RBL (r:Rt) (w0:World) (T:TypeId) (gl:Nat) (cs:Array Value) (w:World):Prop where
 h:HasC 41 w0.heap.size r.C w
 b:Below w0.heap.size w0 w
 l:HasC T gl cs w
theorem RBL.keep{r:Rt}{w0:World}{T:TypeId}{gl:Nat}{cs:Array Value}{w w' : World}(h:RBL r w0 T gl cs w)(hb:Below w.heap.size w w'):RBL r w0 T gl cs w' := ⟨h.h.keep hb,h.b.trans (hb.mono h.b.size),h.l.keep hb⟩
theorem zEq{res pg X e:Int}(h:res=if pg=0 then X else pg)(h1:pg=e)(h2:e≠0):res=e:=by rw[h,if_neg (by rw[h1];exact h2),h1]
theorem fin_ok{res pg X:Int}(h:res=if pg=0 then X else pg)(h1:pg=0):res=X:=by rw[h,if_pos h1]
theorem Tryz.rowLS:(Tryz.prog.underlying 31).map TypeDesc.isRow=some true:=by kernel_rfl
theorem Tryz.sizeLS:(Tryz.prog.info? 31).map (·.size)=some 4:=by kernel_rfl
def zBl(x y:AR):Bool:=y.area==x.area&&overP y.pa y.pl x.pa x.pl
def arF(x:AR):Int:=if zAb x.area 0 255&&zAv x.pa x.pl then 0 else 1
def lnkE(r:Rt):Int:=if r.lsOn then(if zAb r.lsAdmin 1 255 then(if pairE 4 arF zBl 6 r.ranges=0 then redE r.maps 3 0 16777215 2 r.lsRed else pairE 4 arF zBl 6 r.ranges)else 1)else if !(r.lsAdmin==0)||decide ((0:Int)<r.ranges.length)||decide ((0:Int)<r.lsRed.length)then 1 else 0
theorem zIe(r:Rt)(w:World)(B:Nat)(h:r.at w B)(hB:B≤w.heap.size)(hf:∀x∈r.ranges,x.fit):Calls Tryz.prog 35 #[.agg r.C] w fun e w' => e=.returned (.int .i64 (lnkE r))∧Below w.heap.size w w' := by
 have H0:=RB.start r w;have HR:=hid h;have HBB:=hid hB;have HF:=hid hf;clear hf;obtain⟨A,c,hv,hle,-⟩:=h.hranges;obtain⟨A2,c2,hv2,hle2,-⟩:=h.hlsRed;have HV:=hid hv;have HLR:=h.hlsRed;rw[hv2]at HLR;replace HLR:=hid HLR;clear h hB
 have HO:(#[.bool r.lsOn,.int .i64 r.lsAdmin,.slice A r.ranges.length c,.slice A2 r.lsRed.length c2]:Array Value).all (·.oneCell')=true:=by
  rw[Array.all_eq_true_iff_forall_mem];intro v hv;simp only[List.mem_toArray,List.mem_cons,List.not_mem_nil,or_false]at hv;rcases hv with rfl|rfl|rfl|rfl<;>rfl
 have HS:(w.alloc (.cells r.C 41)).rangeAt w.heap.size 8 (#[.bool r.lsOn,.int .i64 r.lsAdmin,.slice A r.ranges.length c,.slice A2 r.lsRed.length c2]:Array Value).toList:=H0.h.subM 8 #[.bool r.lsOn,.int .i64 r.lsAdmin,.slice A r.ranges.length c,.slice A2 r.lsRed.length c2] (fun j hj=>by
  have hj' : j<4:=hj
  rcases(show j=0∨j=1∨j=2∨j=3 by omega)with rfl|rfl|rfl|rfl<;>first|rfl|(show some _=some _;simp only[Option.some.injEq];assumption))
 clear hv hv2;have E:Hid (lnkE r=if r.lsOn then(if zAb r.lsAdmin 1 255 then(if pairE 4 arF zBl 6 r.ranges=0 then redE r.maps 3 0 16777215 2 r.lsRed else pairE 4 arF zBl 6 r.ranges)else 1)else if !(r.lsAdmin==0)||decide ((0:Int)<r.ranges.length)||decide ((0:Int)<r.lsRed.length)then 1 else 0):=hid rfl;generalize lnkE r=res at E⊢;have H0h:=hid H0;have HSh:=hid HS;clear H0 HS;go_enter Tryz.func35,Tryz.ntmps35;go_upto_region 2 with(refine zAa rfl 31 _ rfl rfl HSh.out Tryz.rowLS Tryz.sizeLS ?_)
 have H5:Hid (RBL r w 31 (w.alloc (.cells r.C 41)).heap.size #[.bool r.lsOn,.int .i64 r.lsAdmin,.slice A r.ranges.length c,.slice A2 r.lsRed.length c2] ((w.alloc (.cells r.C 41)).alloc (.cells #[.bool r.lsOn,.int .i64 r.lsAdmin,.slice A r.ranges.length c,.slice A2 r.lsRed.length c2] 31))):=hid ⟨(H0h.out.keep ((Below.refl _ _).alloc (Nat.le_refl _) _)).h,(H0h.out.keep ((Below.refl _ _).alloc (Nat.le_refl _) _)).b,HasC.new _ _ _⟩;clear H0h HSh HO;generalize hw5:(w.alloc (.cells r.C 41)).alloc (.cells #[.bool r.lsOn,.int .i64 r.lsAdmin,.slice A r.ranges.length c,.slice A2 r.lsRed.length c2] 31)=w5 at H5⊢;clear hw5;rw[show(w.alloc (.cells r.C 41)).heap.size=w.heap.size+1 from by simp]at H5;generalize w.heap.size+1=gl at H5⊢;obtain⟨lc0,lc1,lc2,lc3⟩:=bl4 H5.out.l;have HC2:Hid (∀w', RBL r w 31 gl #[.bool r.lsOn,.int .i64 r.lsAdmin,.slice A r.ranges.length c,.slice A2 r.lsRed.length c2] w' → w'.cell? ⟨gl,2,none⟩=some (.slice A r.ranges.length c)):=hid (fun w' h=>h.l.cell 2);have HC3:Hid (∀w', RBL r w 31 gl #[.bool r.lsOn,.int .i64 r.lsAdmin,.slice A r.ranges.length c,.slice A2 r.lsRed.length c2] w' → w'.cell? ⟨gl,3,none⟩=some (.slice A2 r.lsRed.length c2)):=hid (fun w' h=>h.l.cell 3);generalize (#[.bool r.lsOn,.int .i64 r.lsAdmin,.slice A r.ranges.length c,.slice A2 r.lsRed.length c2]:Array Value)=cs at H5 HC2 HC3;cases hon:r.lsOn with
 |false=>
  rw[hon]at lc0;have EF:Hid (res=if !(r.lsAdmin==0)||decide ((0:Int)<r.ranges.length)||decide ((0:Int)<r.lsRed.length)then 1 else 0):=hid (by rw[E.out,hon];rfl);clear hon E;by_cases ha:r.lsAdmin=0;case neg=>
   have d1:(r.lsAdmin==0)=false:=by simpa using ha
   have d2:(r.lsAdmin != 0)=true:=by simpa using ha
   clear ha;go_wp2;go_ret;exact⟨zAc (by rw[EF.out,d1];rfl),H5.out.b⟩
  rw[ha]at lc1;have EF2:Hid (res=if decide ((0:Int)<r.ranges.length)||decide ((0:Int)<r.lsRed.length)then 1 else 0):=hid (by rw[EF.out,ha];rfl);clear ha EF;clear HR HF HV HLR;generalize r.ranges.length=n1 at *;generalize r.lsRed.length=n2 at *;by_cases z1:n1=0;case neg=>
   have z1' : 0<n1:=by omega
   go_wp2_with fail
   all_goals (go_ret;exact⟨zAc (by rw[EF2.out,decide_eq_true (show(0:Int)<n1 by omega)];rfl),H5.out.b⟩)
  subst z1;by_cases z2:n2=0;case neg=>
   have z2' : 0<n2:=by omega
   go_wp2_with fail
   all_goals (go_ret;exact⟨zAc (by rw[EF2.out,decide_eq_true (show(0:Int)<n2 by omega)];rfl),H5.out.b⟩)
  subst z2;go_wp2;go_ret;exact⟨zAc (by rw[EF2.out];rfl),H5.out.b⟩
 |true=>
 rw[hon]at lc0;have ET:Hid (res=if zAb r.lsAdmin 1 255 then(if pairE 4 arF zBl 6 r.ranges=0 then redE r.maps 3 0 16777215 2 r.lsRed else pairE 4 arF zBl 6 r.ranges)else 1):=hid (by rw[E.out,hon];rfl);clear hon E;cases hw:zAb r.lsAdmin 1 255 with
 |false=>
  go_wp2_with (go_at_call 27;refine(zAr _ _ _ _).mono ?_;rintro e w' ⟨rfl,rfl⟩);go_ret;exact⟨zAc (by rw[ET.out,hw];rfl),H5.out.b⟩
 |true=>
 obtain⟨pg,hpg⟩:∃pg,pairE 4 arF zBl 6 r.ranges=pg:=⟨_,rfl⟩;have HP:Hid (res=if pg=0 then redE r.maps 3 0 16777215 2 r.lsRed else pg):=hid (by rw[ET.out,hw,hpg];rfl);clear ET;by_cases h8:4<r.ranges.length
 ·have E:Hid (pg=7):=hid (by rw[←hpg];exact if_pos h8)
  have E2:=hid (zEq HP.out E.out (by decide));have d8:decide ((4:Int)<r.ranges.length)=true:=by simp;omega
  clear hpg;go_wp2_with (go_at_call 27;refine(zAr _ _ _ _).mono ?_;rintro e w' ⟨rfl,rfl⟩);go_ret;exact⟨zAc E2.out.symm,H5.out.b⟩
 have d8:decide ((4:Int)<r.ranges.length)=false:=by simp;omega
 have E:Hid (zAt arF zBl 6 r.ranges r.ranges 0=pg):=hid (by rw[←hpg];exact(if_neg h8).symm);clear hpg;have H0:=H5;go_wp2_with (go_at_call 27;refine(zAr _ _ _ _).mono ?_;rintro e w' ⟨rfl,rfl⟩);clear d8 hw lc0 lc1 lc2 lc3 H5;go_loopg [39] r.ranges.length (fun gh ix wr=>∃k:Nat,k+gh=r.ranges.length∧ix=.int .i64 k∧Hid ((RBL r w 31 gl cs) wr)∧Hid (zAt arF zBl 6 r.ranges (r.ranges.drop k) k=pg));case atStart=>exact⟨0,by omega,rfl,H0,E⟩
 case round=>
  obtain⟨k,hk,rfl,HW,HG⟩:=hrel;clear H0 E;by_cases hlt:k<r.ranges.length;case neg=>
   have E:=hid (zCb hlt HG.out);have E2:=hid (fin_ok HP.out E.out);have l3:=HC3.out _ HW.out;go_wp2_with (first|(refine zAa rfl 41 _ rfl rfl HW.out.h.range Tryz.rowRt Tryz.sizeRt ?_));with_reducible refine(zCz r r.lsRed (.slice A2 r.lsRed.length c2) 3 0 16777215 2 _ B (HR.out.below (HW.out.b.mono HBB.out)) (HLR.out.below (HW.out.b.mono HBB.out)) (Nat.le_trans HBB.out HW.out.b.size)).mono ?_
   rintro e w9 ⟨rfl,hb⟩;have H9:=hid (HW.out.keep hb);clear hb;go_wp2;go_ret;exact⟨zAc E2.out.symm,H9.out.b⟩
  have HAT:=hid (zCk hlt HG.out);obtain⟨g,o,c', e',-,hg,R0⟩:=(HR.out.hranges).elem (n:=3) (by decide) (fun _=>rfl) hlt;rw[HV.out]at e';injection e' with e1 e2 e3
  subst e1 e3;have r1:=hid (zAf R0 (HW.out.b.mono HBB.out) hg);have FX:=hid (HF.out _ (List.getElem_mem hlt));clear R0 HG e2;generalize r.ranges[k]=x at HAT r1 FX;go_upto_region 13 with(first|(refine zAa rfl 112 _ rfl rfl r1.out Tryz.rowAR Tryz.sizeAR ?_)|(refine zAd rfl 112 _ _ rfl rfl rfl (HasC.new wr _ _) rfl Tryz.sizeAR (AR.one x) ?_;intro w5 hz1 hz2))
  have H5:=hid (HW.out.keep (zAi hz2));have X5:=hz1;clear hz1 hz2 r1 HW;generalize wr.heap.size=gx at X5⊢;replace X5:=hid X5;have PE:Hid (arF x=if zAb x.area 0 255&&zAv x.pa x.pl then 0 else 1):=hid rfl;obtain⟨xc0,xc1,xc2⟩:=bl3 X5.out;cases h1:zAb x.area 0 255 with
  |false=>
   have F1:Hid (arF x=1):=hid (by rw[PE.out,h1];rfl);have E:Hid (pg=1):=hid ((zBe HAT.out (by rw[F1.out];decide)).trans (F1.out));have E:=hid (zEq HP.out E.out (show(1:Int)≠0 by decide));go_wp2_with (go_at_call 27;refine(zAr _ _ _ _).mono ?_;rintro e w' ⟨rfl,rfl⟩);go_ret;exact⟨zAc E.out.symm,H5.out.b⟩
  |true=>
  go_wp2_with (go_at_call 27;refine(zAr _ _ _ _).mono ?_;rintro e w' ⟨rfl,rfl⟩);refine(zEn x.pa x.pl _ FX.out).mono ?_;rintro e w6 ⟨rfl,hb⟩;have H6:=hid (H5.out.keep hb);have X6:=hid (X5.out.keep hb);clear hb H5 X5 xc0 xc1 xc2;cases h2:zAv x.pa x.pl with
  |false=>
   have F1:Hid (arF x=1):=hid (by rw[PE.out,h1,h2];rfl);have E:Hid (pg=1):=hid ((zBe HAT.out (by rw[F1.out];decide)).trans (F1.out));have E:=hid (zEq HP.out E.out (show(1:Int)≠0 by decide));go_wp2;go_ret;exact⟨zAc E.out.symm,H6.out.b⟩
  |true=>
  have F0:Hid (arF x=0):=hid (by rw[PE.out,h1,h2];rfl);clear PE h1 h2;have HAN:Hid (pg=if(r.ranges.take k).any (zBl x)then 6 else zAt arF zBl 6 r.ranges (r.ranges.drop (k+1)) (k+1)):=hid (zDg HAT.out F0.out);clear HAT F0;have c2:=HC2.out _ H6.out;go_wp2_with fail;clear c2;go_loopg [59] k (fun gh ix wq=>∃j:Nat,j+gh=k∧ix=.int .i64 j∧Hid ((RBL r w 31 gl cs) wq)∧Hid (HasC 112 gx x.C wq)∧Hid ((r.ranges.take k).any (zBl x)=((r.ranges.take k).drop j).any (zBl x)));case atStart=>exact⟨0,by omega,rfl,H6,X6,hid rfl⟩
  case round=>
   obtain⟨j,hj,rfl,HQ,XQ,HAY⟩:=hrel;by_cases hjl:j<k;case neg=>
    have E:Hid (zAt arF zBl 6 r.ranges (r.ranges.drop (k+1)) (k+1)=pg):=hid (zDt HAN.out HAY.out hjl).symm;go_wp2;go_roundg (r.ranges.length - (k+1));case measure=>omega
    case rel=>exact⟨k+1,by omega,by go_num,HQ,E⟩
   have hjn:j<r.ranges.length:=by omega
   obtain⟨g', o', c'', e',-,hg', R0⟩:=(HR.out.hranges).elem (n:=3) (by decide) (fun _=>rfl) hjn;rw[HV.out]at e';injection e' with e1 e2 e3
   injection e1 with e1
   injection e1 with e1 e4
   subst e1 e4;have HST:=hid (zDr (all:=r.ranges) (p:=zBl x) hjl hjn);have FY:=hid (HF.out _ (List.getElem_mem hjn));have r1:=hid (zAf R0 (HQ.out.b.mono HBB.out) hg');clear R0 e2 e3;generalize r.ranges[j]=y at HST r1 FY;have hjk:(j:Int)<k:=by omega
   go_upto_region 18 with(first|(refine zAa rfl 112 _ rfl rfl r1.out Tryz.rowAR Tryz.sizeAR ?_)|(refine zAd rfl 112 _ _ rfl rfl rfl (HasC.new wr _ _) rfl Tryz.sizeAR (AR.one y) ?_;intro w6 hz1 hz2))
   have H6:=hid (HQ.out.keep (zAi hz2));have X6:=hid (XQ.out.keep (zAi hz2));have Y6:=hz1;clear hz1 hz2 r1 HQ XQ;generalize wr.heap.size=gy at Y6⊢;replace Y6:=hid Y6;obtain⟨xc0,xc1,xc2⟩:=bl3 X6.out;obtain⟨yc0,yc1,yc2⟩:=bl3 Y6.out;have CC:Hid (zBl x y=(y.area==x.area&&overP y.pa y.pl x.pa x.pl)):=hid rfl;by_cases ha:y.area=x.area;case neg=>
    have da:(y.area==x.area)=false:=by simpa using ha
    have CD:Hid (zBl x y=false):=hid (by rw[CC.out,da];rfl);clear ha CC;have EN:Hid ((r.ranges.take k).any (zBl x)=((r.ranges.take k).drop (j+1)).any (zBl x)):=hid (zCo HAY.out (by rw[HST.out,CD.out]));go_wp2;go_roundg (k - (j+1));case measure=>omega
    case rel=>exact⟨j+1,by omega,by go_num,H6,X6,EN⟩
   have da:(y.area==x.area)=true:=by simpa using ha
   have CD:Hid (zBl x y=overP y.pa y.pl x.pa x.pl):=hid (by rw[CC.out,da];rfl);clear ha CC;go_wp2_with fail;refine(zJv y.pa y.pl x.pa x.pl _ FY.out FX.out).mono ?_;rintro e w7 ⟨rfl,hb⟩;have H7:=hid (H6.out.keep hb);have X7:=hid (X6.out.keep hb);clear hb H6 X6 xc0 xc1 xc2 yc0 yc1 yc2;cases ho:overP y.pa y.pl x.pa x.pl with
   |true=>
    have E:Hid (pg=6):=hid (zEp HAN.out HAY.out (by rw[HST.out,CD.out,ho]));have E:=hid (zEq HP.out E.out (show(6:Int)≠0 by decide));go_wp2;go_ret;exact⟨zAc E.out.symm,H7.out.b⟩
   |false=>
    have EN:Hid ((r.ranges.take k).any (zBl x)=((r.ranges.take k).drop (j+1)).any (zBl x)):=hid (zCo HAY.out (by rw[HST.out,CD.out,ho]));go_wp2;go_roundg (k - (j+1));case measure=>omega
    case rel=>exact⟨j+1,by omega,by go_num,H7,X7,EN⟩
theorem Tryz.rowDV:(Tryz.prog.underlying 33).map TypeDesc.isRow=some true:=by kernel_rfl
theorem Tryz.sizeDV:(Tryz.prog.info? 33).map (·.size)=some 5:=by kernel_rfl
def dnF(r:Rt):Int:=if zAu (·.name) r.lists r.dvIn||zAu (·.name) r.lists r.dvOut then 5 else 0
def dvE(r:Rt):Int:=if r.dvOn then(if zAb r.dvAdmin 1 255 then(if dnF r=0 then redE r.maps 4 1 15 0 r.dvRed else dnF r)else 1)else if !(r.dvAdmin==0) || !r.dvIn.isEmpty || !r.dvOut.isEmpty||decide ((0:Int)<r.dvRed.length)then 1 else 0
theorem zGl(r:Rt)(w:World)(B:Nat)(h:r.at w B)(hB:B≤w.heap.size):Calls Tryz.prog 36 #[.agg r.C] w fun e w' => e=.returned (.int .i64 (dvE r))∧Below w.heap.size w w' := by
 have H0:=RB.start r w;have HR:=hid h;have HBB:=hid hB;obtain⟨A2,c2,hv2,hle2,-⟩:=h.hdvRed;have HLR:=h.hdvRed;rw[hv2]at HLR;replace HLR:=hid HLR;clear h hB
 have HO:(#[.bool r.dvOn,.int .i64 r.dvAdmin,.string (str r.dvIn),.string (str r.dvOut),.slice A2 r.dvRed.length c2]:Array Value).all (·.oneCell')=true:=by
  rw[Array.all_eq_true_iff_forall_mem];intro v hv;simp only[List.mem_toArray,List.mem_cons,List.not_mem_nil,or_false]at hv;rcases hv with rfl|rfl|rfl|rfl|rfl<;>rfl
 have HS:(w.alloc (.cells r.C 41)).rangeAt w.heap.size 12 (#[.bool r.dvOn,.int .i64 r.dvAdmin,.string (str r.dvIn),.string (str r.dvOut),.slice A2 r.dvRed.length c2]:Array Value).toList:=H0.h.subM 12 #[.bool r.dvOn,.int .i64 r.dvAdmin,.string (str r.dvIn),.string (str r.dvOut),.slice A2 r.dvRed.length c2] (fun j hj=>by
  have hj' : j<5:=hj
  rcases(show j=0∨j=1∨j=2∨j=3∨j=4 by omega)with rfl|rfl|rfl|rfl|rfl<;>first|rfl|(show some _=some _;simp only[Option.some.injEq];assumption))
 clear hv2;have E:Hid (dvE r=if r.dvOn then(if zAb r.dvAdmin 1 255 then(if dnF r=0 then redE r.maps 4 1 15 0 r.dvRed else dnF r)else 1)else if !(r.dvAdmin==0) || !r.dvIn.isEmpty || !r.dvOut.isEmpty||decide ((0:Int)<r.dvRed.length)then 1 else 0):=hid rfl;generalize dvE r=res at E⊢;have H0h:=hid H0;have HSh:=hid HS;clear H0 HS HO;go_enter Tryz.func36,Tryz.ntmps36;go_upto_region 2 with(refine zAa rfl 33 _ rfl rfl HSh.out Tryz.rowDV Tryz.sizeDV ?_)
 have H5:Hid (RBL r w 33 (w.alloc (.cells r.C 41)).heap.size #[.bool r.dvOn,.int .i64 r.dvAdmin,.string (str r.dvIn),.string (str r.dvOut),.slice A2 r.dvRed.length c2] ((w.alloc (.cells r.C 41)).alloc (.cells #[.bool r.dvOn,.int .i64 r.dvAdmin,.string (str r.dvIn),.string (str r.dvOut),.slice A2 r.dvRed.length c2] 33))):=hid ⟨(H0h.out.keep ((Below.refl _ _).alloc (Nat.le_refl _) _)).h,(H0h.out.keep ((Below.refl _ _).alloc (Nat.le_refl _) _)).b,HasC.new _ _ _⟩;clear H0h HSh;generalize hw5:(w.alloc (.cells r.C 41)).alloc (.cells #[.bool r.dvOn,.int .i64 r.dvAdmin,.string (str r.dvIn),.string (str r.dvOut),.slice A2 r.dvRed.length c2] 33)=w5 at H5⊢;clear hw5;rw[show(w.alloc (.cells r.C 41)).heap.size=w.heap.size+1 from by simp]at H5;generalize w.heap.size+1=gl at H5⊢;obtain⟨lc0,lc1⟩:=bl2 H5.out.l;have lc2:w5.cell? ⟨gl,2,none⟩=some (.string (str r.dvIn)):=H5.out.l.cell 2;have lc3:w5.cell? ⟨gl,3,none⟩=some (.string (str r.dvOut)):=H5.out.l.cell 3;have lc4:=cl4 H5.out.l;cases hon:r.dvOn with
 |false=>
  rw[hon]at lc0;have EF:Hid (res=if !(r.dvAdmin==0) || !r.dvIn.isEmpty || !r.dvOut.isEmpty||decide ((0:Int)<r.dvRed.length)then 1 else 0):=hid (by rw[E.out,hon];rfl);clear hon E;by_cases ha:r.dvAdmin=0;case neg=>
   have d1:(r.dvAdmin==0)=false:=by simpa using ha
   have d2:(r.dvAdmin != 0)=true:=by simpa using ha
   clear ha;go_wp2;go_ret;exact⟨zAc (by rw[EF.out,d1];rfl),H5.out.b⟩
  rw[ha]at lc1;have EF2:Hid (res=if !r.dvIn.isEmpty || !r.dvOut.isEmpty||decide ((0:Int)<r.dvRed.length)then 1 else 0):=hid (by rw[EF.out,ha];rfl);clear ha EF;by_cases hi:r.dvIn=[];case neg=>
   obtain⟨i1,i2,i3⟩:=zCe hi;clear hi;go_wp2;go_ret;exact⟨zAc (by rw[EF2.out,i1];rfl),H5.out.b⟩
  have tn:(str r.dvIn).toList=[]:=by rw[zAe,hi]
  have EF3:Hid (res=if !r.dvOut.isEmpty||decide ((0:Int)<r.dvRed.length)then 1 else 0):=hid (by rw[EF2.out,hi];rfl);clear hi EF2;by_cases ho:r.dvOut=[];case neg=>
   obtain⟨i1,i2,i3⟩:=zCe ho;clear ho;go_wp2;go_ret;exact⟨zAc (by rw[EF3.out,i1];rfl),H5.out.b⟩
  have tno:(str r.dvOut).toList=[]:=by rw[zAe,ho]
  have EF4:Hid (res=if decide ((0:Int)<r.dvRed.length)then 1 else 0):=hid (by rw[EF3.out,ho];rfl);clear ho EF3 HR HLR;generalize r.dvRed.length=n2 at *;by_cases z2:n2=0;case neg=>
   have z2' : 0<n2:=by omega
   go_wp2_with fail
   all_goals (go_ret;exact⟨zAc (by rw[EF4.out,decide_eq_true (show(0:Int)<n2 by omega)];rfl),H5.out.b⟩)
  subst z2;go_wp2;go_ret;exact⟨zAc (by rw[EF4.out];rfl),H5.out.b⟩
 |true=>
 rw[hon]at lc0;have ET:Hid (res=if zAb r.dvAdmin 1 255 then(if dnF r=0 then redE r.maps 4 1 15 0 r.dvRed else dnF r)else 1):=hid (by rw[E.out,hon];rfl);clear hon E;cases hw:zAb r.dvAdmin 1 255 with
 |false=>
  go_wp2_with (go_at_call 27;refine(zAr _ _ _ _).mono ?_;rintro e w' ⟨rfl,rfl⟩);go_ret;exact⟨zAc (by rw[ET.out,hw];rfl),H5.out.b⟩
 |true=>
 have HP:Hid (res=if dnF r=0 then redE r.maps 4 1 15 0 r.dvRed else dnF r):=hid (by rw[ET.out,hw];rfl);have PE2:Hid (dnF r=if zAu (·.name) r.lists r.dvIn||zAu (·.name) r.lists r.dvOut then 5 else 0):=hid rfl;have X5:=hid H5.out.l;clear ET lc2 lc3 lc4;by_cases hi:r.dvIn=[]
 ·have tn:(str r.dvIn).toList=[]:=by rw[zAe,hi]
  have EI:Hid (zAu (·.name) r.lists r.dvIn=false):=hid (by rw[hi];rfl);clear hi;have xc2:w5.cell? ⟨gl,2,none⟩=some (.string (str r.dvIn)):=X5.out.cell 2;have xc3:w5.cell? ⟨gl,3,none⟩=some (.string (str r.dvOut)):=X5.out.cell 3;by_cases ho:r.dvOut=[]
  ·have tno:(str r.dvOut).toList=[]:=by rw[zAe,ho]
   have F0:Hid (dnF r=0):=hid (by rw[PE2.out,EI.out,ho];rfl);clear ho PE2 EI;have E2:=hid (fin_ok HP.out F0.out);have l4:=cl4 X5.out;go_wp2_with (first|(go_at_call 27;refine(zAr _ _ _ _).mono ?_;rintro e w' ⟨rfl,rfl⟩)|(refine zAa rfl 41 _ rfl rfl H5.out.h.range Tryz.rowRt Tryz.sizeRt ?_));with_reducible refine(zCz r r.dvRed (.slice A2 r.dvRed.length c2) 4 1 15 0 _ B (HR.out.below (H5.out.b.mono HBB.out)) (HLR.out.below (H5.out.b.mono HBB.out)) (Nat.le_trans HBB.out H5.out.b.size)).mono ?_
   rintro e wz ⟨rfl,hb⟩;have HZ:=hid (H5.out.keep hb);clear hb;go_wp2;go_ret;exact⟨zAc E2.out.symm,HZ.out.b⟩
  obtain⟨o1,o2,o3⟩:=zCe ho;have PO:Hid (zAu (·.name) r.lists r.dvOut=decide (idxF (fun y=>y.name==r.dvOut) r.lists 0<0)):=hid (by unfold zAu;rw[o1];rfl);clear ho;go_wp2_with (first|(go_at_call 27;refine(zAr _ _ _ _).mono ?_;rintro e w' ⟨rfl,rfl⟩)|(refine zAj (by rfl) (zAa rfl 41 _ rfl rfl H5.out.h.range Tryz.rowRt Tryz.sizeRt ?_)));with_reducible refine(zEb r r.dvOut w5 B (HR.out.below (H5.out.b.mono HBB.out)) (Nat.le_trans HBB.out H5.out.b.size)).mono ?_
  rintro e w9 ⟨rfl,hb⟩;have H9:=hid (H5.out.keep hb);have X9:=hid (X5.out.keep hb);clear hb ;by_cases hd:idxF (fun y=>y.name==r.dvOut) r.lists 0<0
  ·have di:=decide_eq_true hd
   have F1:Hid (dnF r=5):=hid (by rw[PE2.out,EI.out,PO.out,di];rfl);clear hd;have E2:=hid (zEq HP.out F1.out (by decide));go_wp2;go_ret;exact⟨zAc E2.out.symm,H9.out.b⟩
  have di2:=decide_eq_false hd;have F0:Hid (dnF r=0):=hid (by rw[PE2.out,EI.out,PO.out,di2];rfl);clear hd PE2 EI PO;have E2:=hid (fin_ok HP.out F0.out);have l4:=cl4 X9.out;go_wp2_with (first|fail|(refine zAa rfl 41 _ rfl rfl H9.out.h.range Tryz.rowRt Tryz.sizeRt ?_));with_reducible refine(zCz r r.dvRed (.slice A2 r.dvRed.length c2) 4 1 15 0 _ B (HR.out.below (H9.out.b.mono HBB.out)) (HLR.out.below (H9.out.b.mono HBB.out)) (Nat.le_trans HBB.out H9.out.b.size)).mono ?_
  rintro e wz ⟨rfl,hb⟩;have HZ:=hid (H9.out.keep hb);clear hb;go_wp2;go_ret;exact⟨zAc E2.out.symm,HZ.out.b⟩
 obtain⟨i1,i2,i3⟩:=zCe hi;have PI:Hid (zAu (·.name) r.lists r.dvIn=decide (idxF (fun y=>y.name==r.dvIn) r.lists 0<0)):=hid (by unfold zAu;rw[i1];rfl);clear hi;have xc2:w5.cell? ⟨gl,2,none⟩=some (.string (str r.dvIn)):=X5.out.cell 2;have xc3:w5.cell? ⟨gl,3,none⟩=some (.string (str r.dvOut)):=X5.out.cell 3;go_wp2_with (first|(go_at_call 27;refine(zAr _ _ _ _).mono ?_;rintro e w' ⟨rfl,rfl⟩)|(refine zAj (by rfl) (zAa rfl 41 _ rfl rfl H5.out.h.range Tryz.rowRt Tryz.sizeRt ?_)));with_reducible refine(zEb r r.dvIn w5 B (HR.out.below (H5.out.b.mono HBB.out)) (Nat.le_trans HBB.out H5.out.b.size)).mono ?_
 rintro e w8 ⟨rfl,hb⟩;have H8:=hid (H5.out.keep hb);have X8:=hid (X5.out.keep hb);clear hb ;by_cases hd:idxF (fun y=>y.name==r.dvIn) r.lists 0<0
 ·have di:=decide_eq_true hd
  have F1:Hid (dnF r=5):=hid (by rw[PE2.out,PI.out,di];rfl);clear hd;have E2:=hid (zEq HP.out F1.out (by decide));go_wp2;go_ret;exact⟨zAc E2.out.symm,H8.out.b⟩
 have di:=decide_eq_false hd;have EI:Hid (zAu (·.name) r.lists r.dvIn=false):=hid (by rw[PI.out,di]);clear hd PI;have xc2:w8.cell? ⟨gl,2,none⟩=some (.string (str r.dvIn)):=X8.out.cell 2;have xc3:w8.cell? ⟨gl,3,none⟩=some (.string (str r.dvOut)):=X8.out.cell 3;by_cases ho:r.dvOut=[]
 ·have tno:(str r.dvOut).toList=[]:=by rw[zAe,ho]
  have F0:Hid (dnF r=0):=hid (by rw[PE2.out,EI.out,ho];rfl);clear ho PE2 EI;have E2:=hid (fin_ok HP.out F0.out);have l4:=cl4 X8.out;go_wp2_with (first|fail|(refine zAa rfl 41 _ rfl rfl H8.out.h.range Tryz.rowRt Tryz.sizeRt ?_));with_reducible refine(zCz r r.dvRed (.slice A2 r.dvRed.length c2) 4 1 15 0 _ B (HR.out.below (H8.out.b.mono HBB.out)) (HLR.out.below (H8.out.b.mono HBB.out)) (Nat.le_trans HBB.out H8.out.b.size)).mono ?_
  rintro e wz ⟨rfl,hb⟩;have HZ:=hid (H8.out.keep hb);clear hb;go_wp2;go_ret;exact⟨zAc E2.out.symm,HZ.out.b⟩
 obtain⟨o1,o2,o3⟩:=zCe ho;have PO:Hid (zAu (·.name) r.lists r.dvOut=decide (idxF (fun y=>y.name==r.dvOut) r.lists 0<0)):=hid (by unfold zAu;rw[o1];rfl);clear ho;go_wp2_with (first|fail|(refine zAj (by rfl) (zAa rfl 41 _ rfl rfl H8.out.h.range Tryz.rowRt Tryz.sizeRt ?_)));with_reducible refine(zEb r r.dvOut w8 B (HR.out.below (H8.out.b.mono HBB.out)) (Nat.le_trans HBB.out H8.out.b.size)).mono ?_
 rintro e w9 ⟨rfl,hb⟩;have H9:=hid (H8.out.keep hb);have X9:=hid (X8.out.keep hb);clear hb ;by_cases hd:idxF (fun y=>y.name==r.dvOut) r.lists 0<0
 ·have di:=decide_eq_true hd
  have F1:Hid (dnF r=5):=hid (by rw[PE2.out,EI.out,PO.out,di];rfl);clear hd;have E2:=hid (zEq HP.out F1.out (by decide));go_wp2;go_ret;exact⟨zAc E2.out.symm,H9.out.b⟩
 have di2:=decide_eq_false hd;have F0:Hid (dnF r=0):=hid (by rw[PE2.out,EI.out,PO.out,di2];rfl);clear hd PE2 EI PO;have E2:=hid (fin_ok HP.out F0.out);have l4:=cl4 X9.out;go_wp2_with (first|fail|(refine zAa rfl 41 _ rfl rfl H9.out.h.range Tryz.rowRt Tryz.sizeRt ?_));with_reducible refine(zCz r r.dvRed (.slice A2 r.dvRed.length c2) 4 1 15 0 _ B (HR.out.below (H9.out.b.mono HBB.out)) (HLR.out.below (H9.out.b.mono HBB.out)) (Nat.le_trans HBB.out H9.out.b.size)).mono ?_
 rintro e wz ⟨rfl,hb⟩;have HZ:=hid (H9.out.keep hb);clear hb;go_wp2;go_ret;exact⟨zAc E2.out.symm,HZ.out.b⟩
theorem SlV.take{α:Type}{w:World}{B n:Nat}{cells:α→Array Value}{A:Option Addr}{c:Nat}{xs:List α}(hn:0<n)(hl:∀x,(cells x).toList.length=n)(h:SlV w B n cells (.slice A xs.length c) xs){k:Nat}(hk:k≤xs.length):SlV w B n cells (.slice A k c) (xs.take k):=by
 obtain⟨A', c', e,hle,A2,c2,e2,hm,hlen,hA,h⟩:=h;injection e with e1 _ e3
 subst e1 e3;injection e2 with e1 _ e3
 subst e1 e3;have hkl:(xs.take k).length=k:=by rw[List.length_take];omega
 refine⟨A,c,by rw[hkl],by omega,A,c,by rw[hkl],by omega,?_,hA,fun hp=>?_⟩
 ·rw[zIk (fun x=>(cells x).toList) hl]
 ·rw[hkl]at hp
  obtain⟨g,o,e,hg,hc⟩:=h (by omega);refine⟨g,o,e,hg,fun j u hu=>hc j u ?_⟩;rw[zFq (fun x=>(cells x).toList) hn hl]at hu⊢;rcases Nat.lt_or_ge (j / n) k with hj|hj
  ·rwa [List.getElem?_take_of_lt hj]at hu
  ·rw[List.getElem?_eq_none (by rw[hkl];exact hj)]at hu;cases hu
theorem idxF_end{α:Type}{p:α→Bool}{l:List α}{k:Nat}{R:Int}(h:¬k<l.length)(hR:idxF p (l.drop k) k=R):R = -1:=by
 rw[List.drop_of_length_le (by omega),idxF]at hR;exact hR.symm
theorem idxF_step{α:Type}{p:α→Bool}{l:List α}{k:Nat}{R:Int}(h:k<l.length)(hR:idxF p (l.drop k) k=R):R=if p l[k]then(k:Int)else idxF p (l.drop (k+1)) (k+1):=by
 rw[zHq h,idxF]at hR;exact hR.symm
theorem idxF_any{α:Type}(p:α→Bool):∀(l:List α) (i:Nat),decide (0≤idxF p l i)=l.any p
 |[],i=>by simp[idxF]
 |y :: r,i=>by
  rw[idxF,List.any_cons];cases p y with
  |true=>simp
  |false=>simpa using idxF_any p r (i+1)
structure RQ (T:TypeId) (cs:Array Value) (w0 w:World):Prop where
 h:HasC T w0.heap.size cs w
 b:Below w0.heap.size w0 w
theorem RQ.keep{T:TypeId}{cs:Array Value}{w0 w w' : World}(h:RQ T cs w0 w)(hb:Below w.heap.size w w'):RQ T cs w0 w' := ⟨h.h.keep hb,h.b.trans (hb.mono h.b.size)⟩
theorem RQ.start(T:TypeId)(cs:Array Value)(w:World):RQ T cs w (w.alloc (.cells cs T)):=⟨HasC.new w _ _,(Below.refl _ _).alloc (Nat.le_refl _) _⟩
def zDu(x y:Pf):Bool:=decide (x.pa=y.pa∧x.pl=y.pl)
theorem indexPf_any(xs:List Pf)(v:Value)(p:Pf)(w:World)(B:Nat)(hl:SlV w B 2 Pf.C v xs)(hB:B≤w.heap.size):Calls Tryz.prog 150 #[v,.agg #[.int .u32 (p.pa:Int),.int .i64 p.pl]] w fun e w' => e=.returned (.int .i64 (idxF (zDu p) xs 0))∧Below w.heap.size w w' := by
 have H0:=hid (RQ.start 90 #[.int .u32 (p.pa:Int),.int .i64 p.pl] w);have HLS:=hid hl;have HBB:=hid hB;obtain⟨A,c,hv,hle,-⟩:=hl;have HV:=hid hv;rw[hv];obtain⟨res,hres⟩:∃res,idxF (zDu p) xs 0=res:=⟨_,rfl⟩;rw[hres];have hlen:xs.length≤9223372036854775807:=by have:=HLS.out.len;simp only[maxLen]at this;exact Nat.le_trans this (by omega)
 clear hv hB;go_enter Tryz.func150,Tryz.ntmps150;go_wp2;go_loopg [8] xs.length (fun gh ix wr=>∃k:Nat,k+gh=xs.length∧ix=.int .i64 k∧Hid (RQ 90 #[.int .u32 (p.pa:Int),.int .i64 p.pl] w wr)∧Hid (idxF (zDu p) (xs.drop k) k=res));case atStart=>exact⟨0,by omega,rfl,H0,hid hres⟩
 case round=>
  obtain⟨k,hk,rfl,HW,HG⟩:=hrel;clear H0 hres;by_cases hlt:k<xs.length;case neg=>
   have E:=hid (idxF_end hlt HG.out);go_wp2;go_ret;exact⟨zAc E.out.symm,HW.out.b⟩
  have HAT:=hid (idxF_step hlt HG.out);obtain⟨g,o,c', e',-,hg,R0⟩:=HLS.out.elem (n:=2) (by decide) (fun _=>rfl) hlt;rw[HV.out]at e';injection e' with e1 e2 e3
  subst e1 e3;have r1:=zAf R0 (HW.out.b.mono HBB.out) hg;clear R0 HG e2;generalize xs[k]=y at HAT r1;obtain⟨k0,k1⟩:=rw2 r1;obtain⟨v0,v1⟩:=bl2 HW.out.h;have qe:∀w,(binOp .eql 90 (.agg #[.int .u32 (p.pa:Int),.int .i64 p.pl]) (.agg #[.int .u32 (y.pa:Int),.int .i64 y.pl])).run Tryz.prog w=.ok (.bool (zDu p y)) w:=fun w=>zFo p.pa y.pa p.pl y.pl w
  have g:=Tryz.pfxGuard;have hki:(k:Int)<xs.length:=by omega
  clear r1;generalize zDu p y=b at qe HAT;go_wp2_with fail
  go_quiet (fail)
  cases b with
  |true=>
   go_wp2;go_ret;exact⟨zAc (by rw[HAT.out];rfl),(HW.out.keep (zGq _ _)).b⟩
  |false=>
   have H9:=hid (HW.out.keep (zGq _ nq));go_wp2;go_roundg (xs.length - (k+1));case measure=>omega
   case rel=>exact⟨k+1,by omega,by go_num,H9,hid (by rw[HAT.out];rfl)⟩
theorem containsPf_any(xs:List Pf)(v:Value)(p:Pf)(w:World)(B:Nat)(hl:SlV w B 2 Pf.C v xs)(hB:B≤w.heap.size):Calls Tryz.prog 132 #[v,.agg #[.int .u32 (p.pa:Int),.int .i64 p.pl]] w fun e w' => e=.returned (.bool (xs.any (zDu p)))∧Below w.heap.size w w' := by
 have H0:=hid (RQ.start 90 #[.int .u32 (p.pa:Int),.int .i64 p.pl] w);have K:=hid (fun w' (h:RQ 90 #[.int .u32 (p.pa:Int),.int .i64 p.pl] w w')=>indexPf_any xs v p w' B (hl.below (h.b.mono hB)) (Nat.le_trans hB h.b.size));have EA:=hid (idxF_any (zDu p) xs 0);generalize idxF (zDu p) xs 0=i at K EA;clear hl hB;go_enter Tryz.func132,Tryz.ntmps132;go_wp2_with fail;refine(K.out _ H0.out).mono ?_;rintro e w1 ⟨rfl,hb⟩;have H1:=hid (H0.out.keep hb);clear hb;go_wp2_with fail
 all_goals (go_ret;exact⟨zAg (by rw[←EA.out];first|done|(simp;done)|(simp[*];done)|(simp;omega)),H1.out.b⟩)
def Rt.pvC(r:Rt):Array Value:=#[.bool r.pvOn,.int .i64 r.ext,.int .i64 r.int,r.nbV,r.netV,r.agV,r.cdV,r.pvRedV]
def netF(x:Pf):Int:=if zAv x.pa x.pl then 0 else 1
def agF(x:Ag):Int:=if zAv x.pa x.pl then 0 else 1
def cdF(x:Cd):Int:=if zAv x.pa x.pl&&zAv x.ia x.il then(if decide (x.pa=x.ia∧x.pl=x.il)then 6 else 0)else 1
def zEk(x y:Ag):Bool:=decide (y.pa=x.pa∧y.pl=x.pl)
def zEl(x y:Cd):Bool:=decide (y.pa=x.pa∧y.pl=x.pl)
def netsE(l:List Pf):Int:=pairE 8 netF zDu 4 l
def agsE(l:List Ag):Int:=pairE 8 agF zEk 4 l
def cdsE(l:List Cd):Int:=pairE 8 cdF zEl 4 l
def origE(r:Rt):Int:=if netsE r.net=0 then(if agsE r.ag=0 then cdsE r.cd else agsE r.ag)else netsE r.net
theorem zKb(r:Rt)(w:World)(B:Nat)(h:r.at w B)(hB:B≤w.heap.size)(hf1:∀x∈r.net,x.fit)(hf2:∀x∈r.ag,x.fit)(hf3:∀x∈r.cd,x.fit):Calls Tryz.prog 93 #[.agg r.pvC] w fun e w' => e=.returned (.int .i64 (origE r))∧Below w.heap.size w w' := by
 have HR:=hid h;have HBB:=hid hB;have HF1:=hid hf1;have HF2:=hid hf2;have HF3:=hid hf3;obtain⟨A1,c1,hv1,hle,-⟩:=h.hnet;obtain⟨A2,c2,hv2,hle2,-⟩:=h.hag;obtain⟨A3,c3,hv3,hle3,-⟩:=h.hcd;have HV1:=hid hv1;have HV2:=hid hv2;have HV3:=hid hv3;have HL1:Hid (∀w', RQ 39 r.pvC w w' → w'.cell? ⟨w.heap.size,4,none⟩=some (.slice A1 r.net.length c1)):=hid (fun w' h=>by rw[←hv1];exact h.h.cell 4);have HL2:Hid (∀w', RQ 39 r.pvC w w' → w'.cell? ⟨w.heap.size,5,none⟩=some (.slice A2 r.ag.length c2)):=hid (fun w' h=>by rw[←hv2];exact h.h.cell 5);have HL3:Hid (∀w', RQ 39 r.pvC w w' → w'.cell? ⟨w.heap.size,6,none⟩=some (.slice A3 r.cd.length c3)):=hid (fun w' h=>by rw[←hv3];exact h.h.cell 6);have H0:=hid (RQ.start 39 r.pvC w);clear h hB hf1 hf2 hf3 hv1 hv2 hv3;obtain⟨res,hres⟩:∃res,origE r=res:=⟨_,rfl⟩;rw[hres];obtain⟨pg1,hpg1⟩:∃pg,netsE r.net=pg:=⟨_,rfl⟩;obtain⟨pg2,hpg2⟩:∃pg,agsE r.ag=pg:=⟨_,rfl⟩;obtain⟨pg3,hpg3⟩:∃pg,cdsE r.cd=pg:=⟨_,rfl⟩;have HP1:Hid (res=if pg1=0 then(if pg2=0 then pg3 else pg2)else pg1):=hid (by rw[←hres,←hpg1,←hpg2,←hpg3];rfl);clear hres;replace hpg2:=hid hpg2;replace hpg3:=hid hpg3;generalize hcs:r.pvC=cs at *;clear hcs;have c2' := HL1.out _ H0.out;go_enter Tryz.func93,Tryz.ntmps93;by_cases h8:8<r.net.length
 ·have E:Hid (pg1=7):=hid (by rw[←hpg1];exact if_pos h8)
  have E2:=hid (zEq HP1.out E.out (by decide));clear hpg1;go_wp2;go_ret;exact⟨zAc E2.out.symm,H0.out.b⟩
 have d8:decide ((8:Int)<r.net.length)=false:=by simp;omega
 have E:Hid (zAt netF zDu 4 r.net r.net 0=pg1):=hid (by rw[←hpg1];exact(if_neg h8).symm);clear hpg1;go_wp2_with fail;clear c2' d8;have HV:=HV1;have HF:=HF1;go_loopg [20] r.net.length (fun gh ix wr=>∃k:Nat,k+gh=r.net.length∧ix=.int .i64 k∧Hid ((RQ 39 cs w) wr)∧Hid (zAt netF zDu 4 r.net (r.net.drop k) k=pg1));case atStart=>exact⟨0,by omega,rfl,H0,E⟩
 case round=>
  obtain⟨k,hk,rfl,HW,HG⟩:=hrel;clear H0 E;by_cases hlt:k<r.net.length;case neg=>
   have E:=hid (zCb hlt HG.out);have HP2:=hid (fin_ok HP1.out E.out);have c2' := HL2.out _ HW.out;have hle:=hle2;have hpg2' := hpg2.out;by_cases h8:8<r.ag.length
   ·have E:Hid (pg2=7):=hid (by rw[←hpg2'];exact if_pos h8)
    have E2:=hid (zEq HP2.out E.out (by decide));have d8:decide ((8:Int)<r.ag.length)=true:=by simp;omega
    clear hpg2';go_wp2;go_ret;exact⟨zAc E2.out.symm,HW.out.b⟩
   have d8:decide ((8:Int)<r.ag.length)=false:=by simp;omega
   have E:Hid (zAt agF zEk 4 r.ag r.ag 0=pg2):=hid (by rw[←hpg2'];exact(if_neg h8).symm);clear hpg2';go_wp2_with fail;clear c2' d8;have HV:=HV2;have HF:=HF2;have H0:=HW;go_loopg [42] r.ag.length (fun gh ix wr=>∃k:Nat,k+gh=r.ag.length∧ix=.int .i64 k∧Hid ((RQ 39 cs w) wr)∧Hid (zAt agF zEk 4 r.ag (r.ag.drop k) k=pg2));case atStart=>exact⟨0,by omega,rfl,H0,E⟩
   case round=>
    obtain⟨k,hk,rfl,HW,HG⟩:=hrel;clear H0 E;by_cases hlt:k<r.ag.length;case neg=>
     have E:=hid (zCb hlt HG.out);have HP3:=hid (fin_ok HP2.out E.out);have c2' := HL3.out _ HW.out;have hle:=hle3;have hpg3' := hpg3.out;by_cases h8:8<r.cd.length
     ·have E:Hid (pg3=7):=hid (by rw[←hpg3'];exact if_pos h8)
      have E2:=hid (HP3.out.trans E.out);have d8:decide ((8:Int)<r.cd.length)=true:=by simp;omega
      clear hpg3';go_wp2;go_ret;exact⟨zAc E2.out.symm,HW.out.b⟩
     have d8:decide ((8:Int)<r.cd.length)=false:=by simp;omega
     have E:Hid (zAt cdF zEl 4 r.cd r.cd 0=pg3):=hid (by rw[←hpg3'];exact(if_neg h8).symm);clear hpg3';go_wp2_with fail;clear c2' d8;have HV:=HV3;have HF:=HF3;have H0:=HW;go_loopg [74] r.cd.length (fun gh ix wr=>∃k:Nat,k+gh=r.cd.length∧ix=.int .i64 k∧Hid ((RQ 39 cs w) wr)∧Hid (zAt cdF zEl 4 r.cd (r.cd.drop k) k=pg3));case atStart=>exact⟨0,by omega,rfl,H0,E⟩
     case round=>
      obtain⟨k,hk,rfl,HW,HG⟩:=hrel;clear H0 E;by_cases hlt:k<r.cd.length;case neg=>
       have E:=hid (zCb hlt HG.out);have E2:=hid (HP3.out.trans E.out);go_wp2;go_ret;exact⟨zAc E2.out.symm,HW.out.b⟩
      have HAT:=hid (zCk hlt HG.out);obtain⟨g,o,c', e',-,hg,R0⟩:=(HR.out.hcd).elem (n:=5) (by decide) (fun _=>rfl) hlt;rw[HV.out]at e';injection e' with e1 e2 e3
      subst e1 e3;have r1:=hid (zAf R0 (HW.out.b.mono HBB.out) hg);have FX:=hid (HF.out _ (List.getElem_mem hlt));clear R0 HG e2;generalize r.cd[k]=x at HAT r1 FX;go_upto_region 30 with(first|(refine zAa rfl 119 _ rfl rfl r1.out Tryz.rowCd Tryz.sizeCd ?_)|(refine zAd rfl 119 _ _ rfl rfl rfl (HasC.new wr _ _) rfl Tryz.sizeCd (Cd.one x) ?_;intro w5 hz1 hz2))
      have H5:=hid (HW.out.keep (zAi hz2));have X5:=hz1;clear hz1 hz2 r1 HW;generalize wr.heap.size=gx at X5⊢;replace X5:=hid X5;have PE:Hid (cdF x=if zAv x.pa x.pl&&zAv x.ia x.il then(if decide (x.pa=x.ia∧x.pl=x.il)then 6 else 0)else 1):=hid rfl;obtain⟨xc0,xc1⟩:=bl2 X5.out;go_wp2_with fail;refine(zEn x.pa x.pl _ FX.out.1).mono ?_;rintro e w6 ⟨rfl,hb⟩;have H6:=hid (H5.out.keep hb);have X6:=hid (X5.out.keep hb);clear hb H5 X5 xc0 xc1;cases h1:zAv x.pa x.pl with
      |false=>
       have F1:Hid (cdF x=1):=hid (by rw[PE.out,h1];rfl);have E:Hid (pg3=1):=hid ((zBe HAT.out (by rw[F1.out];decide)).trans (F1.out));have E:=hid (HP3.out.trans E.out);go_wp2;go_ret;exact⟨zAc E.out.symm,H6.out.b⟩
      |true=>
      obtain⟨-,-,xc2,xc3⟩:=bl4 X6.out;go_wp2_with fail;refine(zEn x.ia x.il _ FX.out.2).mono ?_;rintro e w7 ⟨rfl,hb⟩;have H7:=hid (H6.out.keep hb);have X7:=hid (X6.out.keep hb);clear hb H6 X6 xc2 xc3;cases h2:zAv x.ia x.il with
      |false=>
       have F1:Hid (cdF x=1):=hid (by rw[PE.out,h1,h2];rfl);have E:Hid (pg3=1):=hid ((zBe HAT.out (by rw[F1.out];decide)).trans (F1.out));have E:=hid (HP3.out.trans E.out);go_wp2;go_ret;exact⟨zAc E.out.symm,H7.out.b⟩
      |true=>
      have PE2:Hid (cdF x=if decide (x.pa=x.ia∧x.pl=x.il)then 6 else 0):=hid (by rw[PE.out,h1,h2];rfl);clear PE h1 h2;obtain⟨xc0,xc1,xc2,xc3⟩:=bl4 X7.out;have gd:=Tryz.pfxGuard;have qx:∀w,(binOp .eql 90 (.agg #[.int .u32 (x.pa:Int),.int .i64 x.pl]) (.agg #[.int .u32 (x.ia:Int),.int .i64 x.il])).run Tryz.prog w=.ok (.bool (decide (x.pa=x.ia∧x.pl=x.il))) w:=fun w=>zFo x.pa x.ia x.pl x.il w
      generalize decide (x.pa=x.ia∧x.pl=x.il)=bx at qx PE2;cases bx with
      |true=>
       have F1:Hid (cdF x=6):=hid (by rw[PE2.out];rfl);have E:Hid (pg3=6):=hid ((zBe HAT.out (by rw[F1.out];decide)).trans (F1.out));have E:=hid (HP3.out.trans E.out);go_wp2;go_ret;exact⟨zAc E.out.symm,H7.out.b⟩
      |false=>
      have F0:Hid (cdF x=0):=hid (by rw[PE2.out];rfl);have HAN:Hid (pg3=if(r.cd.take k).any (zEl x)then 4 else zAt cdF zEl 4 r.cd (r.cd.drop (k+1)) (k+1)):=hid (zDg HAT.out F0.out);clear HAT F0;have c2:=HL3.out _ H7.out;go_wp2_with fail;clear c2 xc0 xc1 xc2 xc3 qx gd;go_loopg [99] k (fun gh ix wq=>∃j:Nat,j+gh=k∧ix=.int .i64 j∧Hid ((RQ 39 cs w) wq)∧Hid (HasC 119 gx x.C wq)∧Hid ((r.cd.take k).any (zEl x)=((r.cd.take k).drop j).any (zEl x)));case atStart=>exact⟨0,by omega,rfl,H7,X7,hid rfl⟩
      case round=>
       obtain⟨j,hj,rfl,HQ,XQ,HAY⟩:=hrel;by_cases hjl:j<k;case neg=>
        have E:Hid (zAt cdF zEl 4 r.cd (r.cd.drop (k+1)) (k+1)=pg3):=hid (zDt HAN.out HAY.out hjl).symm;go_wp2;go_roundg (r.cd.length - (k+1));case measure=>omega
        case rel=>exact⟨k+1,by omega,by go_num,HQ,E⟩
       have hjn:j<r.cd.length:=by omega
       obtain⟨g', o', c'', e',-,hg', R0⟩:=(HR.out.hcd).elem (n:=5) (by decide) (fun _=>rfl) hjn;rw[HV.out]at e';injection e' with e1 e2 e3
       injection e1 with e1
       injection e1 with e1 e4
       subst e1 e4;have HST:=hid (zDr (all:=r.cd) (p:=zEl x) hjl hjn);have r1:=hid (zAf R0 (HQ.out.b.mono HBB.out) hg');clear R0 e2 e3;generalize r.cd[j]=y at HST r1;have hjk:(j:Int)<k:=by omega
       go_upto_region 37 with(first|(refine zAa rfl 119 _ rfl rfl r1.out Tryz.rowCd Tryz.sizeCd ?_)|(refine zAd rfl 119 _ _ rfl rfl rfl (HasC.new wr _ _) rfl Tryz.sizeCd (Cd.one y) ?_;intro w6 hz1 hz2))
       have H6:=hid (HQ.out.keep (zAi hz2));have X6:=hid (XQ.out.keep (zAi hz2));have Y6:=hz1;clear hz1 hz2 r1 HQ XQ;generalize wr.heap.size=gy at Y6⊢;replace Y6:=hid Y6;obtain⟨xc0,xc1⟩:=bl2 X6.out;obtain⟨yc0,yc1⟩:=bl2 Y6.out;have qe:∀w,(binOp .eql 90 (.agg #[.int .u32 (y.pa:Int),.int .i64 y.pl]) (.agg #[.int .u32 (x.pa:Int),.int .i64 x.pl])).run Tryz.prog w=.ok (.bool (decide (y.pa=x.pa∧y.pl=x.pl))) w:=fun w=>zFo y.pa x.pa y.pl x.pl w
       have gd:=Tryz.pfxGuard;have CC:Hid (zEl x y=decide (y.pa=x.pa∧y.pl=x.pl)):=hid rfl;generalize decide (y.pa=x.pa∧y.pl=x.pl)=bp at qe CC;cases bp with
       |false=>
        have EN:Hid ((r.cd.take k).any (zEl x)=((r.cd.take k).drop (j+1)).any (zEl x)):=hid (zCo HAY.out (by rw[HST.out,CC.out]));go_wp2;go_roundg (k - (j+1));case measure=>omega
        case rel=>exact⟨j+1,by omega,by go_num,H6,X6,EN⟩
       |true=>
        have E:Hid (pg3=4):=hid (zEp HAN.out HAY.out (by rw[HST.out,CC.out]));have E:=hid (HP3.out.trans E.out);go_wp2;go_ret;exact⟨zAc E.out.symm,H6.out.b⟩
    have HAT:=hid (zCk hlt HG.out);obtain⟨g,o,c', e',-,hg,R0⟩:=(HR.out.hag).elem (n:=3) (by decide) (fun _=>rfl) hlt;rw[HV.out]at e';injection e' with e1 e2 e3
    subst e1 e3;have r1:=hid (zAf R0 (HW.out.b.mono HBB.out) hg);have FX:=hid (HF.out _ (List.getElem_mem hlt));clear R0 HG e2;generalize r.ag[k]=x at HAT r1 FX;go_upto_region 16 with(first|(refine zAa rfl 117 _ rfl rfl r1.out Tryz.rowAg Tryz.sizeAg ?_)|(refine zAd rfl 117 _ _ rfl rfl rfl (HasC.new wr _ _) rfl Tryz.sizeAg (Ag.one x) ?_;intro w5 hz1 hz2))
    have H5:=hid (HW.out.keep (zAi hz2));have X5:=hz1;clear hz1 hz2 r1 HW;generalize wr.heap.size=gx at X5⊢;replace X5:=hid X5;have PE:Hid (agF x=if zAv x.pa x.pl then 0 else 1):=hid rfl;obtain⟨xc0,xc1⟩:=bl2 X5.out;go_wp2_with fail;refine(zEn x.pa x.pl _ FX.out).mono ?_;rintro e w6 ⟨rfl,hb⟩;have H6:=hid (H5.out.keep hb);have X6:=hid (X5.out.keep hb);clear hb H5 X5 xc0 xc1;cases h1:zAv x.pa x.pl with
    |false=>
     have F1:Hid (agF x=1):=hid (by rw[PE.out,h1];rfl);have E:Hid (pg2=1):=hid ((zBe HAT.out (by rw[F1.out];decide)).trans (F1.out));have E:=hid (zEq HP2.out E.out (show(1:Int)≠0 by decide));go_wp2;go_ret;exact⟨zAc E.out.symm,H6.out.b⟩
    |true=>
    have F0:Hid (agF x=0):=hid (by rw[PE.out,h1];rfl);clear PE h1;have HAN:Hid (pg2=if(r.ag.take k).any (zEk x)then 4 else zAt agF zEk 4 r.ag (r.ag.drop (k+1)) (k+1)):=hid (zDg HAT.out F0.out);clear HAT F0;have c2:=HL2.out _ H6.out;go_wp2_with fail;clear c2;go_loopg [56] k (fun gh ix wq=>∃j:Nat,j+gh=k∧ix=.int .i64 j∧Hid ((RQ 39 cs w) wq)∧Hid (HasC 117 gx x.C wq)∧Hid ((r.ag.take k).any (zEk x)=((r.ag.take k).drop j).any (zEk x)));case atStart=>exact⟨0,by omega,rfl,H6,X6,hid rfl⟩
    case round=>
     obtain⟨j,hj,rfl,HQ,XQ,HAY⟩:=hrel;by_cases hjl:j<k;case neg=>
      have E:Hid (zAt agF zEk 4 r.ag (r.ag.drop (k+1)) (k+1)=pg2):=hid (zDt HAN.out HAY.out hjl).symm;go_wp2;go_roundg (r.ag.length - (k+1));case measure=>omega
      case rel=>exact⟨k+1,by omega,by go_num,HQ,E⟩
     have hjn:j<r.ag.length:=by omega
     obtain⟨g', o', c'', e',-,hg', R0⟩:=(HR.out.hag).elem (n:=3) (by decide) (fun _=>rfl) hjn;rw[HV.out]at e';injection e' with e1 e2 e3
     injection e1 with e1
     injection e1 with e1 e4
     subst e1 e4;have HST:=hid (zDr (all:=r.ag) (p:=zEk x) hjl hjn);have r1:=hid (zAf R0 (HQ.out.b.mono HBB.out) hg');clear R0 e2 e3;generalize r.ag[j]=y at HST r1;have hjk:(j:Int)<k:=by omega
     go_upto_region 21 with(first|(refine zAa rfl 117 _ rfl rfl r1.out Tryz.rowAg Tryz.sizeAg ?_)|(refine zAd rfl 117 _ _ rfl rfl rfl (HasC.new wr _ _) rfl Tryz.sizeAg (Ag.one y) ?_;intro w6 hz1 hz2))
     have H6:=hid (HQ.out.keep (zAi hz2));have X6:=hid (XQ.out.keep (zAi hz2));have Y6:=hz1;clear hz1 hz2 r1 HQ XQ;generalize wr.heap.size=gy at Y6⊢;replace Y6:=hid Y6;obtain⟨xc0,xc1⟩:=bl2 X6.out;obtain⟨yc0,yc1⟩:=bl2 Y6.out;have qe:∀w,(binOp .eql 90 (.agg #[.int .u32 (y.pa:Int),.int .i64 y.pl]) (.agg #[.int .u32 (x.pa:Int),.int .i64 x.pl])).run Tryz.prog w=.ok (.bool (decide (y.pa=x.pa∧y.pl=x.pl))) w:=fun w=>zFo y.pa x.pa y.pl x.pl w
     have gd:=Tryz.pfxGuard;have CC:Hid (zEk x y=decide (y.pa=x.pa∧y.pl=x.pl)):=hid rfl;generalize decide (y.pa=x.pa∧y.pl=x.pl)=bp at qe CC;cases bp with
     |false=>
      have EN:Hid ((r.ag.take k).any (zEk x)=((r.ag.take k).drop (j+1)).any (zEk x)):=hid (zCo HAY.out (by rw[HST.out,CC.out]));go_wp2;go_roundg (k - (j+1));case measure=>omega
      case rel=>exact⟨j+1,by omega,by go_num,H6,X6,EN⟩
     |true=>
      have E:Hid (pg2=4):=hid (zEp HAN.out HAY.out (by rw[HST.out,CC.out]));have E:=hid (zEq HP2.out E.out (show(4:Int)≠0 by decide));go_wp2;go_ret;exact⟨zAc E.out.symm,H6.out.b⟩
  have HAT:=hid (zCk hlt HG.out);obtain⟨g,o,c', e',-,hg,R0⟩:=(HR.out.hnet).elem (n:=2) (by decide) (fun _=>rfl) hlt;rw[HV.out]at e';injection e' with e1 e2 e3
  subst e1 e3;have r1:=hid (zAf R0 (HW.out.b.mono HBB.out) hg);have FX:=hid (HF.out _ (List.getElem_mem hlt));clear R0 HG e2;generalize r.net[k]=x at HAT r1 FX;go_upto_region 6 with(first|(refine zAa rfl 90 _ rfl rfl r1.out Tryz.rowPf Tryz.sizePf ?_)|(refine zAd rfl 90 _ _ rfl rfl rfl (HasC.new wr _ _) rfl Tryz.sizePf (Pf.one x) ?_;intro w5 hz1 hz2))
  have H5:=hid (HW.out.keep (zAi hz2));have X5:=hz1;clear hz1 hz2 r1 HW;generalize wr.heap.size=gx at X5⊢;replace X5:=hid X5;have PE:Hid (netF x=if zAv x.pa x.pl then 0 else 1):=hid rfl;obtain⟨xc0,xc1⟩:=bl2 X5.out;go_wp2_with fail;refine(zEn x.pa x.pl _ FX.out).mono ?_;rintro e w6 ⟨rfl,hb⟩;have H6:=hid (H5.out.keep hb);have X6:=hid (X5.out.keep hb);clear hb H5 X5 xc0 xc1;cases h1:zAv x.pa x.pl with
  |false=>
   have F1:Hid (netF x=1):=hid (by rw[PE.out,h1];rfl);have E:Hid (pg1=1):=hid ((zBe HAT.out (by rw[F1.out];decide)).trans (F1.out));have E:=hid (zEq HP1.out E.out (show(1:Int)≠0 by decide));go_wp2;go_ret;exact⟨zAc E.out.symm,H6.out.b⟩
  |true=>
  have F0:Hid (netF x=0):=hid (by rw[PE.out,h1];rfl);clear PE h1;have HAN:Hid (pg1=if(r.net.take k).any (zDu x)then 4 else zAt netF zDu 4 r.net (r.net.drop (k+1)) (k+1)):=hid (zDg HAT.out F0.out);clear HAT F0;have HLn:=hid (HV1.out ▸ HR.out.hnet);have PC:=hid (fun w' (h:RQ 39 cs w w')=>containsPf_any (r.net.take k) (.slice (some ⟨g,o,none⟩) k c1) x w' B (SlV.take (n:=2) (cells:=Pf.C) (by decide) (fun _=>rfl) (HLn.out.below (h.b.mono HBB.out)) (Nat.le_of_lt hlt)) (Nat.le_trans HBB.out h.b.size));have SC:Hid (∀w1 w2,(w1.cell? ⟨w.heap.size,4,none⟩=some (.slice (some ⟨g,o,none⟩) r.net.length c1)∧w1.cell? ⟨gx,0,none⟩=some (.int .u32 (x.pa:Int))∧w1.cell? ⟨gx,1,none⟩=some (.int .i64 x.pl)∧RQ 39 cs w w1)→Below w1.heap.size w1 w2→(w2.cell? ⟨w.heap.size,4,none⟩=some (.slice (some ⟨g,o,none⟩) r.net.length c1)∧w2.cell? ⟨gx,0,none⟩=some (.int .u32 (x.pa:Int))∧w2.cell? ⟨gx,1,none⟩=some (.int .i64 x.pl)∧RQ 39 cs w w2)):=hid (fun w1 w2 h hb=>⟨(hb.cell (World.block_lt_of_cell? _ _ h.1)).trans h.1,(hb.cell (World.block_lt_of_cell? _ _ h.2.1)).trans h.2.1,(hb.cell (World.block_lt_of_cell? _ _ h.2.2.1)).trans h.2.2.1,h.2.2.2.keep hb⟩);have HS0:Hid (w6.drew.cell? ⟨w.heap.size,4,none⟩=some (.slice (some ⟨g,o,none⟩) r.net.length c1)∧w6.drew.cell? ⟨gx,0,none⟩=some (.int .u32 (x.pa:Int))∧w6.drew.cell? ⟨gx,1,none⟩=some (.int .i64 x.pl)∧RQ 39 cs w w6.drew):=hid ⟨HL1.out _ (H6.out.keep (zAs _)),(X6.out.keep (zAs _)).cell 0,(X6.out.keep (zAs _)).cell 1,H6.out.keep (zAs _)⟩;generalize (r.net.take k).any (zDu x)=bc at PC HAN;have hkc:k≤c1:=by omega
  clear H6 X6;go_wp2_with fail;refine wp_region_held_drew (S:=fun w' => w'.cell? ⟨w.heap.size,4,none⟩=some (.slice (some ⟨g,o,none⟩) r.net.length c1)∧w'.cell? ⟨gx,0,none⟩=some (.int .u32 (x.pa:Int))∧w'.cell? ⟨gx,1,none⟩=some (.int .i64 x.pl)∧RQ 39 cs w w') (by kernel_rfl) (HS0.out) (fun hHeld=>?_);refine wpAnyH_take (i:=0) (oi:={ dst:=some 28,op:=Op.fieldAddr 39 (Operand.tmp 1) 4,type:=0,pos := "protocols.go:128", after:=#[],guard:=none }) (v:=?_) rfl (by kernel_rfl) (by kernel_rfl) (by kernel_rfl) (fun _ _ _ h=>h) (Or.inl ⟨by rfl,?_⟩) (by assumption) ?_;rotate_left
  ·(intro w hSw;(try dsimp only at hSw);go_simp;try with_reducible rfl)
  try simp only[Act.put,List.setIfInBounds_toArray,List.set_cons_zero,List.set_cons_succ]
  refine wpAnyH_take (i:=1) (oi:={ dst:=some 29,op:=Op.load 35 (Operand.tmp 28),type:=35,pos := "protocols.go:128", after:=#[{ on:=0,ground:=Ground.data }],guard:=none }) (v:=?_) rfl (by kernel_rfl) (by kernel_rfl) (by kernel_rfl) (fun _ _ _ h=>h) (Or.inl ⟨by rfl,?_⟩) (by assumption) ?_;rotate_left
  ·(intro w hSw;(try dsimp only at hSw);go_simp;try with_reducible rfl)
  try simp only[Act.put,List.setIfInBounds_toArray,List.set_cons_zero,List.set_cons_succ]
  refine wpAnyH_take (i:=2) (oi:={ dst:=some 30,op:=Op.move (Operand.tmp 3),type:=3,pos := "protocols.go:128", after:=#[],guard:=none }) (v:=?_) rfl (by kernel_rfl) (by kernel_rfl) (by kernel_rfl) (fun _ _ _ h=>h) (Or.inl ⟨by rfl,?_⟩) (by assumption) ?_;rotate_left
  ·(intro w hSw;(try dsimp only at hSw);go_simp;try with_reducible rfl)
  try simp only[Act.put,List.setIfInBounds_toArray,List.set_cons_zero,List.set_cons_succ]
  refine wpAnyH_take (i:=3) (oi:={ dst:=some 31,op:=Op.slice 35 (Operand.tmp 29) none (some (Operand.tmp 30)) none,type:=35,pos := "protocols.go:128", after:=#[{ on:=1,ground:=Ground.data },{ on:=2,ground:=Ground.data }],guard:=none }) (v:=?_) rfl (by kernel_rfl) (by kernel_rfl) (by kernel_rfl) (fun _ _ _ h=>h) (Or.inl ⟨by rfl,?_⟩) (by assumption) ?_;rotate_left
  ·(intro w hSw;(try dsimp only at hSw);go_simp;try with_reducible rfl)
  try simp only[Act.put,List.setIfInBounds_toArray,List.set_cons_zero,List.set_cons_succ]
  refine wpAnyH_take (i:=4) (oi:={ dst:=some 32,op:=Op.load 90 (Operand.tmp 4),type:=90,pos := "protocols.go:128", after:=#[],guard:=none }) (v:=?_) rfl (by kernel_rfl) (by kernel_rfl) (by kernel_rfl) (fun _ _ _ h=>h) (Or.inl ⟨by rfl,?_⟩) (by assumption) ?_;rotate_left
  ·(intro w hSw;(try dsimp only at hSw);go_simp;try with_reducible rfl)
  try simp only[Act.put,List.setIfInBounds_toArray,List.set_cons_zero,List.set_cons_succ]
  refine wpAnyH_ready (rs:=[5]) (by kernel_rfl) (by simp) ?_;refine AllReadyH.cons (o:={ dst:=some 33,op:=Op.call { callee:=Callee.value (Operand.func 132),args:=#[Operand.tmp 31,Operand.tmp 32],argTypes:=#[35,90] },type:=4,pos := "protocols.go:128", after:=#[{ on:=3,ground:=Ground.data },{ on:=4,ground:=Ground.data }],guard:=none }) rfl (fun K hK=>?_) AllReadyH.nil
  go_simp
  with_reducible refine(PC.out _ hHeld.2.2.2).mono ?_
  rintro e wa ⟨rfl,hb⟩;refine hK.out _ _ (SC.out _ _ hHeld hb) (fun hHeld=>?_);clear hK K
  try simp only[Act.put,List.setIfInBounds_toArray,List.set_cons_zero,List.set_cons_succ]
  refine wpAnyH_done (by kernel_rfl) ?_ _;clear PC SC HS0;have H7:=hid hHeld.2.2.2;clear hHeld;cases bc with
  |true=>
   have E:Hid (pg1=4):=hid HAN.out;have E:=hid (zEq HP1.out E.out (by decide));go_wp2;go_ret;exact⟨zAc E.out.symm,H7.out.b⟩
  |false=>
   have E:Hid (zAt netF zDu 4 r.net (r.net.drop (k+1)) (k+1)=pg1):=hid HAN.out.symm;go_wp2;go_roundg (r.net.length - (k+1));case measure=>omega
   case rel=>exact⟨k+1,by omega,by go_num,H7,E⟩
theorem Tryz.rowPV:(Tryz.prog.underlying 39).map TypeDesc.isRow=some true:=by kernel_rfl
theorem Tryz.sizePV:(Tryz.prog.info? 39).map (·.size)=some 8:=by kernel_rfl
def pvE(r:Rt):Int:=if r.pvOn then(if !(r.asn==0)&&zAb r.ext 1 255&&zAb r.int 1 255 then(if nbsE r.maps r.nb=0 then(if origE r=0 then redE r.maps 5 0 16777215 0 r.pvRed else origE r)else nbsE r.maps r.nb)else 1)else if !(r.ext==0)||(!(r.int==0)||(decide ((0:Int)<r.nb.length)||(decide ((0:Int)<r.net.length)||(decide ((0:Int)<r.ag.length)||(decide ((0:Int)<r.cd.length)||decide ((0:Int)<r.pvRed.length))))))then 1 else 0
theorem zHw(r:Rt)(w:World)(B:Nat)(h:r.at w B)(hB:B≤w.heap.size)(hf1:∀x∈r.net,x.fit)(hf2:∀x∈r.ag,x.fit)(hf3:∀x∈r.cd,x.fit):Calls Tryz.prog 37 #[.agg r.C] w fun e w' => e=.returned (.int .i64 (pvE r))∧Below w.heap.size w w' := by
 have H0:=RB.start r w;have HR:=hid h;have HBB:=hid hB;obtain⟨A1,c1,hv1,hle1,-⟩:=h.hnb;obtain⟨A2,c2,hv2,hle2,-⟩:=h.hnet;obtain⟨A3,c3,hv3,hle3,-⟩:=h.hag;obtain⟨A4,c4,hv4,hle4,-⟩:=h.hcd;obtain⟨A5,c5,hv5,hle5,-⟩:=h.hpvRed;have HLR:=h.hpvRed;rw[hv5]at HLR;replace HLR:=hid HLR;have PN:=hid (fun w' (h' : HasC 41 w.heap.size r.C w') (hb:Below w.heap.size w w')=>zIo r w' B (h.below (hb.mono hB)) (Nat.le_trans hB hb.size));have PO:=hid (fun w' (hb:Below w.heap.size w w')=>zKb r w' B (h.below (hb.mono hB)) (Nat.le_trans hB hb.size) hf1 hf2 hf3);unfold Rt.pvC at PO;rw[hv1,hv2,hv3,hv4,hv5]at PO;clear h hB hf1 hf2 hf3
 have HO:(#[.bool r.pvOn,.int .i64 r.ext,.int .i64 r.int,.slice A1 r.nb.length c1,.slice A2 r.net.length c2,.slice A3 r.ag.length c3,.slice A4 r.cd.length c4,.slice A5 r.pvRed.length c5]:Array Value).all (·.oneCell')=true:=by
  rw[Array.all_eq_true_iff_forall_mem];intro v hv;simp only[List.mem_toArray,List.mem_cons,List.not_mem_nil,or_false]at hv;rcases hv with rfl|rfl|rfl|rfl|rfl|rfl|rfl|rfl<;>rfl
 have HS:(w.alloc (.cells r.C 41)).rangeAt w.heap.size 17 (#[.bool r.pvOn,.int .i64 r.ext,.int .i64 r.int,.slice A1 r.nb.length c1,.slice A2 r.net.length c2,.slice A3 r.ag.length c3,.slice A4 r.cd.length c4,.slice A5 r.pvRed.length c5]:Array Value).toList:=H0.h.subM 17 #[.bool r.pvOn,.int .i64 r.ext,.int .i64 r.int,.slice A1 r.nb.length c1,.slice A2 r.net.length c2,.slice A3 r.ag.length c3,.slice A4 r.cd.length c4,.slice A5 r.pvRed.length c5] (fun j hj=>by
  have hj' : j<8:=hj
  rcases(show j=0∨j=1∨j=2∨j=3∨j=4∨j=5∨j=6∨j=7 by omega)with rfl|rfl|rfl|rfl|rfl|rfl|rfl|rfl<;>first|rfl|(show some _=some _;simp only[Option.some.injEq];assumption))
 clear hv1 hv2 hv3 hv4 hv5;have E:Hid (pvE r=if r.pvOn then(if !(r.asn==0)&&zAb r.ext 1 255&&zAb r.int 1 255 then(if nbsE r.maps r.nb=0 then(if origE r=0 then redE r.maps 5 0 16777215 0 r.pvRed else origE r)else nbsE r.maps r.nb)else 1)else if !(r.ext==0)||(!(r.int==0)||(decide ((0:Int)<r.nb.length)||(decide ((0:Int)<r.net.length)||(decide ((0:Int)<r.ag.length)||(decide ((0:Int)<r.cd.length)||decide ((0:Int)<r.pvRed.length))))))then 1 else 0):=hid rfl;generalize pvE r=res at E⊢;have H0h:=hid H0;have HSh:=hid HS;clear H0 HS HO;go_enter Tryz.func37,Tryz.ntmps37;go_upto_region 2 with(refine zAa rfl 39 _ rfl rfl HSh.out Tryz.rowPV Tryz.sizePV ?_)
 have H5:Hid (RBL r w 39 (w.alloc (.cells r.C 41)).heap.size #[.bool r.pvOn,.int .i64 r.ext,.int .i64 r.int,.slice A1 r.nb.length c1,.slice A2 r.net.length c2,.slice A3 r.ag.length c3,.slice A4 r.cd.length c4,.slice A5 r.pvRed.length c5] ((w.alloc (.cells r.C 41)).alloc (.cells #[.bool r.pvOn,.int .i64 r.ext,.int .i64 r.int,.slice A1 r.nb.length c1,.slice A2 r.net.length c2,.slice A3 r.ag.length c3,.slice A4 r.cd.length c4,.slice A5 r.pvRed.length c5] 39))):=hid ⟨(H0h.out.keep ((Below.refl _ _).alloc (Nat.le_refl _) _)).h,(H0h.out.keep ((Below.refl _ _).alloc (Nat.le_refl _) _)).b,HasC.new _ _ _⟩;clear H0h HSh;generalize hw5:(w.alloc (.cells r.C 41)).alloc (.cells #[.bool r.pvOn,.int .i64 r.ext,.int .i64 r.int,.slice A1 r.nb.length c1,.slice A2 r.net.length c2,.slice A3 r.ag.length c3,.slice A4 r.cd.length c4,.slice A5 r.pvRed.length c5] 39)=w5 at H5⊢;clear hw5;rw[show(w.alloc (.cells r.C 41)).heap.size=w.heap.size+1 from by simp]at H5;generalize w.heap.size+1=gl at H5⊢;obtain⟨lc0,lc1,lc2,lc3,lc4,lc5,lc6,lc7⟩:=bl8 H5.out.l;cases hon:r.pvOn with
 |false=>
  rw[hon]at lc0;have EF:Hid (res=if !(r.ext==0)||(!(r.int==0)||(decide ((0:Int)<r.nb.length)||(decide ((0:Int)<r.net.length)||(decide ((0:Int)<r.ag.length)||(decide ((0:Int)<r.cd.length)||decide ((0:Int)<r.pvRed.length))))))then 1 else 0):=hid (by rw[E.out,hon];rfl);clear hon E PN PO HLR HR;by_cases ha:r.ext=0;case neg=>
   have d1:(r.ext==0)=false:=by simpa using ha
   have d2:(r.ext != 0)=true:=by simpa using ha
   clear ha;go_wp2;go_ret;exact⟨zAc (by rw[EF.out,d1];rfl),H5.out.b⟩
  rw[ha]at lc1;replace EF:Hid (res=if !(r.int==0)||(decide ((0:Int)<r.nb.length)||(decide ((0:Int)<r.net.length)||(decide ((0:Int)<r.ag.length)||(decide ((0:Int)<r.cd.length)||decide ((0:Int)<r.pvRed.length)))))then 1 else 0):=hid (by rw[EF.out,ha];rfl);clear ha;by_cases ha:r.int=0;case neg=>
   have d1:(r.int==0)=false:=by simpa using ha
   have d2:(r.int != 0)=true:=by simpa using ha
   clear ha;go_wp2;go_ret;exact⟨zAc (by rw[EF.out,d1];rfl),H5.out.b⟩
  rw[ha]at lc2;have EF0:Hid (res=if decide ((0:Int)<r.nb.length)||(decide ((0:Int)<r.net.length)||(decide ((0:Int)<r.ag.length)||(decide ((0:Int)<r.cd.length)||decide ((0:Int)<r.pvRed.length))))then 1 else 0):=hid (by rw[EF.out,ha];rfl);clear ha EF;generalize r.nb.length=n1 at *;generalize r.net.length=n2 at *;generalize r.ag.length=n3 at *;generalize r.cd.length=n4 at *;generalize r.pvRed.length=n5 at *;by_cases z1:n1=0;case neg=>
   have z1' : 0<n1:=by omega
   go_wp2_with fail
   all_goals (go_ret;exact⟨zAc (by rw[EF0.out,decide_eq_true (show(0:Int)<n1 by omega)];rfl),H5.out.b⟩)
  subst z1;have EF1:Hid (res=if decide ((0:Int)<n2)||(decide ((0:Int)<n3)||(decide ((0:Int)<n4)||(decide ((0:Int)<n5))))then 1 else 0):=hid (by rw[EF0.out];rfl);clear EF0;by_cases z2:n2=0;case neg=>
   have z2' : 0<n2:=by omega
   go_wp2_with fail
   all_goals (go_ret;exact⟨zAc (by rw[EF1.out,decide_eq_true (show(0:Int)<n2 by omega)];rfl),H5.out.b⟩)
  subst z2;have EF2:Hid (res=if decide ((0:Int)<n3)||(decide ((0:Int)<n4)||(decide ((0:Int)<n5)))then 1 else 0):=hid (by rw[EF1.out];rfl);clear EF1;by_cases z3:n3=0;case neg=>
   have z3' : 0<n3:=by omega
   go_wp2_with fail
   all_goals (go_ret;exact⟨zAc (by rw[EF2.out,decide_eq_true (show(0:Int)<n3 by omega)];rfl),H5.out.b⟩)
  subst z3;have EF3:Hid (res=if decide ((0:Int)<n4)||(decide ((0:Int)<n5))then 1 else 0):=hid (by rw[EF2.out];rfl);clear EF2;by_cases z4:n4=0;case neg=>
   have z4' : 0<n4:=by omega
   go_wp2_with fail
   all_goals (go_ret;exact⟨zAc (by rw[EF3.out,decide_eq_true (show(0:Int)<n4 by omega)];rfl),H5.out.b⟩)
  subst z4;have EF4:Hid (res=if decide ((0:Int)<n5)then 1 else 0):=hid (by rw[EF3.out];rfl);clear EF3;by_cases z5:n5=0;case neg=>
   have z5' : 0<n5:=by omega
   go_wp2_with fail
   all_goals (go_ret;exact⟨zAc (by rw[EF4.out,decide_eq_true (show(0:Int)<n5 by omega)];rfl),H5.out.b⟩)
  subst z5;go_wp2;go_ret;exact⟨zAc (by rw[EF4.out];rfl),H5.out.b⟩
 |true=>
 rw[hon]at lc0;have ET:Hid (res=if !(r.asn==0)&&zAb r.ext 1 255&&zAb r.int 1 255 then(if nbsE r.maps r.nb=0 then(if origE r=0 then redE r.maps 5 0 16777215 0 r.pvRed else origE r)else nbsE r.maps r.nb)else 1):=hid (by rw[E.out,hon];rfl);clear hon E;have a1:=cl1 H5.out.h;by_cases ha:r.asn=0
 ·have d1:(r.asn==0)=true:=by simpa using ha
  clear ha;go_wp2;go_ret;exact⟨zAc (by rw[ET.out,d1];rfl),H5.out.b⟩
 have d1:(r.asn==0)=false:=by simpa using ha
 clear ha;cases hw1:zAb r.ext 1 255 with
 |false=>
  go_wp2_with (go_at_call 27;refine(zAr _ _ _ _).mono ?_;rintro e w' ⟨rfl,rfl⟩);go_ret;exact⟨zAc (by rw[ET.out,d1,hw1];rfl),H5.out.b⟩
 |true=>
 cases hw2:zAb r.int 1 255 with
 |false=>
  go_wp2_with (go_at_call 27;refine(zAr _ _ _ _).mono ?_;rintro e w' ⟨rfl,rfl⟩);go_ret;exact⟨zAc (by rw[ET.out,d1,hw1,hw2];rfl),H5.out.b⟩
 |true=>
 have EN:Hid (res=if nbsE r.maps r.nb=0 then(if origE r=0 then redE r.maps 5 0 16777215 0 r.pvRed else origE r)else nbsE r.maps r.nb):=hid (by rw[ET.out,d1,hw1,hw2];rfl);clear ET;go_wp2_with (first|(go_at_call 27;refine(zAr _ _ _ _).mono ?_;rintro e w' ⟨rfl,rfl⟩)|(refine zAa rfl 41 _ rfl rfl H5.out.h.range Tryz.rowRt Tryz.sizeRt ?_));clear a1 d1 hw1 hw2 lc0 lc1 lc2 lc3 lc4 lc5 lc6 lc7;with_reducible refine(PN.out _ H5.out.h H5.out.b).mono ?_
 rintro e w6 ⟨rfl,hb⟩;have H6:=hid (H5.out.keep hb);clear hb H5;by_cases he:nbsE r.maps r.nb=0;case neg=>
  have E1:Hid (res=nbsE r.maps r.nb):=hid (by rw[EN.out,if_neg he]);generalize nbsE r.maps r.nb=e1 at *;have dn:(e1 != 0)=true:=by simpa using he
  clear he;go_wp2;go_ret;exact⟨zAc E1.out.symm,H6.out.b⟩
 have EO:Hid (res=if origE r=0 then redE r.maps 5 0 16777215 0 r.pvRed else origE r):=hid (by rw[EN.out,if_pos he]);clear EN;rw[he];clear he;go_wp2_with (first|(refine zAa rfl 39 _ rfl rfl H6.out.l.range Tryz.rowPV Tryz.sizePV ?_));with_reducible refine(PO.out _ H6.out.b).mono ?_
 rintro e w7 ⟨rfl,hb⟩;have H7:=hid (H6.out.keep hb);clear hb H6;by_cases he:origE r=0;case neg=>
  have E1:Hid (res=origE r):=hid (by rw[EO.out,if_neg he]);generalize origE r=e1 at *;have dn:(e1 != 0)=true:=by simpa using he
  clear he;go_wp2;go_ret;exact⟨zAc E1.out.symm,H7.out.b⟩
 have E2:Hid (res=redE r.maps 5 0 16777215 0 r.pvRed):=hid (by rw[EO.out,if_pos he]);clear EO;rw[he];clear he;have l7:=cl7 H7.out.l;go_wp2_with (first|fail|(refine zAa rfl 41 _ rfl rfl H7.out.h.range Tryz.rowRt Tryz.sizeRt ?_));with_reducible refine(zCz r r.pvRed (.slice A5 r.pvRed.length c5) 5 0 16777215 0 _ B (HR.out.below (H7.out.b.mono HBB.out)) (HLR.out.below (H7.out.b.mono HBB.out)) (Nat.le_trans HBB.out H7.out.b.size)).mono ?_
 rintro e wz ⟨rfl,hb⟩;have HZ:=hid (H7.out.keep hb);clear hb;go_wp2;go_ret;exact⟨zAc E2.out.symm,HZ.out.b⟩
def secsE(r:Rt):List Int:=[ifsE r.ifs,plsE r.lists,mapsE r.lists r.maps,aclsE r.acls,natsE r.acls r.nat,zAl (filtE r.acls) r.ifs,zJo r.ifs r.stat,lnkE r,dvE r,pvE r]
def zBp(r:Rt):Int:=if !nameB r.name then 3 else if !zAb r.asn 0 65535 then 1 else zAl (fun e=>e) (secsE r)
theorem first_drop{L:List Int}{res:Int}{k:Nat}(hk:k<L.length)(h:zAl (fun e=>e) (L.drop k)=res):(L[k]≠0∧L[k]=res)∨(L[k]=0∧zAl (fun e=>e) (L.drop (k+1))=res):=by
 rw[←List.getElem_cons_drop hk]at h;unfold zAl at h;by_cases h0:L[k]=0
 ·rw[if_pos h0]at h;exact .inr ⟨h0,h⟩
 ·rw[if_neg h0]at h;exact .inl ⟨h0,h⟩
def secF:List FuncId:=[28,29,30,31,32,33,34,35,36,37]
def secC:Array Value:=#[.func (.func 28) #[] #[],.func (.func 29) #[] #[],.func (.func 30) #[] #[],.func (.func 31) #[] #[],.func (.func 32) #[] #[],.func (.func 33) #[] #[],.func (.func 34) #[] #[],.func (.func 35) #[] #[],.func (.func 36) #[] #[],.func (.func 37) #[] #[]]
theorem sec_calls(r:Rt)(W:World)(B:Nat)(h:r.at W B)(hB:B≤W.heap.size)(hf:r.fit)(k:Nat)(hk:k<10)(f:FuncId)(x:Int)(hF:secF[k]? = some f)(hx:(secsE r)[k]? = some x):secC[k]? = some (.func (.func f) #[] #[])∧(∀args w,Sem.run Tryz.prog (callFunc f args) w=.ok (.enter f args) w)∧Calls Tryz.prog f #[.agg r.C] W fun e w' => e=.returned (.int .i64 x)∧Below W.heap.size W w' := by
 unfold Rt.fit at hf;rcases(show k=0∨k=1∨k=2∨k=3∨k=4∨k=5∨k=6∨k=7∨k=8∨k=9 by omega)with rfl|rfl|rfl|rfl|rfl|rfl|rfl|rfl|rfl|rfl
 all_goals (obtain rfl:=Option.some.inj hF;obtain rfl:=Option.some.inj hx;refine⟨rfl,fun _ _=>(by go_simp),?_⟩)
 ·exact zHp r W B h hB hf.1
 ·exact zHj r W B h hB hf.2.1
 ·exact zIm r W B h hB 
 ·exact checkACLs_any r W B h hB hf.2.2.2.1
 ·exact checkNAT_any r W B h hB hf.2.2.2.2.1
 ·exact zKc r W B h hB 
 ·exact zKe r W B h hB hf.2.2.2.2.2.1
 ·exact zIe r W B h hB hf.2.2.2.2.2.2.1
 ·exact zGl r W B h hB 
 ·exact zHw r W B h hB hf.2.2.2.2.2.2.2.2.2.2.1 hf.2.2.2.2.2.2.2.2.2.2.2.1 hf.2.2.2.2.2.2.2.2.2.2.2.2.1
theorem zHa(r:Rt)(w:World)(B:Nat)(h:r.at w B)(hB:B≤w.heap.size)(hf:r.fit):Calls Tryz.prog 8 #[.agg r.C] w fun e w' => e=.returned (.int .i64 (zBp r))∧Below w.heap.size w w' := by
 have H0:=hid (RB.start r w);have HR:=hid h;unfold Rt.fit at hf;have HFT:=hid hf;have HBB:=hid hB;clear h hf hB;have E:Hid (zBp r=if !nameB r.name then 3 else if !zAb r.asn 0 65535 then 1 else zAl (fun e=>e) (secsE r)):=hid rfl;generalize zBp r=res at E⊢;have c0:(w.alloc (.cells r.C 41)).cell? ⟨w.heap.size,0,none⟩=some (.string (str r.name)):=H0.out.h.cell 0;have c1:=cl1 H0.out.h;go_enter Tryz.func8,Tryz.ntmps8;go_wp2_with fail;generalize hwz:w.alloc (.cells r.C 41)=wz at *;clear hwz;refine(nameL r.name _).mono ?_;rintro e w' ⟨rfl,rfl⟩;cases hn:nameB r.name with
 |false=>
  go_wp2;go_ret;exact⟨zAc (by rw[E.out,hn];rfl),H0.out.b⟩
 |true=>
 cases hw:zAb r.asn 0 65535 with
 |false=>
  go_wp2_with (go_at_call 27;refine(zAr _ _ _ _).mono ?_;rintro e w' ⟨rfl,rfl⟩);go_ret;exact⟨zAc (by rw[E.out,hn,hw];rfl),H0.out.b⟩
 |true=>
 have ES:Hid (zAl (fun e=>e) (secsE r)=res):=hid (by rw[E.out,hn,hw];rfl);clear E hn;go_wp2_with (go_at_call 27;refine(zAr _ _ _ _).mono ?_;rintro e w' ⟨rfl,rfl⟩);have HC0:Hid (HasC 56 wz.heap.size secC (wz.alloc (.cells secC 56))):=hid (HasC.new _ _ _);have H1:=hid (H0.out.keep ((Below.refl _ _).alloc (Nat.le_refl _) (.cells secC 56)));clear c0 c1 hw H0;change Code.wp _ _ _ _ (wz.alloc (.cells secC 56));generalize wz.alloc (.cells secC 56)=wy at HC0 H1⊢;generalize wz.heap.size=gs at HC0⊢;have SC:=hid (fun W (hW:RB r w W)=>sec_calls r W B (HR.out.below (hW.b.mono HBB.out)) (Nat.le_trans HBB.out hW.b.size) HFT.out);have hl10:(secsE r).length=10:=rfl;generalize secC=cs at HC0 SC;generalize secsE r=L at *;go_loopg [18] 10 (fun gh ix wr=>∃k:Nat,k+gh=10∧ix=.int .i64 k∧Hid (RB r w wr)∧Hid (HasC 56 gs cs wr)∧Hid (zAl (fun e=>e) (L.drop k)=res));case atStart=>exact⟨0,by omega,rfl,H1,HC0,ES⟩
 case round=>
  clear HC0 H1 ES;obtain⟨k,hk,rfl,HW,HC,HG⟩:=hrel;by_cases hlt:k<10;case neg=>
   have hkz:¬((k:Int)<10):=by omega
   have E:Hid (res=0):=hid (by rw[←HG.out,List.drop_of_length_le (by omega)];rfl);go_wp2;go_ret;exact⟨zAc E.out.symm,HW.out.b⟩
  have hkz:(k:Int)<10:=by omega
  have hkl:k<L.length:=by omega
  obtain⟨f,hf⟩:∃f,secF[k]? = some f:=⟨_,List.getElem?_eq_getElem (show k<secF.length from hlt)⟩;obtain⟨hc,hcf,CK⟩:=SC.out wr HW.out k hlt f L[k] hf (List.getElem?_eq_getElem hkl);have ck:wr.cell? ⟨gs,k,none⟩=some (.func (.func f) #[] #[]):=(HC.out.cell k).trans hc;have FD:=first_drop hkl HG.out;replace CK:=hid CK;replace FD:=hid FD;clear hc hf HG;generalize L[k]=x at CK FD;go_wp2_with (refine zAa rfl 41 _ rfl rfl HW.out.h.range Tryz.rowRt Tryz.sizeRt ?_);refine CK.out.mono ?_;rintro e w6 ⟨rfl,hb⟩;have H6:=hid (HW.out.keep hb);have HC6:=hid (HC.out.keep hb);clear hb HW HC ck CK hcf;rcases FD.out with⟨h0,h1⟩|⟨h0,h1⟩
  ·have E:=hid h1
   have d1:(x != 0)=true:=by simpa using h0
   clear h0 h1 FD;go_wp2;go_ret;exact⟨zAc E.out,H6.out.b⟩
  ·subst h0
   have E:=hid h1;clear h1 FD;go_wp2;go_roundg (10 - (k+1));case measure=>omega
   case rel=>exact⟨k+1,by omega,by go_num,H6,HC6,E⟩
end Go.Proofs.YthcnojmldldpeaaGreatDoor
