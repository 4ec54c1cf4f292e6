/- The reference's FormatAlpha: its walk. Conditions: the router lies in memory, addresses are numbers below 2^32, the lists of path-vector routing are short. -/
import Derived.Test.YthcnojmldldpeaaGreatDoorGao
import Derived.Test.YthcnojmldldpeaaGreatDoorGal
import Derived.Test.YthcnojmldldpeaaGreatDoorGaq
namespace Go.Proofs.YthcnojmldldpeaaGreatDoor
open Lib (hid)
open Go.RowKit
theorem fmt_parts(r:Rt):textA (fmtL r)=(lnW (false,[[104,111,115,116,110,97,109,101],r.name])++(textA (optL (!(r.asn==0)) [(false,[[97,115],decI r.asn])])++((textA (ifsA r)++(textA (zEa r)++(textA (fwdA r)++(textA (lsA r)++(textA (dvA r)++textA (pvA r))))))++([]:List UInt8)))):=by
 simp only[fmtL,headA,zAk,zDn,List.append_nil,List.cons_append]
set_option maxRecDepth 100000 in
set_option maxHeartbeats 8000000 in
theorem raformat_walk(r:Rt)(w:World)(B:Nat)(h:r.at w B)(hB:B≤w.heap.size)(hf:r.fit)(hps:r.nb.length+r.net.length+r.ag.length+r.cd.length+r.pvRed.length≤1000000) :
  Calls Tryz.prog 6 #[.agg r.C] w fun e w' => e=.returned (.tuple #[.string (str (zHu zBp r).1),.int .i64 (zHu zBp r).2])∧Below w.heap.size w w' := by
 have H0:=hid (RB.start r w);have HR:=hid h;have HBB:=hid hB;have HF:=hid hf;obtain⟨F,hF⟩:∃F,zHu zBp r=F:=⟨_,rfl⟩;rw[hF];replace hF:=hid hF.symm;clear h hB hf;go_enter Tryz.func6,Tryz.ntmps6;go_wp2_with (refine zAa rfl 41 _ rfl rfl H0.out.h.range Tryz.rowRt Tryz.sizeRt ?_);refine(rcheck_all r _ B (Nat.le_trans HBB.out H0.out.b.size) (HR.out.below (H0.out.b.mono HBB.out)) HF.out hps).mono ?_;rintro e w6 ⟨rfl,hb⟩;have H6:=hid (H0.out.keep hb);clear hb H0 hps;by_cases hv:zBp r=0;case neg=>
  have E:F=([],zBp r):=hF.out.trans (if_neg hv);clear hF;have dn:(zBp r != 0)=true:=by simpa using hv
  clear hv;generalize zBp r=x at E dn⊢;subst E;go_wp2_with fail;go_ret2;exact⟨rfl,H6.out.b⟩
 have HV:=hid (zJb hv HF.out);have HV2:=hid (valid_more hv HF.out);have HSH:=hid (zGz hv);have HX:Hid (F=if 65536<(textA (fmtL r)).length then([],7)else(textA (fmtL r),0)):=hid (hF.out.trans (if_pos hv));have HL:Hid ((textA (fmtL r)).length≤140737488355328):=hid (Nat.le_trans (valid_textA hv) (by decide));rw[hv];clear hF hv HF;obtain⟨tot,htot⟩:∃tot,tot=textA (fmtL r):=⟨_,rfl⟩;rw[←htot]at HX;have HQ0:Hid (([]:List UInt8)++(lnW (false,[[104,111,115,116,110,97,109,101],r.name])++(textA (optL (!(r.asn==0)) [(false,[[97,115],decI r.asn])])++((textA (ifsA r)++(textA (zEa r)++(textA (fwdA r)++(textA (lsA r)++(textA (dvA r)++textA (pvA r))))))++([]:List UInt8))))=tot):=hid (by rw[htot,fmt_parts];rfl);have HM0:Hid (([]:List UInt8).length+((lnW (false,[[104,111,115,116,110,97,109,101],r.name])++(textA (optL (!(r.asn==0)) [(false,[[97,115],decI r.asn])])++((textA (ifsA r)++(textA (zEa r)++(textA (fwdA r)++(textA (lsA r)++(textA (dvA r)++textA (pvA r))))))++([]:List UInt8))))).length≤140737488355328):=hid (by have:=HL.out;rw[fmt_parts]at this;simp only[List.length_nil,Nat.zero_add];exact this);have hz0:=HM0.out;simp only[List.length_append,List.length_nil]at hz0;have z1:Hid ((textA (ifsA r)).length≤140737488355328∧(textA (zEa r)).length≤140737488355328∧(textA (fwdA r)).length≤140737488355328∧(textA (lsA r)++(textA (dvA r)++textA (pvA r))).length≤140737488355328):=hid ⟨by omega,by omega,by omega,by simp only[List.length_append];omega⟩;clear hz0 htot HL;have H:Hid (YA [(41,w.heap.size,r.C)] w w6):=hid ⟨fun e he=>(by obtain rfl:=List.mem_singleton.1 he;exact H6.out.h),H6.out.b⟩;clear H6;have HRT:Hid (∀W,Below w.heap.size w W→r.at W B∧B≤W.heap.size):=hid fun W hk=>⟨HR.out.below (hk.mono HBB.out),Nat.le_trans HBB.out hk.size⟩
 clear HR HBB;go_upto_region 4 with fail
 have c0:w6.cell? ⟨w.heap.size,0,none⟩=some (.string (str r.name)):=H.out.a.cell 0;go_upto_region 4 with fail
 try simp only[Act.put]
 go_cut [5] (fun v wx=>v=.string (str (([]:List UInt8)++lnW (false,[[104,111,115,116,110,97,109,101],r.name])))∧YA [(41,w.heap.size,r.C)] w wx)
 case first=>
  have hj:([]:List UInt8).length+(lnW (false,[[104,111,115,116,110,97,109,101],r.name])).length≤140737488355328:=(by have:=HM0.out;simp only[List.length_append]at this⊢;omega);go_wp2_with (refine zAh rfl rfl rfl rfl (by simp[lnW,joinW]at hj⊢;omega) ?_);go_meet;exact⟨by simp[lnW,joinW],H.out⟩
 case rest=>
 clear H c0;obtain⟨rfl,hcut⟩:=hcut;have H:=hid hcut;clear hcut;obtain⟨q1,hp⟩:∃zz,zz=([]:List UInt8)++lnW (false,[[104,111,115,116,110,97,109,101],r.name]):=⟨_,rfl⟩;rw[←hp];have HM2:Hid (q1.length+((textA (optL (!(r.asn==0)) [(false,[[97,115],decI r.asn])])++((textA (ifsA r)++(textA (zEa r)++(textA (fwdA r)++(textA (lsA r)++(textA (dvA r)++textA (pvA r))))))++([]:List UInt8)))).length≤140737488355328):=hid (by have:=HM0.out;rw[hp];simp only[List.length_append]at this⊢;omega);have HQ2:Hid (q1++(textA (optL (!(r.asn==0)) [(false,[[97,115],decI r.asn])])++((textA (ifsA r)++(textA (zEa r)++(textA (fwdA r)++(textA (lsA r)++(textA (dvA r)++textA (pvA r))))))++([]:List UInt8)))=tot):=hid (by rw[hp];exact(List.append_assoc _ _ _).trans HQ0.out);clear hp HM0 HQ0;have HM:=HM2;have HQ:=HQ2;clear HM2 HQ2;have c1:wc.cell? ⟨w.heap.size,1,none⟩=some (.int .i64 r.asn):=H.out.a.cell 1;go_upto_if 17 with fail
 go_cut [5] (fun v wx=>v=.string (str (q1++textA (optL (!(r.asn==0)) [(false,[[97,115],decI r.asn])])))∧YA [(41,w.heap.size,r.C)] w wx)
 case first=>
  cases hc:(!(r.asn==0))with
  |true=>
   have E:textA (optL (!(r.asn==0)) [(false,[[97,115],decI r.asn])])=lnW (false,[[97,115],decI r.asn]):=zAw hc;have hj:q1.length+(lnW (false,[[97,115],decI r.asn])).length≤140737488355328:=(by rw[←E];have:=HM.out;simp only[List.length_append]at this⊢;omega);have hs:(r.asn != 0)=true:=hc;rw[hs];refine wp_cond_true rfl ?_;go_wp2_with (refine zAh rfl rfl rfl rfl (by simp[lnW,joinW]at hj⊢;omega) ?_);refine(zBm r.asn _ HV.out.asn.1 (by have:=HV.out.asn.2;omega)).mono ?_;rintro e w1 ⟨rfl,rfl⟩;go_wp2_with (refine zAh rfl rfl rfl rfl (by simp[lnW,joinW]at hj⊢;omega) ?_);go_meet;exact⟨by rw[E];simp[lnW,joinW],H.out⟩
  |false=>
   have hs:(r.asn != 0)=false:=hc;rw[hs];refine wp_cond_false rfl ?_;go_wp2;go_meet;exact⟨by rw[show textA (optL (!(r.asn==0)) [(false,[[97,115],decI r.asn])])=[]from zAn hc,List.append_nil],H.out⟩
 case rest=>
 clear H c1;obtain⟨rfl,hcut⟩:=hcut;have H:=hid hcut;clear hcut;obtain⟨q2,hp⟩:∃zz,zz=q1++textA (optL (!(r.asn==0)) [(false,[[97,115],decI r.asn])]):=⟨_,rfl⟩;rw[←hp];have HM2:Hid (q2.length+(((textA (ifsA r)++(textA (zEa r)++(textA (fwdA r)++(textA (lsA r)++(textA (dvA r)++textA (pvA r))))))++([]:List UInt8))).length≤140737488355328):=hid (by have:=HM.out;rw[hp];simp only[List.length_append]at this⊢;omega);have HQ2:Hid (q2++((textA (ifsA r)++(textA (zEa r)++(textA (fwdA r)++(textA (lsA r)++(textA (dvA r)++textA (pvA r))))))++([]:List UInt8))=tot):=hid (by rw[hp];exact(List.append_assoc _ _ _).trans HQ.out);clear hp HM HQ;have HM:=HM2;have HQ:=HQ2;clear HM2 HQ2;go_upto_region 7 with fail
 try simp only[Act.put]
 go_cut [5] (fun v wx=>v=.string (str (q2++(textA (ifsA r)++(textA (zEa r)++(textA (fwdA r)++(textA (lsA r)++(textA (dvA r)++textA (pvA r))))))))∧YA [(41,w.heap.size,r.C)] w wx)
 case first=>
  have hj:q2.length+((textA (ifsA r)++(textA (zEa r)++(textA (fwdA r)++(textA (lsA r)++(textA (dvA r)++textA (pvA r))))))).length≤140737488355328:=(by have:=HM.out;simp only[List.length_append]at this⊢;omega);have HG:Hid (∀W,YA [(41,w.heap.size,r.C)] w W→Below w.heap.size w W):=hid fun W hW=>hW.b
  refine zAo (fun W=>YA [(41,w.heap.size,r.C)] w W) (by kernel_rfl) (by kernel_rfl) H.out.drew ?_
  repeat
   (first
    |(refine zDy rfl rfl rfl rfl ?_ ?_;(· (simp at hj⊢;omega)))
    |refine zGd (zGc (by rfl) 41 _ rfl rfl (fun W hW=>hW.a.range) Tryz.rowRt Tryz.sizeRt) ?_
    |(refine zBd (v:=?_) ?_ ?_ ?_;rotate_left;(· rfl);(· (intro W hW;go_simp<;>rfl)))
    |(refine zAm ?_ ?_ (fun W hW=>hW.call (rifs_any r W B (HRT.out W hW.b).2 (HRT.out W hW.b).1 HV.out.ifs z1.out.1)) ?_;(· rfl);(· (intro W hW;go_simp<;>rfl)))
    |(refine zAm ?_ ?_ (fun W hW=>hW.call (rlists_any r W B (HRT.out W hW.b).2 (HRT.out W hW.b).1 HSH.out HV.out.lists HV.out.maps HV.out.acls z1.out.2.1)) ?_;(· rfl);(· (intro W hW;go_simp<;>rfl)))
    |(refine zAm ?_ ?_ (fun W hW=>hW.call (rstat_any r W B (HRT.out W hW.b).2 (HRT.out W hW.b).1 HV.out.nat HV2.out.stat z1.out.2.2.1)) ?_;(· rfl);(· (intro W hW;go_simp<;>rfl)))
    |(refine zAm ?_ ?_ (fun W hW=>hW.call (rprot_any r W B (HRT.out W hW.b).2 (HRT.out W hW.b).1 HV2.out.ls HV2.out.dv HV2.out.pv z1.out.2.2.2)) ?_;(· rfl);(· (intro W hW;go_simp<;>rfl))))
   simp only[Act.put,List.setIfInBounds_toArray,List.set_cons_zero,List.set_cons_succ]
  refine zBo (fun wq hS=>?_);have HS:=hid hS;clear hS;go_wp2;go_meet;exact⟨by simp,HS.out⟩
 case rest=>
 clear H;obtain⟨rfl,hcut⟩:=hcut;have H:=hid hcut;clear hcut;obtain⟨q3,hp⟩:∃zz,zz=q2++(textA (ifsA r)++(textA (zEa r)++(textA (fwdA r)++(textA (lsA r)++(textA (dvA r)++textA (pvA r)))))):=⟨_,rfl⟩;rw[←hp];have HM2:Hid (q3.length+(([]:List UInt8)).length≤140737488355328):=hid (by have:=HM.out;rw[hp];simp only[List.length_append]at this⊢;omega);have HQ2:Hid (q3++([]:List UInt8)=tot):=hid (by rw[hp];exact(List.append_assoc _ _ _).trans HQ.out);clear hp HM HQ;have HM:=HM2;have HQ:=HQ2;clear HM2 HQ2;obtain rfl:q3=tot:=by have:=HQ.out;rwa [List.append_nil]at this
 clear HQ HM HV HV2 HSH HRT z1;have HB:=hid H.out.b;clear H;by_cases hl:65536<(q3).length;case pos=>
  have E:F=([],7):=HX.out.trans (if_pos hl);subst E;have hlz:(65536:Int)<((str q3).size:Int):=by rw[zBx];omega
  clear HX hl;go_wp2_with fail;go_ret2;exact⟨rfl,HB.out⟩
 have E:F=(q3,0):=HX.out.trans (if_neg hl);have hlz:¬(65536:Int)<((str q3).size:Int):=by rw[zBx];omega
 clear HX hl;subst E;go_wp2_with fail;go_ret2;exact⟨rfl,HB.out⟩
end Go.Proofs.YthcnojmldldpeaaGreatDoor
