/- The reference's FormatAlpha: the walk of alphaProtocols. Conditions: the text is at most 2^47 bytes; addresses are numbers below 2^32. -/
import Derived.Test.YthcnojmldldpeaaGreatDoorGan
set_option maxHeartbeats 8000000
namespace Go.Proofs.YthcnojmldldpeaaGreatDoor
open Lib (hid)
open Go.RowKit
set_option maxRecDepth 100000 in
theorem rred_any(l:List Rd)(v:Value)(w:World)(B:Nat)(hB:B≤w.heap.size)(hv:SlV w B 5 Rd.C v l)(hx:∀x∈l,(1≤x.frm∧x.frm≤5)∧okRd x)(hl:(textA (l.map rdA)).length≤140737488355328) :
  Calls Tryz.prog 73 #[v] w (YP (textA (l.map rdA)) w):=by
 rw[zBy rdA l 0]at hl⊢;have HM0:Hid (([]:List UInt8).length+(textA (nthL (fun _ x=>[rdA x]) 0 l)).length≤140737488355328):=hid (by simpa using hl);have HV:=hid hv;have hln:l.length≤9223372036854775807:=by have:=hv.len;unfold maxLen at this;omega
 obtain⟨A,c,hve,hle,-⟩:=hv;replace hx:=hid hx;replace hB:=hid hB;have H:=hid (YA.start w);clear hl;subst hve;go_enter Tryz.func73,Tryz.ntmps73;go_wp2;go_loopg [3,4,5] l.length (fun gh sv ix _ wr=>∃k:Nat,k+gh=l.length∧ix=.int .i64 k∧sv=.string (str (([]:List UInt8)++textA (nthL (fun _ x=>[rdA x]) 0 (l.take k))))∧Hid (YA [] w wr));case atStart=>exact⟨0,by omega,rfl,by rw[List.take_zero,nthL,zAz,List.append_nil]<;>rfl,H⟩
 case round=>
  obtain⟨k,hk,rfl,rfl,HR⟩:=hrel

  by_cases hlt:k<l.length;case neg=>
   have hkz:¬((k:Int)<(l.length:Int)):=by omega
   rw[List.take_of_length_le (by omega)];go_wp2;go_ret;exact⟨rfl,HR.out.b⟩
  have hkz:(k:Int)<(l.length:Int):=by omega
  obtain⟨gr,o,c', e',-,hgr,R0⟩:=SlV.elem (n:=5) (by decide) (fun _=>rfl) HV.out hlt;injection e' with e1 e2 e3
  subst e1 e3;have r1:=hid (zAf R0 (HR.out.b.mono hB.out) hgr);clear e2 R0;have HX:=hid (hx.out _ (List.getElem_mem hlt));have ET:=hid (zAy (fun _ x=>[rdA x]) l hlt);have HP:=hid (zBa (fun _ x=>[rdA x]) l hlt);generalize l[k]=x at HX ET HP r1;obtain⟨p,hp⟩:∃zz,zz=([]:List UInt8)++textA (nthL (fun _ x=>[rdA x]) 0 (l.take k)):=⟨_,rfl⟩;rw[←hp];have HN:Hid (textA ((fun _ x=>[rdA x]) k x)=(([32]++joinW [[114,101,100,105,115,116,114,105,98,117,116,101],srcT x.frm,[109,101,116,114,105,99],decI x.metric])++(tlW (optL (!(x.tag==0)) [[116,97,103],decI x.tag])++(tlW (optL (!x.map.isEmpty) [[109,97,112],x.map])++(tlW (optL (!(x.typ==0)) [[116,121,112,101],decI x.typ])++([10]++([]:List UInt8))))))):=hid (by rw[zAx,rdA,zJm,zHt,zHt];simp only[List.append_assoc,List.append_nil,if_true]);have HMp:Hid (p.length+((([32]++joinW [[114,101,100,105,115,116,114,105,98,117,116,101],srcT x.frm,[109,101,116,114,105,99],decI x.metric])++(tlW (optL (!(x.tag==0)) [[116,97,103],decI x.tag])++(tlW (optL (!x.map.isEmpty) [[109,97,112],x.map])++(tlW (optL (!(x.typ==0)) [[116,121,112,101],decI x.typ])++([10]++([]:List UInt8))))))).length≤140737488355328):=hid (by rw[←HN.out,hp,List.length_append];have h1:=HM0.out;have h2:=HP.out;(try dsimp only at h1 h2⊢);omega);obtain⟨tzx,htzx⟩:∃zz,zz=p++(([32]++joinW [[114,101,100,105,115,116,114,105,98,117,116,101],srcT x.frm,[109,101,116,114,105,99],decI x.metric])++(tlW (optL (!(x.tag==0)) [[116,97,103],decI x.tag])++(tlW (optL (!x.map.isEmpty) [[109,97,112],x.map])++(tlW (optL (!(x.typ==0)) [[116,121,112,101],decI x.typ])++([10]++([]:List UInt8)))))):=⟨_,rfl⟩;have HTZx:Hid (tzx=([]:List UInt8)++textA (nthL (fun _ x=>[rdA x]) 0 (l.take (k+1)))):=hid (by rw[ET.out,zAk,←List.append_assoc,←hp];exact htzx.trans (congrArg _ HN.out.symm));replace htzx:=hid htzx;clear HP HN hp ET;go_upto_region 6 with(first|(refine zAa rfl 149 _ rfl rfl r1.out Tryz.rowRd Tryz.sizeRd ?_)|(refine zAd rfl 149 _ _ rfl rfl rfl (HasC.new wr _ _) rfl Tryz.sizeRd (Rd.one x) ?_;intro w4 hz1 hz2))
  have H4:Hid (YA ((149,wr.heap.size,x.C) :: []) w w4):=hid (HR.out.new hz1 (zAi hz2));clear hz1 hz2 r1 HR;generalize wr.heap.size=gx at H4⊢;have HQp:Hid (p++(([32]++joinW [[114,101,100,105,115,116,114,105,98,117,116,101],srcT x.frm,[109,101,116,114,105,99],decI x.metric])++(tlW (optL (!(x.tag==0)) [[116,97,103],decI x.tag])++(tlW (optL (!x.map.isEmpty) [[109,97,112],x.map])++(tlW (optL (!(x.typ==0)) [[116,121,112,101],decI x.typ])++([10]++([]:List UInt8))))))=tzx):=hid htzx.out.symm;clear htzx;obtain⟨⟨kf1,kf2⟩,k1,k2,k3⟩:=HX.out;have k4:x.tag≤16777215:=by omega
  have k5:x.typ≤16777215:=by omega
  go_upto_region 6 with fail
  try simp only[Act.put]
  go_cut [3] (fun v wx=>v=.string (str (p++([32]++joinW [[114,101,100,105,115,116,114,105,98,117,116,101],srcT x.frm,[109,101,116,114,105,99],decI x.metric])))∧YA ((149,gx,x.C) :: []) w wx)
  case first=>
   have hj:p.length+(([32]++joinW [[114,101,100,105,115,116,114,105,98,117,116,101],srcT x.frm,[109,101,116,114,105,99],decI x.metric])).length≤140737488355328:=(by have:=HMp.out;simp only[List.length_append]at this⊢;omega);have HX:Hid (∀W,YA ((149,gx,x.C) :: []) w W→W.cell? ⟨gx,0,none⟩=some (.int .i64 x.frm)∧W.cell? ⟨gx,1,none⟩=some (.int .i64 x.metric)):=hid fun W hW=>⟨hW.a.cell 0,hW.a.cell 1⟩
   refine zAo (fun W=>YA ((149,gx,x.C) :: []) w W) (by kernel_rfl) (by kernel_rfl) H4.out.drew ?_
   repeat
    (first
     |(refine zDy rfl rfl rfl rfl ?_ ?_;(· (simp[joinW]at hj⊢;omega)))
     |(refine zBd (v:=?_) ?_ ?_ ?_;rotate_left;(· rfl);(· (intro W hW;obtain⟨c0,c1⟩:=HX.out W hW;go_simp<;>rfl)))
     |(refine zAm ?_ ?_ (fun W hW=>hW.call (rpname_any x.frm kf1 kf2 W)) ?_;(· rfl);(· (intro W hW;go_simp<;>rfl)))
     |(refine zAm ?_ ?_ (fun W hW=>(zBm x.metric W k1.1 k1.2).mono fun e w' ⟨he,hw⟩=>⟨he,hw ▸ hW⟩) ?_;(· rfl);(· (intro W hW;go_simp<;>rfl))))
    simp only[Act.put,List.setIfInBounds_toArray,List.set_cons_zero,List.set_cons_succ]
   refine zBo (fun wq hS=>?_);have HS:=hid hS;clear hS HX;go_wp2;go_meet;exact⟨by simp[joinW],HS.out⟩
  case rest=>
  clear H4;obtain⟨rfl,hcut⟩:=hcut;have H:=hid hcut;clear hcut;obtain⟨q1x,hp⟩:∃zz,zz=p++([32]++joinW [[114,101,100,105,115,116,114,105,98,117,116,101],srcT x.frm,[109,101,116,114,105,99],decI x.metric]):=⟨_,rfl⟩;rw[←hp];have HM2:Hid (q1x.length+((tlW (optL (!(x.tag==0)) [[116,97,103],decI x.tag])++(tlW (optL (!x.map.isEmpty) [[109,97,112],x.map])++(tlW (optL (!(x.typ==0)) [[116,121,112,101],decI x.typ])++([10]++([]:List UInt8)))))).length≤140737488355328):=hid (by have:=HMp.out;rw[hp];simp only[List.length_append]at this⊢;omega);have HQ2:Hid (q1x++(tlW (optL (!(x.tag==0)) [[116,97,103],decI x.tag])++(tlW (optL (!x.map.isEmpty) [[109,97,112],x.map])++(tlW (optL (!(x.typ==0)) [[116,121,112,101],decI x.typ])++([10]++([]:List UInt8)))))=tzx):=hid (by rw[hp];exact(List.append_assoc _ _ _).trans HQp.out);clear hp HMp HQp;have HM:=HM2;have HQ:=HQ2;clear HM2 HQ2;have c2:wc.cell? ⟨gx,2,none⟩=some (.int .i64 x.tag):=H.out.a.cell 2;go_upto_if 29 with fail
  go_cut [3] (fun v wx=>v=.string (str (q1x++tlW (optL (!(x.tag==0)) [[116,97,103],decI x.tag])))∧YA ((149,gx,x.C) :: []) w wx)
  case first=>
   cases hc:(!(x.tag==0))with
   |true=>
    have E:tlW (optL (!(x.tag==0)) [[116,97,103],decI x.tag])=tlW [[116,97,103],decI x.tag]:=zEz hc;have hj:q1x.length+(tlW [[116,97,103],decI x.tag]).length≤140737488355328:=(by rw[←E];have:=HM.out;simp only[List.length_append]at this⊢;omega);have hs:(x.tag != 0)=true:=hc;rw[hs];refine wp_cond_true rfl ?_;go_wp2_with (refine zAh rfl rfl rfl rfl (by simp[tlW]at hj⊢;omega) ?_);refine(zBm x.tag _ k2.1 k4).mono ?_;rintro e w1 ⟨rfl,rfl⟩;go_wp2_with (refine zAh rfl rfl rfl rfl (by simp[tlW]at hj⊢;omega) ?_);go_meet;exact⟨by rw[E];simp[tlW],H.out⟩
   |false=>
    have hs:(x.tag != 0)=false:=hc;rw[hs];refine wp_cond_false rfl ?_;go_wp2;go_meet;exact⟨by rw[show tlW (optL (!(x.tag==0)) [[116,97,103],decI x.tag])=[]from zDz hc,List.append_nil],H.out⟩
  case rest=>
  clear H c2;obtain⟨rfl,hcut⟩:=hcut;have H:=hid hcut;clear hcut;obtain⟨q2x,hp⟩:∃zz,zz=q1x++tlW (optL (!(x.tag==0)) [[116,97,103],decI x.tag]):=⟨_,rfl⟩;rw[←hp];have HM2:Hid (q2x.length+((tlW (optL (!x.map.isEmpty) [[109,97,112],x.map])++(tlW (optL (!(x.typ==0)) [[116,121,112,101],decI x.typ])++([10]++([]:List UInt8))))).length≤140737488355328):=hid (by have:=HM.out;rw[hp];simp only[List.length_append]at this⊢;omega);have HQ2:Hid (q2x++(tlW (optL (!x.map.isEmpty) [[109,97,112],x.map])++(tlW (optL (!(x.typ==0)) [[116,121,112,101],decI x.typ])++([10]++([]:List UInt8))))=tzx):=hid (by rw[hp];exact(List.append_assoc _ _ _).trans HQ.out);clear hp HM HQ;have HM:=HM2;have HQ:=HQ2;clear HM2 HQ2;have c3:wc.cell? ⟨gx,3,none⟩=some (.string (str x.map)):=H.out.a.cell 3;go_upto_if 38 with fail
  go_cut [3] (fun v wx=>v=.string (str (q2x++tlW (optL (!x.map.isEmpty) [[109,97,112],x.map])))∧YA ((149,gx,x.C) :: []) w wx)
  case first=>
   cases hc:(!x.map.isEmpty)with
   |true=>
    have E:tlW (optL (!x.map.isEmpty) [[109,97,112],x.map])=tlW [[109,97,112],x.map]:=zEz hc;have hj:q2x.length+(tlW [[109,97,112],x.map]).length≤140737488355328:=(by rw[←E];have:=HM.out;simp only[List.length_append]at this⊢;omega);have hs:=zCm hc;rw[hs];refine wp_cond_true rfl ?_;go_wp2_with (refine zAh rfl rfl rfl rfl (by simp[tlW]at hj⊢;omega) ?_);go_meet;exact⟨by rw[E];simp[tlW],H.out⟩
   |false=>
    have hs:=zCg hc;rw[hs];refine wp_cond_false rfl ?_;go_wp2;go_meet;exact⟨by rw[show tlW (optL (!x.map.isEmpty) [[109,97,112],x.map])=[]from zDz hc,List.append_nil],H.out⟩
  case rest=>
  clear H c3;obtain⟨rfl,hcut⟩:=hcut;have H:=hid hcut;clear hcut;obtain⟨q3x,hp⟩:∃zz,zz=q2x++tlW (optL (!x.map.isEmpty) [[109,97,112],x.map]):=⟨_,rfl⟩;rw[←hp];have HM2:Hid (q3x.length+((tlW (optL (!(x.typ==0)) [[116,121,112,101],decI x.typ])++([10]++([]:List UInt8)))).length≤140737488355328):=hid (by have:=HM.out;rw[hp];simp only[List.length_append]at this⊢;omega);have HQ2:Hid (q3x++(tlW (optL (!(x.typ==0)) [[116,121,112,101],decI x.typ])++([10]++([]:List UInt8)))=tzx):=hid (by rw[hp];exact(List.append_assoc _ _ _).trans HQ.out);clear hp HM HQ;have HM:=HM2;have HQ:=HQ2;clear HM2 HQ2;have c4:wc.cell? ⟨gx,4,none⟩=some (.int .i64 x.typ):=H.out.a.cell 4;go_upto_if 46 with fail
  go_cut [3] (fun v wx=>v=.string (str (q3x++tlW (optL (!(x.typ==0)) [[116,121,112,101],decI x.typ])))∧YA ((149,gx,x.C) :: []) w wx)
  case first=>
   cases hc:(!(x.typ==0))with
   |true=>
    have E:tlW (optL (!(x.typ==0)) [[116,121,112,101],decI x.typ])=tlW [[116,121,112,101],decI x.typ]:=zEz hc;have hj:q3x.length+(tlW [[116,121,112,101],decI x.typ]).length≤140737488355328:=(by rw[←E];have:=HM.out;simp only[List.length_append]at this⊢;omega);have hs:(x.typ != 0)=true:=hc;rw[hs];refine wp_cond_true rfl ?_;go_wp2_with (refine zAh rfl rfl rfl rfl (by simp[tlW]at hj⊢;omega) ?_);refine(zBm x.typ _ k3.1 k5).mono ?_;rintro e w1 ⟨rfl,rfl⟩;go_wp2_with (refine zAh rfl rfl rfl rfl (by simp[tlW]at hj⊢;omega) ?_);go_meet;exact⟨by rw[E];simp[tlW],H.out⟩
   |false=>
    have hs:(x.typ != 0)=false:=hc;rw[hs];refine wp_cond_false rfl ?_;go_wp2;go_meet;exact⟨by rw[show tlW (optL (!(x.typ==0)) [[116,121,112,101],decI x.typ])=[]from zDz hc,List.append_nil],H.out⟩
  case rest=>
  clear H c4;obtain⟨rfl,hcut⟩:=hcut;have H:=hid hcut;clear hcut;obtain⟨q4x,hp⟩:∃zz,zz=q3x++tlW (optL (!(x.typ==0)) [[116,121,112,101],decI x.typ]):=⟨_,rfl⟩;rw[←hp];have HM2:Hid (q4x.length+(([10]++([]:List UInt8))).length≤140737488355328):=hid (by have:=HM.out;rw[hp];simp only[List.length_append]at this⊢;omega);have HQ2:Hid (q4x++([10]++([]:List UInt8))=tzx):=hid (by rw[hp];exact(List.append_assoc _ _ _).trans HQ.out);clear hp HM HQ;have HM:=HM2;have HQ:=HQ2;clear HM2 HQ2;have hj:q4x.length+([10]).length≤140737488355328:=(by have:=HM.out;simp only[List.length_append]at this⊢;omega);have HZ:Hid (q4x++[10]=tzx):=hid (by have:=HQ.out;rwa [List.append_nil]at this);go_wp2_with (refine zAh rfl rfl rfl rfl (by simp at hj⊢;omega) ?_);go_roundg (l.length - (k+1));case measure=>omega
  case rel=>
   refine⟨k+1,by omega,by go_num,?_,hid (H.out.pop)⟩;rw[←HTZx.out,←HZ.out]
set_option maxRecDepth 100000 in
theorem rprot_any(r:Rt)(w:World)(B:Nat)(hB:B≤w.heap.size)(hr:r.at w B)
  (x1:r.lsOn=true→(1≤r.lsAdmin∧r.lsAdmin≤255)∧(∀x∈r.ranges,(0≤x.area∧x.area≤255)∧x.fit)∧∀x∈r.lsRed,(1≤x.frm∧x.frm≤5)∧okRd x) (x2:r.dvOn=true→(1≤r.dvAdmin∧r.dvAdmin≤255)∧∀x∈r.dvRed,(1≤x.frm∧x.frm≤5)∧okRd x)
  (x3:r.pvOn=true→(1≤r.ext∧r.ext≤255)∧(1≤r.int∧r.int≤255)∧(∀x∈r.nb,(1≤x.asn∧x.asn≤65535)∧x.fit)∧(∀x∈r.net,x.fit)∧(∀x∈r.ag,x.fit)∧(∀x∈r.cd,x.fit)∧∀x∈r.pvRed,(1≤x.frm∧x.frm≤5)∧okRd x) (hl:(textA (lsA r)++(textA (dvA r)++textA (pvA r))).length≤140737488355328) :
  Calls Tryz.prog 24 #[.agg r.C] w (YP (textA (lsA r)++(textA (dvA r)++textA (pvA r))) w):=by
 have hn10:r.ranges.length≤9223372036854775807:=by have:=hr.hranges.len;unfold maxLen at this;omega
 obtain⟨A10,cp10,hve,-,-⟩:=hr.hranges;have HV10:=hid (hve ▸ hr.hranges);have HE10:=hid (congrArg some hve);clear hve;have hn11:r.lsRed.length≤9223372036854775807:=by have:=hr.hlsRed.len;unfold maxLen at this;omega
 obtain⟨A11,cp11,hve,-,-⟩:=hr.hlsRed;have HV11:=hid (hve ▸ hr.hlsRed);have HE11:=hid (congrArg some hve);clear hve;have hn16:r.dvRed.length≤9223372036854775807:=by have:=hr.hdvRed.len;unfold maxLen at this;omega
 obtain⟨A16,cp16,hve,-,-⟩:=hr.hdvRed;have HV16:=hid (hve ▸ hr.hdvRed);have HE16:=hid (congrArg some hve);clear hve;have hn20:r.nb.length≤9223372036854775807:=by have:=hr.hnb.len;unfold maxLen at this;omega
 obtain⟨A20,cp20,hve,-,-⟩:=hr.hnb;have HV20:=hid (hve ▸ hr.hnb);have HE20:=hid (congrArg some hve);clear hve;have hn21:r.net.length≤9223372036854775807:=by have:=hr.hnet.len;unfold maxLen at this;omega
 obtain⟨A21,cp21,hve,-,-⟩:=hr.hnet;have HV21:=hid (hve ▸ hr.hnet);have HE21:=hid (congrArg some hve);clear hve;have hn22:r.ag.length≤9223372036854775807:=by have:=hr.hag.len;unfold maxLen at this;omega
 obtain⟨A22,cp22,hve,-,-⟩:=hr.hag;have HV22:=hid (hve ▸ hr.hag);have HE22:=hid (congrArg some hve);clear hve;have hn23:r.cd.length≤9223372036854775807:=by have:=hr.hcd.len;unfold maxLen at this;omega
 obtain⟨A23,cp23,hve,-,-⟩:=hr.hcd;have HV23:=hid (hve ▸ hr.hcd);have HE23:=hid (congrArg some hve);clear hve;have hn24:r.pvRed.length≤9223372036854775807:=by have:=hr.hpvRed.len;unfold maxLen at this;omega
 obtain⟨A24,cp24,hve,-,-⟩:=hr.hpvRed;have HV24:=hid (hve ▸ hr.hpvRed);have HE24:=hid (congrArg some hve);clear hve
 have HO1:Hid (r.pvC.all (·.oneCell')=true):=hid (by
  rw[Array.all_eq_true_iff_forall_mem];intro v hv;simp only[Rt.pvC,List.mem_toArray,List.mem_cons,List.not_mem_nil,or_false]at hv;rcases hv with rfl|rfl|rfl|rfl|rfl|rfl|rfl|rfl
  all_goals first|rfl|exact hr.hnb.one|exact hr.hnet.one|exact hr.hag.one|exact hr.hcd.one|exact hr.hpvRed.one)
 replace x1:=hid x1;replace x2:=hid x2;replace x3:=hid x3;replace hB:=hid hB;have HM0:Hid (([]:List UInt8).length+((textA (lsA r)++(textA (dvA r)++(textA (pvA r)++([]:List UInt8))))).length≤140737488355328):=hid (by simp only[List.length_append,List.length_nil]at hl⊢;omega);obtain⟨tot,htot⟩:∃tot,tot=textA (lsA r)++(textA (dvA r)++(textA (pvA r))):=⟨_,rfl⟩;have HQ0:Hid ([]++(textA (lsA r)++(textA (dvA r)++(textA (pvA r)++([]:List UInt8))))=tot):=hid (by rw[htot];simp only[List.nil_append,List.append_nil]);rw[←htot];have H:=hid ((YA.start w).new (HasC.new w 41 r.C) ((Below.refl w.heap.size w).alloc (Nat.le_refl _) _));clear hl hr htot;go_enter Tryz.func24,Tryz.ntmps24;go_upto_region 1 with fail
 generalize w.alloc (.cells r.C 41)=wa at H⊢;generalize w.heap.size=gy at H⊢;have co:wa.cell? ⟨gy,8,none⟩=some (.bool r.lsOn):=H.out.a.cell 8;go_upto_if 15 with fail
 go_cut [3] (fun v wx=>v=.string (str (([]:List UInt8)++textA (lsA r)))∧YA [(41,gy,r.C)] w wx)
 case first=>
  as_aux_lemma=>
  cases ho:r.lsOn with
  |true=>
   rw[ho]at co;have EP:textA (lsA r)=((lnW (false,[[114,111,117,116,101,114],[108,115]])++lnW (true,[[100,105,115,116,97,110,99,101],decI r.lsAdmin]))++(textA (nthL (fun _ (a:AR)=>[(true,[[114,97,110,103,101],decI a.area,pfxF a.pa a.pl])]) 0 r.ranges)++(textA (nthL (fun _ x=>[rdA x]) 0 r.lsRed)++([]:List UInt8)))):=by rw[show lsA r=optL r.lsOn _ from rfl,ho];simp only[optL,if_true,zDn,zAk,zBy _ _ 0,List.append_assoc,List.append_nil]
   have HMs:Hid (([]:List UInt8).length+(((lnW (false,[[114,111,117,116,101,114],[108,115]])++lnW (true,[[100,105,115,116,97,110,99,101],decI r.lsAdmin]))++(textA (nthL (fun _ (a:AR)=>[(true,[[114,97,110,103,101],decI a.area,pfxF a.pa a.pl])]) 0 r.ranges)++(textA (nthL (fun _ x=>[rdA x]) 0 r.lsRed)++([]:List UInt8))))).length≤140737488355328):=hid (by rw[←EP];have:=HM0.out;simp only[List.length_append]at this⊢;omega);obtain⟨ts,hts⟩:∃ts,ts=([]:List UInt8)++textA (lsA r):=⟨_,rfl⟩;have HQs:Hid (([]:List UInt8)++((lnW (false,[[114,111,117,116,101,114],[108,115]])++lnW (true,[[100,105,115,116,97,110,99,101],decI r.lsAdmin]))++(textA (nthL (fun _ (a:AR)=>[(true,[[114,97,110,103,101],decI a.area,pfxF a.pa a.pl])]) 0 r.ranges)++(textA (nthL (fun _ x=>[rdA x]) 0 r.lsRed)++([]:List UInt8))))=ts):=hid (by rw[hts,EP]);replace hts:=hid hts;clear EP;have hX:=x1.out ho;clear ho;refine wp_cond_true rfl ?_;obtain⟨k1,hr,hd⟩:=hX;replace hr:=hid hr;replace hd:=hid hd;have c9:wa.cell? ⟨gy,9,none⟩=some (.int .i64 r.lsAdmin):=H.out.a.cell 9;go_upto_region 3 with fail
   try simp only[Act.put]
   go_cut [3] (fun v wx=>v=.string (str (([]:List UInt8)++(lnW (false,[[114,111,117,116,101,114],[108,115]])++lnW (true,[[100,105,115,116,97,110,99,101],decI r.lsAdmin]))))∧YA [(41,gy,r.C)] w wx)
   case first=>
    have hj:([]:List UInt8).length+((lnW (false,[[114,111,117,116,101,114],[108,115]])++lnW (true,[[100,105,115,116,97,110,99,101],decI r.lsAdmin]))).length≤140737488355328:=(by have:=HMs.out;simp only[List.length_append]at this⊢;omega);go_wp2_with (refine zAh rfl rfl rfl rfl (by simp[lnW,joinW]at hj⊢;omega) ?_);refine(zBm r.lsAdmin _ (by omega) (by omega)).mono ?_;rintro e w1 ⟨rfl,rfl⟩;go_wp2_with (refine zAh rfl rfl rfl rfl (by simp[lnW,joinW]at hj⊢;omega) ?_);go_meet;exact⟨by simp[lnW,joinW],H.out⟩
   case rest=>
   clear H c9;obtain⟨rfl,hcut⟩:=hcut;have H:=hid hcut;clear hcut;obtain⟨q1l,hp⟩:∃zz,zz=([]:List UInt8)++(lnW (false,[[114,111,117,116,101,114],[108,115]])++lnW (true,[[100,105,115,116,97,110,99,101],decI r.lsAdmin])):=⟨_,rfl⟩;rw[←hp];have HM2:Hid (q1l.length+((textA (nthL (fun _ (a:AR)=>[(true,[[114,97,110,103,101],decI a.area,pfxF a.pa a.pl])]) 0 r.ranges)++(textA (nthL (fun _ x=>[rdA x]) 0 r.lsRed)++([]:List UInt8)))).length≤140737488355328):=hid (by have:=HMs.out;rw[hp];simp only[List.length_append]at this⊢;omega);have HQ2:Hid (q1l++(textA (nthL (fun _ (a:AR)=>[(true,[[114,97,110,103,101],decI a.area,pfxF a.pa a.pl])]) 0 r.ranges)++(textA (nthL (fun _ x=>[rdA x]) 0 r.lsRed)++([]:List UInt8)))=ts):=hid (by rw[hp];exact(List.append_assoc _ _ _).trans HQs.out);clear hp HMs HQs;have HM:=HM2;have HQ:=HQ2;clear HM2 HQ2;go_upto_block 0 with fail
   go_cut [3] (fun v wx=>v=.string (str (q1l++textA (nthL (fun _ (a:AR)=>[(true,[[114,97,110,103,101],decI a.area,pfxF a.pa a.pl])]) 0 r.ranges)))∧YA [(41,gy,r.C)] w wx)
   case first=>
    go_wp2;go_loopg [3,4] r.ranges.length (fun gh sv ix  wr=>∃k:Nat,k+gh=r.ranges.length∧ix=.int .i64 k∧sv=.string (str (q1l++textA (nthL (fun _ (a:AR)=>[(true,[[114,97,110,103,101],decI a.area,pfxF a.pa a.pl])]) 0 (r.ranges.take k))))∧Hid (YA [(41,gy,r.C)] w wr));case atStart=>exact⟨0,by omega,rfl,by rw[List.take_zero,nthL,zAz,List.append_nil]<;>rfl,H⟩
    case round=>
     obtain⟨k,hk,rfl,rfl,HR⟩:=hrel;have cr:wr.cell? ⟨gy,10,none⟩=some (.slice A10 r.ranges.length cp10):=(HR.out.a.cell 10).trans HE10.out;by_cases hlt:k<r.ranges.length;case neg=>
      have hkz:¬((k:Int)<(r.ranges.length:Int)):=by omega
      rw[List.take_of_length_le (by omega)];go_wp2;go_meet;exact⟨rfl,HR.out⟩
     have hkz:(k:Int)<(r.ranges.length:Int):=by omega
     obtain⟨gr,o,c', e',-,hgr,R0⟩:=SlV.elem (n:=3) (by decide) (fun _=>rfl) HV10.out hlt;injection e' with e1 e2 e3
     subst e1 e3;have r1:=hid (zAf R0 (HR.out.b.mono hB.out) hgr);have RK:Hid (∀W,YA [(41,gy,r.C)] w W→_):=hid fun W hW=>zAf R0 (hW.b.mono hB.out) hgr
     clear e2 R0;have HX:=hid (hr.out _ (List.getElem_mem hlt));have ET:=hid (zAy (fun _ (a:AR)=>[(true,[[114,97,110,103,101],decI a.area,pfxF a.pa a.pl])]) r.ranges hlt);have HP:=hid (zBa (fun _ (a:AR)=>[(true,[[114,97,110,103,101],decI a.area,pfxF a.pa a.pl])]) r.ranges hlt);generalize r.ranges[k]=x at HX ET HP r1 RK;obtain⟨p,hp⟩:∃zz,zz=q1l++textA (nthL (fun _ (a:AR)=>[(true,[[114,97,110,103,101],decI a.area,pfxF a.pa a.pl])]) 0 (r.ranges.take k)):=⟨_,rfl⟩;rw[←hp];have HN:Hid (textA ((fun _ (a:AR)=>[(true,[[114,97,110,103,101],decI a.area,pfxF a.pa a.pl])]) k x)=(textA [(true,[[114,97,110,103,101],decI x.area,pfxF x.pa x.pl])]++([]:List UInt8))):=hid ((List.append_nil _).symm);have HMp:Hid (p.length+((textA [(true,[[114,97,110,103,101],decI x.area,pfxF x.pa x.pl])]++([]:List UInt8))).length≤140737488355328):=hid (by rw[←HN.out,hp,List.length_append];have h1:=HM.out;have h2:=HP.out;simp only[List.length_append]at h1⊢;omega);obtain⟨tzx,htzx⟩:∃zz,zz=p++(textA [(true,[[114,97,110,103,101],decI x.area,pfxF x.pa x.pl])]++([]:List UInt8)):=⟨_,rfl⟩;have HTZx:Hid (tzx=q1l++textA (nthL (fun _ (a:AR)=>[(true,[[114,97,110,103,101],decI a.area,pfxF a.pa a.pl])]) 0 (r.ranges.take (k+1)))):=hid (by rw[ET.out,zAk,←List.append_assoc,←hp];exact htzx.trans (congrArg _ HN.out.symm));replace htzx:=hid htzx;clear HP HN hp ET;obtain⟨⟨ha,ha2⟩,hf⟩:=HX.out;have ha3:x.area≤16777215:=by omega
     clear r1;have E:textA [(true,[[114,97,110,103,101],decI x.area,pfxF x.pa x.pl])]=lnW (true,[[114,97,110,103,101],decI x.area,pfxF x.pa x.pl]):=zAx _;have hj:p.length+(lnW (true,[[114,97,110,103,101],decI x.area,pfxF x.pa x.pl])).length≤140737488355328:=(by rw[←E];have:=HMp.out;simp only[List.length_append]at this⊢;omega);go_upto_region 7 with fail
     have HX:Hid (∀W,YA [(41,gy,r.C)] w W→W.cell? ⟨gy,10,none⟩=some (.slice (some ⟨gr,o,none⟩) r.ranges.length cp10)∧W.cell? ⟨gr,o+k*3,none⟩=some (.int .i64 x.area)∧W.cell? ⟨gr,o+k*3+1,none⟩=some (.int .u32 (x.pa:Int))∧W.cell? ⟨gr,o+k*3+1+1,none⟩=some (.int .i64 x.pl)):=hid fun W hW=>have q:=RK.out W hW;⟨(hW.a.cell 10).trans HE10.out,q 0 _ rfl,q 1 _ rfl,q 2 _ rfl⟩
     refine zAo (fun W=>YA [(41,gy,r.C)] w W) (by kernel_rfl) (by kernel_rfl) HR.out.drew ?_
     repeat
      (first
       |(refine zDy rfl rfl rfl rfl ?_ ?_;(· (simp[lnW,joinW]at hj⊢;omega)))
       |(refine zBd (v:=?_) ?_ ?_ ?_;rotate_left;(· rfl);(· (intro W hW;obtain⟨cr,q0,q1,q2⟩:=HX.out W hW;go_simp<;>rfl)))
       |(refine zAm ?_ ?_ (fun W hW=>(zBm x.area W ha ha3).mono fun e w' ⟨he,hw⟩=>⟨he,hw ▸ hW⟩) ?_;(· rfl);(· (intro W hW;go_simp<;>rfl)))
       |(refine zAm ?_ ?_ (fun W hW=>hW.call (zDe x.pa x.pl W hf)) ?_;(· rfl);(· (intro W hW;go_simp<;>rfl))))
      simp only[Act.put,List.setIfInBounds_toArray,List.set_cons_zero,List.set_cons_succ]
     refine zBo (fun wq hS=>?_);have HS:=hid hS;clear hS HX;go_wp2_with fail;have HQx:Hid (p++(textA [(true,[[114,97,110,103,101],decI x.area,pfxF x.pa x.pl])]++([]:List UInt8))=tzx):=hid htzx.out.symm;have HZ:Hid (p++textA [(true,[[114,97,110,103,101],decI x.area,pfxF x.pa x.pl])]=tzx):=hid (by have:=HQx.out;rwa [List.append_nil]at this);go_roundg (r.ranges.length - (k+1));case measure=>omega
     case rel=>
      refine⟨k+1,by omega,by go_num,?_,hid (HS.out)⟩;rw[←HTZx.out,←HZ.out,E];simp[lnW,joinW]
   case rest=>
   clear H;obtain⟨rfl,hcut⟩:=hcut;have H:=hid hcut;clear hcut;obtain⟨q2l,hp⟩:∃zz,zz=q1l++textA (nthL (fun _ (a:AR)=>[(true,[[114,97,110,103,101],decI a.area,pfxF a.pa a.pl])]) 0 r.ranges):=⟨_,rfl⟩;rw[←hp];have HM2:Hid (q2l.length+((textA (nthL (fun _ x=>[rdA x]) 0 r.lsRed)++([]:List UInt8))).length≤140737488355328):=hid (by have:=HM.out;rw[hp];simp only[List.length_append]at this⊢;omega);have HQ2:Hid (q2l++(textA (nthL (fun _ x=>[rdA x]) 0 r.lsRed)++([]:List UInt8))=ts):=hid (by rw[hp];exact(List.append_assoc _ _ _).trans HQ.out);clear hp HM HQ;have HM:=HM2;have HQ:=HQ2;clear HM2 HQ2;have cc:wc.cell? ⟨gy,11,none⟩=some (.slice A11 r.lsRed.length cp11):=(H.out.a.cell 11).trans HE11.out;have hz:(textA (r.lsRed.map rdA)).length≤140737488355328:=by rw[zBy rdA _ 0];have:=HM.out;simp only[List.length_append]at this⊢;omega
   have hj:q2l.length+(textA (r.lsRed.map rdA)).length≤140737488355328:=by rw[zBy rdA _ 0];have:=HM.out;simp only[List.length_append]at this⊢;omega
   go_wp2_with fail;refine(rred_any r.lsRed _ _ B (Nat.le_trans hB.out H.out.b.size) (HV11.out.below (H.out.b.mono hB.out)) hd.out hz).mono ?_;rintro e w9 ⟨rfl,hb⟩;have H9:=hid (H.out.below hb);clear hb;go_wp2_with (refine zAh rfl rfl rfl rfl (by omega) ?_);have HZ:Hid (q2l++textA (r.lsRed.map rdA)=ts):=hid (by have:=HQ.out;rw[zBy rdA _ 0];rwa [List.append_nil]at this);go_meet;exact⟨by rw[HZ.out,hts.out],H9.out⟩
  |false=>
   rw[ho]at co;refine wp_cond_false rfl ?_;go_wp2;go_meet;exact⟨by rw[show textA (lsA r)=[]from zAn ho,List.append_nil]<;>rfl,H.out⟩
 case rest=>
 clear H co;obtain⟨rfl,hcut⟩:=hcut;have H:=hid hcut;clear hcut;obtain⟨q1,hp⟩:∃zz,zz=([]:List UInt8)++textA (lsA r):=⟨_,rfl⟩;rw[←hp];have HM2:Hid (q1.length+((textA (dvA r)++(textA (pvA r)++([]:List UInt8)))).length≤140737488355328):=hid (by have:=HM0.out;rw[hp];simp only[List.length_append]at this⊢;omega);have HQ2:Hid (q1++(textA (dvA r)++(textA (pvA r)++([]:List UInt8)))=tot):=hid (by rw[hp];exact(List.append_assoc _ _ _).trans HQ0.out);clear hp HM0 HQ0;have HM:=HM2;have HQ:=HQ2;clear HM2 HQ2;have co:wc.cell? ⟨gy,12,none⟩=some (.bool r.dvOn):=H.out.a.cell 12;go_upto_if 62 with fail
 go_cut [3] (fun v wx=>v=.string (str (q1++textA (dvA r)))∧YA [(41,gy,r.C)] w wx)
 case first=>
  as_aux_lemma=>
  cases ho:r.dvOn with
  |true=>
   rw[ho]at co;have EP:textA (dvA r)=((lnW (false,[[114,111,117,116,101,114],[100,118]])++lnW (true,[[100,105,115,116,97,110,99,101],decI r.dvAdmin]))++(textA (optL (!r.dvIn.isEmpty) [(true,[[102,105,108,116,101,114],[105,110],r.dvIn])])++(textA (optL (!r.dvOut.isEmpty) [(true,[[102,105,108,116,101,114],[111,117,116],r.dvOut])])++(textA (nthL (fun _ x=>[rdA x]) 0 r.dvRed)++([]:List UInt8))))):=by rw[show dvA r=optL r.dvOn _ from rfl,ho];simp only[optL,if_true,zDn,zAk,zBy _ _ 0,List.append_assoc,List.append_nil]
   have HMs:Hid (q1.length+(((lnW (false,[[114,111,117,116,101,114],[100,118]])++lnW (true,[[100,105,115,116,97,110,99,101],decI r.dvAdmin]))++(textA (optL (!r.dvIn.isEmpty) [(true,[[102,105,108,116,101,114],[105,110],r.dvIn])])++(textA (optL (!r.dvOut.isEmpty) [(true,[[102,105,108,116,101,114],[111,117,116],r.dvOut])])++(textA (nthL (fun _ x=>[rdA x]) 0 r.dvRed)++([]:List UInt8)))))).length≤140737488355328):=hid (by rw[←EP];have:=HM.out;simp only[List.length_append]at this⊢;omega);obtain⟨ts,hts⟩:∃ts,ts=q1++textA (dvA r):=⟨_,rfl⟩;have HQs:Hid (q1++((lnW (false,[[114,111,117,116,101,114],[100,118]])++lnW (true,[[100,105,115,116,97,110,99,101],decI r.dvAdmin]))++(textA (optL (!r.dvIn.isEmpty) [(true,[[102,105,108,116,101,114],[105,110],r.dvIn])])++(textA (optL (!r.dvOut.isEmpty) [(true,[[102,105,108,116,101,114],[111,117,116],r.dvOut])])++(textA (nthL (fun _ x=>[rdA x]) 0 r.dvRed)++([]:List UInt8)))))=ts):=hid (by rw[hts,EP]);replace hts:=hid hts;clear EP;have hX:=x2.out ho;clear ho;refine wp_cond_true rfl ?_;obtain⟨k1,hd⟩:=hX;replace hd:=hid hd;have c13:wc.cell? ⟨gy,13,none⟩=some (.int .i64 r.dvAdmin):=H.out.a.cell 13;go_upto_region 10 with fail
   try simp only[Act.put]
   go_cut [3] (fun v wx=>v=.string (str (q1++(lnW (false,[[114,111,117,116,101,114],[100,118]])++lnW (true,[[100,105,115,116,97,110,99,101],decI r.dvAdmin]))))∧YA [(41,gy,r.C)] w wx)
   case first=>
    have hj:q1.length+((lnW (false,[[114,111,117,116,101,114],[100,118]])++lnW (true,[[100,105,115,116,97,110,99,101],decI r.dvAdmin]))).length≤140737488355328:=(by have:=HMs.out;simp only[List.length_append]at this⊢;omega);go_wp2_with (refine zAh rfl rfl rfl rfl (by simp[lnW,joinW]at hj⊢;omega) ?_);refine(zBm r.dvAdmin _ (by omega) (by omega)).mono ?_;rintro e w1 ⟨rfl,rfl⟩;go_wp2_with (refine zAh rfl rfl rfl rfl (by simp[lnW,joinW]at hj⊢;omega) ?_);go_meet;exact⟨by simp[lnW,joinW],H.out⟩
   case rest=>
   clear H c13;obtain⟨rfl,hcut⟩:=hcut;have H:=hid hcut;clear hcut;obtain⟨q1d,hp⟩:∃zz,zz=q1++(lnW (false,[[114,111,117,116,101,114],[100,118]])++lnW (true,[[100,105,115,116,97,110,99,101],decI r.dvAdmin])):=⟨_,rfl⟩;rw[←hp];have HM2:Hid (q1d.length+((textA (optL (!r.dvIn.isEmpty) [(true,[[102,105,108,116,101,114],[105,110],r.dvIn])])++(textA (optL (!r.dvOut.isEmpty) [(true,[[102,105,108,116,101,114],[111,117,116],r.dvOut])])++(textA (nthL (fun _ x=>[rdA x]) 0 r.dvRed)++([]:List UInt8))))).length≤140737488355328):=hid (by have:=HMs.out;rw[hp];simp only[List.length_append]at this⊢;omega);have HQ2:Hid (q1d++(textA (optL (!r.dvIn.isEmpty) [(true,[[102,105,108,116,101,114],[105,110],r.dvIn])])++(textA (optL (!r.dvOut.isEmpty) [(true,[[102,105,108,116,101,114],[111,117,116],r.dvOut])])++(textA (nthL (fun _ x=>[rdA x]) 0 r.dvRed)++([]:List UInt8))))=ts):=hid (by rw[hp];exact(List.append_assoc _ _ _).trans HQs.out);clear hp HMs HQs;have HM:=HM2;have HQ:=HQ2;clear HM2 HQ2;have c14:wc.cell? ⟨gy,14,none⟩=some (.string (str r.dvIn)):=H.out.a.cell 14;go_upto_if 74 with fail
   go_cut [3] (fun v wx=>v=.string (str (q1d++textA (optL (!r.dvIn.isEmpty) [(true,[[102,105,108,116,101,114],[105,110],r.dvIn])])))∧YA [(41,gy,r.C)] w wx)
   case first=>
    cases hc:(!r.dvIn.isEmpty)with
    |true=>
     have E:textA (optL (!r.dvIn.isEmpty) [(true,[[102,105,108,116,101,114],[105,110],r.dvIn])])=lnW (true,[[102,105,108,116,101,114],[105,110],r.dvIn]):=zAw hc;have hj:q1d.length+(lnW (true,[[102,105,108,116,101,114],[105,110],r.dvIn])).length≤140737488355328:=(by rw[←E];have:=HM.out;simp only[List.length_append]at this⊢;omega);have hs:=zCm hc;rw[hs];refine wp_cond_true rfl ?_;go_wp2_with (refine zAh rfl rfl rfl rfl (by simp[lnW,joinW]at hj⊢;omega) ?_);go_meet;exact⟨by rw[E];simp[lnW,joinW],H.out⟩
    |false=>
     have hs:=zCg hc;rw[hs];refine wp_cond_false rfl ?_;go_wp2;go_meet;exact⟨by rw[show textA (optL (!r.dvIn.isEmpty) [(true,[[102,105,108,116,101,114],[105,110],r.dvIn])])=[]from zAn hc,List.append_nil],H.out⟩
   case rest=>
   clear H c14;obtain⟨rfl,hcut⟩:=hcut;have H:=hid hcut;clear hcut;obtain⟨q2d,hp⟩:∃zz,zz=q1d++textA (optL (!r.dvIn.isEmpty) [(true,[[102,105,108,116,101,114],[105,110],r.dvIn])]):=⟨_,rfl⟩;rw[←hp];have HM2:Hid (q2d.length+((textA (optL (!r.dvOut.isEmpty) [(true,[[102,105,108,116,101,114],[111,117,116],r.dvOut])])++(textA (nthL (fun _ x=>[rdA x]) 0 r.dvRed)++([]:List UInt8)))).length≤140737488355328):=hid (by have:=HM.out;rw[hp];simp only[List.length_append]at this⊢;omega);have HQ2:Hid (q2d++(textA (optL (!r.dvOut.isEmpty) [(true,[[102,105,108,116,101,114],[111,117,116],r.dvOut])])++(textA (nthL (fun _ x=>[rdA x]) 0 r.dvRed)++([]:List UInt8)))=ts):=hid (by rw[hp];exact(List.append_assoc _ _ _).trans HQ.out);clear hp HM HQ;have HM:=HM2;have HQ:=HQ2;clear HM2 HQ2;have c15:wc.cell? ⟨gy,15,none⟩=some (.string (str r.dvOut)):=H.out.a.cell 15;go_upto_if 85 with fail
   go_cut [3] (fun v wx=>v=.string (str (q2d++textA (optL (!r.dvOut.isEmpty) [(true,[[102,105,108,116,101,114],[111,117,116],r.dvOut])])))∧YA [(41,gy,r.C)] w wx)
   case first=>
    cases hc:(!r.dvOut.isEmpty)with
    |true=>
     have E:textA (optL (!r.dvOut.isEmpty) [(true,[[102,105,108,116,101,114],[111,117,116],r.dvOut])])=lnW (true,[[102,105,108,116,101,114],[111,117,116],r.dvOut]):=zAw hc;have hj:q2d.length+(lnW (true,[[102,105,108,116,101,114],[111,117,116],r.dvOut])).length≤140737488355328:=(by rw[←E];have:=HM.out;simp only[List.length_append]at this⊢;omega);have hs:=zCm hc;rw[hs];refine wp_cond_true rfl ?_;go_wp2_with (refine zAh rfl rfl rfl rfl (by simp[lnW,joinW]at hj⊢;omega) ?_);go_meet;exact⟨by rw[E];simp[lnW,joinW],H.out⟩
    |false=>
     have hs:=zCg hc;rw[hs];refine wp_cond_false rfl ?_;go_wp2;go_meet;exact⟨by rw[show textA (optL (!r.dvOut.isEmpty) [(true,[[102,105,108,116,101,114],[111,117,116],r.dvOut])])=[]from zAn hc,List.append_nil],H.out⟩
   case rest=>
   clear H c15;obtain⟨rfl,hcut⟩:=hcut;have H:=hid hcut;clear hcut;obtain⟨q3d,hp⟩:∃zz,zz=q2d++textA (optL (!r.dvOut.isEmpty) [(true,[[102,105,108,116,101,114],[111,117,116],r.dvOut])]):=⟨_,rfl⟩;rw[←hp];have HM2:Hid (q3d.length+((textA (nthL (fun _ x=>[rdA x]) 0 r.dvRed)++([]:List UInt8))).length≤140737488355328):=hid (by have:=HM.out;rw[hp];simp only[List.length_append]at this⊢;omega);have HQ2:Hid (q3d++(textA (nthL (fun _ x=>[rdA x]) 0 r.dvRed)++([]:List UInt8))=ts):=hid (by rw[hp];exact(List.append_assoc _ _ _).trans HQ.out);clear hp HM HQ;have HM:=HM2;have HQ:=HQ2;clear HM2 HQ2;have cc:wc.cell? ⟨gy,16,none⟩=some (.slice A16 r.dvRed.length cp16):=(H.out.a.cell 16).trans HE16.out;have hz:(textA (r.dvRed.map rdA)).length≤140737488355328:=by rw[zBy rdA _ 0];have:=HM.out;simp only[List.length_append]at this⊢;omega
   have hj:q3d.length+(textA (r.dvRed.map rdA)).length≤140737488355328:=by rw[zBy rdA _ 0];have:=HM.out;simp only[List.length_append]at this⊢;omega
   go_wp2_with fail;refine(rred_any r.dvRed _ _ B (Nat.le_trans hB.out H.out.b.size) (HV16.out.below (H.out.b.mono hB.out)) hd.out hz).mono ?_;rintro e w9 ⟨rfl,hb⟩;have H9:=hid (H.out.below hb);clear hb;go_wp2_with (refine zAh rfl rfl rfl rfl (by omega) ?_);have HZ:Hid (q3d++textA (r.dvRed.map rdA)=ts):=hid (by have:=HQ.out;rw[zBy rdA _ 0];rwa [List.append_nil]at this);go_meet;exact⟨by rw[HZ.out,hts.out],H9.out⟩
  |false=>
   rw[ho]at co;refine wp_cond_false rfl ?_;go_wp2;go_meet;exact⟨by rw[show textA (dvA r)=[]from zAn ho,List.append_nil]<;>rfl,H.out⟩
 case rest=>
 clear H co;obtain⟨rfl,hcut⟩:=hcut;have H:=hid hcut;clear hcut;obtain⟨q2,hp⟩:∃zz,zz=q1++textA (dvA r):=⟨_,rfl⟩;rw[←hp];have HM2:Hid (q2.length+((textA (pvA r)++([]:List UInt8))).length≤140737488355328):=hid (by have:=HM.out;rw[hp];simp only[List.length_append]at this⊢;omega);have HQ2:Hid (q2++(textA (pvA r)++([]:List UInt8))=tot):=hid (by rw[hp];exact(List.append_assoc _ _ _).trans HQ.out);clear hp HM HQ;have HM:=HM2;have HQ:=HQ2;clear HM2 HQ2;have cpv:=HasC.subM H.out.a 17 r.pvC (by intro j hj;have hj:j<8:=hj;rcases(show j=0∨j=1∨j=2∨j=3∨j=4∨j=5∨j=6∨j=7 by omega)with rfl|rfl|rfl|rfl|rfl|rfl|rfl|rfl<;>rfl);go_upto_region 17 with(first|(refine zAa rfl 39 _ rfl rfl cpv Tryz.rowPV Tryz.sizePV ?_)|(refine zAd rfl 39 _ _ rfl rfl rfl (HasC.new wc _ _) rfl Tryz.sizePV HO1.out ?_;intro w4 hz1 hz2))
 have H4:Hid (YA ((39,wc.heap.size,r.pvC) :: [(41,gy,r.C)]) w w4):=hid (H.out.new hz1 (zAi hz2));clear hz1 hz2 cpv H;generalize wc.heap.size=gv at H4⊢;have co:w4.cell? ⟨gv,0,none⟩=some (.bool r.pvOn):=H4.out.a.cell 0;go_upto_if 103 with fail
 cases ho:r.pvOn with
 |false=>
  rw[ho]at co;have HZ:=HQ.out;rw[show textA (pvA r)=[]from zAn ho,List.append_nil,List.append_nil]at HZ;refine wp_cond_true rfl ?_;go_wp2;go_ret;exact⟨by rw[HZ];rfl,H4.out.b⟩
 |true=>
 rw[ho]at co;refine wp_cond_false rfl ?_;have HQv:=HQ;have EP:textA (pvA r)=((lnW (false,[[114,111,117,116,101,114],[112,118]])++(lnW (true,[[100,105,115,116,97,110,99,101],[101,120,116,101,114,110,97,108],decI r.ext])++lnW (true,[[100,105,115,116,97,110,99,101],[105,110,116,101,114,110,97,108],decI r.int])))++(textA (nthL (fun _ x=>[nbA x]) 0 r.nb)++(textA (nthL (fun _ (p:Pf)=>[(true,[[110,101,116,119,111,114,107],pfxF p.pa p.pl])]) 0 r.net)++(textA (nthL (fun _ x=>[agA x]) 0 r.ag)++(textA (nthL (fun _ x=>[cdA x]) 0 r.cd)++(textA (nthL (fun _ x=>[rdA x]) 0 r.pvRed)++([]:List UInt8))))))):=by rw[show pvA r=optL r.pvOn _ from rfl,ho];simp only[optL,if_true,zDn,zAk,zBy _ _ 0,List.append_assoc,List.append_nil]
 have HMs:Hid (q2.length+(((lnW (false,[[114,111,117,116,101,114],[112,118]])++(lnW (true,[[100,105,115,116,97,110,99,101],[101,120,116,101,114,110,97,108],decI r.ext])++lnW (true,[[100,105,115,116,97,110,99,101],[105,110,116,101,114,110,97,108],decI r.int])))++(textA (nthL (fun _ x=>[nbA x]) 0 r.nb)++(textA (nthL (fun _ (p:Pf)=>[(true,[[110,101,116,119,111,114,107],pfxF p.pa p.pl])]) 0 r.net)++(textA (nthL (fun _ x=>[agA x]) 0 r.ag)++(textA (nthL (fun _ x=>[cdA x]) 0 r.cd)++(textA (nthL (fun _ x=>[rdA x]) 0 r.pvRed)++([]:List UInt8)))))))).length≤140737488355328):=hid (by rw[←EP];have:=HM.out;simp only[List.length_append]at this⊢;omega);obtain⟨ts,hts⟩:∃ts,ts=q2++textA (pvA r):=⟨_,rfl⟩;have HQs:Hid (q2++((lnW (false,[[114,111,117,116,101,114],[112,118]])++(lnW (true,[[100,105,115,116,97,110,99,101],[101,120,116,101,114,110,97,108],decI r.ext])++lnW (true,[[100,105,115,116,97,110,99,101],[105,110,116,101,114,110,97,108],decI r.int])))++(textA (nthL (fun _ x=>[nbA x]) 0 r.nb)++(textA (nthL (fun _ (p:Pf)=>[(true,[[110,101,116,119,111,114,107],pfxF p.pa p.pl])]) 0 r.net)++(textA (nthL (fun _ x=>[agA x]) 0 r.ag)++(textA (nthL (fun _ x=>[cdA x]) 0 r.cd)++(textA (nthL (fun _ x=>[rdA x]) 0 r.pvRed)++([]:List UInt8)))))))=ts):=hid (by rw[hts,EP]);replace hts:=hid hts;clear EP;have hX:=x3.out ho;clear ho co;obtain⟨k1,k2,hn,ht,ha,hc,hd⟩:=hX;replace hn:=hid hn;replace ht:=hid ht;replace ha:=hid ha;replace hc:=hid hc;replace hd:=hid hd;have b1:0≤r.ext∧r.ext≤16777215:=by omega
 have b2:0≤r.int∧r.int≤16777215:=by omega
 go_upto_region 19 with fail
 try simp only[Act.put]
 go_cut [3] (fun v wx=>v=.string (str (q2++(lnW (false,[[114,111,117,116,101,114],[112,118]])++(lnW (true,[[100,105,115,116,97,110,99,101],[101,120,116,101,114,110,97,108],decI r.ext])++lnW (true,[[100,105,115,116,97,110,99,101],[105,110,116,101,114,110,97,108],decI r.int])))))∧YA ((39,gv,r.pvC) :: [(41,gy,r.C)]) w wx)
 case first=>
  as_aux_lemma=>
  have hj:q2.length+((lnW (false,[[114,111,117,116,101,114],[112,118]])++(lnW (true,[[100,105,115,116,97,110,99,101],[101,120,116,101,114,110,97,108],decI r.ext])++lnW (true,[[100,105,115,116,97,110,99,101],[105,110,116,101,114,110,97,108],decI r.int])))).length≤140737488355328:=(by have:=HMs.out;simp only[List.length_append]at this⊢;omega);have HX:Hid (∀W,YA ((39,gv,r.pvC) :: [(41,gy,r.C)]) w W→W.cell? ⟨gv,1,none⟩=some (.int .i64 r.ext)∧W.cell? ⟨gv,2,none⟩=some (.int .i64 r.int)):=hid fun W hW=>⟨hW.a.cell 1,hW.a.cell 2⟩
  refine zAo (fun W=>YA ((39,gv,r.pvC) :: [(41,gy,r.C)]) w W) (by kernel_rfl) (by kernel_rfl) H4.out.drew ?_
  repeat
   (first
    |(refine zDy rfl rfl rfl rfl ?_ ?_;(· (simp[lnW,joinW]at hj⊢;omega)))
    |(refine zBd (v:=?_) ?_ ?_ ?_;rotate_left;(· rfl);(· (intro W hW;obtain⟨c1,c2⟩:=HX.out W hW;go_simp<;>rfl)))
    |(refine zAm ?_ ?_ (fun W hW=>(zBm r.ext W b1.1 b1.2).mono fun e w' ⟨he,hw⟩=>⟨he,hw ▸ hW⟩) ?_;(· rfl);(· (intro W hW;go_simp<;>rfl)))
    |(refine zAm ?_ ?_ (fun W hW=>(zBm r.int W b2.1 b2.2).mono fun e w' ⟨he,hw⟩=>⟨he,hw ▸ hW⟩) ?_;(· rfl);(· (intro W hW;go_simp<;>rfl))))
   simp only[Act.put,List.setIfInBounds_toArray,List.set_cons_zero,List.set_cons_succ]
  refine zBo (fun wq hS=>?_);have HS:=hid hS;clear hS HX;go_wp2;go_meet;exact⟨by simp[lnW,joinW],HS.out⟩
 case rest=>
 clear H4;obtain⟨rfl,hcut⟩:=hcut;have H:=hid hcut;clear hcut;obtain⟨q1v,hp⟩:∃zz,zz=q2++(lnW (false,[[114,111,117,116,101,114],[112,118]])++(lnW (true,[[100,105,115,116,97,110,99,101],[101,120,116,101,114,110,97,108],decI r.ext])++lnW (true,[[100,105,115,116,97,110,99,101],[105,110,116,101,114,110,97,108],decI r.int]))):=⟨_,rfl⟩;rw[←hp];have HM2:Hid (q1v.length+((textA (nthL (fun _ x=>[nbA x]) 0 r.nb)++(textA (nthL (fun _ (p:Pf)=>[(true,[[110,101,116,119,111,114,107],pfxF p.pa p.pl])]) 0 r.net)++(textA (nthL (fun _ x=>[agA x]) 0 r.ag)++(textA (nthL (fun _ x=>[cdA x]) 0 r.cd)++(textA (nthL (fun _ x=>[rdA x]) 0 r.pvRed)++([]:List UInt8))))))).length≤140737488355328):=hid (by have:=HMs.out;rw[hp];simp only[List.length_append]at this⊢;omega);have HQ2:Hid (q1v++(textA (nthL (fun _ x=>[nbA x]) 0 r.nb)++(textA (nthL (fun _ (p:Pf)=>[(true,[[110,101,116,119,111,114,107],pfxF p.pa p.pl])]) 0 r.net)++(textA (nthL (fun _ x=>[agA x]) 0 r.ag)++(textA (nthL (fun _ x=>[cdA x]) 0 r.cd)++(textA (nthL (fun _ x=>[rdA x]) 0 r.pvRed)++([]:List UInt8))))))=ts):=hid (by rw[hp];exact(List.append_assoc _ _ _).trans HQs.out);clear hp HMs HQs;have HM:=HM2;have HQ:=HQ2;clear HM2 HQ2;go_upto_block 2 with fail
 go_cut [3] (fun v wx=>v=.string (str (q1v++textA (nthL (fun _ x=>[nbA x]) 0 r.nb)))∧YA ((39,gv,r.pvC) :: [(41,gy,r.C)]) w wx)
 case first=>
  as_aux_lemma=>
  go_wp2;go_loopg [3,6,7] r.nb.length (fun gh sv ix _ wr=>∃k:Nat,k+gh=r.nb.length∧ix=.int .i64 k∧sv=.string (str (q1v++textA (nthL (fun _ x=>[nbA x]) 0 (r.nb.take k))))∧Hid (YA ((39,gv,r.pvC) :: [(41,gy,r.C)]) w wr));case atStart=>exact⟨0,by omega,rfl,by rw[List.take_zero,nthL,zAz,List.append_nil]<;>rfl,H⟩
  case round=>
   obtain⟨k,hk,rfl,rfl,HR⟩:=hrel;have cr:wr.cell? ⟨gv,3,none⟩=some (.slice A20 r.nb.length cp20):=(HR.out.a.cell 3).trans HE20.out;by_cases hlt:k<r.nb.length;case neg=>
    have hkz:¬((k:Int)<(r.nb.length:Int)):=by omega
    rw[List.take_of_length_le (by omega)];go_wp2;go_meet;exact⟨rfl,HR.out⟩
   have hkz:(k:Int)<(r.nb.length:Int):=by omega
   obtain⟨gr,o,c', e',-,hgr,R0⟩:=SlV.elem (n:=4) (by decide) (fun _=>rfl) HV20.out hlt;injection e' with e1 e2 e3
   subst e1 e3;have r1:=hid (zAf R0 (HR.out.b.mono hB.out) hgr);clear e2 R0;have HX:=hid (hn.out _ (List.getElem_mem hlt));have ET:=hid (zAy (fun _ x=>[nbA x]) r.nb hlt);have HP:=hid (zBa (fun _ x=>[nbA x]) r.nb hlt);generalize r.nb[k]=x at HX ET HP r1;obtain⟨p,hp⟩:∃zz,zz=q1v++textA (nthL (fun _ x=>[nbA x]) 0 (r.nb.take k)):=⟨_,rfl⟩;rw[←hp];have HN:Hid (textA ((fun _ x=>[nbA x]) k x)=(([32]++joinW [[110,101,105,103,104,98,111,114],fmtA x.addr,[97,115],decI x.asn])++(tlW (optL (!x.inn.isEmpty) [[105,110],x.inn])++(tlW (optL (!x.out.isEmpty) [[111,117,116],x.out])++([10]++([]:List UInt8)))))):=hid (by rw[zAx,nbA,zJm,zHt];simp only[List.append_assoc,List.append_nil,if_true]);have HMp:Hid (p.length+((([32]++joinW [[110,101,105,103,104,98,111,114],fmtA x.addr,[97,115],decI x.asn])++(tlW (optL (!x.inn.isEmpty) [[105,110],x.inn])++(tlW (optL (!x.out.isEmpty) [[111,117,116],x.out])++([10]++([]:List UInt8)))))).length≤140737488355328):=hid (by rw[←HN.out,hp,List.length_append];have h1:=HM.out;have h2:=HP.out;simp only[List.length_append]at h1⊢;omega);obtain⟨tzx,htzx⟩:∃zz,zz=p++(([32]++joinW [[110,101,105,103,104,98,111,114],fmtA x.addr,[97,115],decI x.asn])++(tlW (optL (!x.inn.isEmpty) [[105,110],x.inn])++(tlW (optL (!x.out.isEmpty) [[111,117,116],x.out])++([10]++([]:List UInt8))))):=⟨_,rfl⟩;have HTZx:Hid (tzx=q1v++textA (nthL (fun _ x=>[nbA x]) 0 (r.nb.take (k+1)))):=hid (by rw[ET.out,zAk,←List.append_assoc,←hp];exact htzx.trans (congrArg _ HN.out.symm));replace htzx:=hid htzx;clear HP HN hp ET;go_upto_region 24 with(first|(refine zAa rfl 115 _ rfl rfl r1.out Tryz.rowNb Tryz.sizeNb ?_)|(refine zAd rfl 115 _ _ rfl rfl rfl (HasC.new wr _ _) rfl Tryz.sizeNb (Nb.one x) ?_;intro w4 hz1 hz2))
   have H4:Hid (YA ((115,wr.heap.size,x.C) :: ((39,gv,r.pvC) :: [(41,gy,r.C)])) w w4):=hid (HR.out.new hz1 (zAi hz2));clear hz1 hz2 r1 HR cr;generalize wr.heap.size=gx at H4⊢;have HQp:Hid (p++(([32]++joinW [[110,101,105,103,104,98,111,114],fmtA x.addr,[97,115],decI x.asn])++(tlW (optL (!x.inn.isEmpty) [[105,110],x.inn])++(tlW (optL (!x.out.isEmpty) [[111,117,116],x.out])++([10]++([]:List UInt8)))))=tzx):=hid htzx.out.symm;clear htzx;obtain⟨⟨k3,k4⟩,hf⟩:=HX.out;have k5:0≤x.asn:=by omega
   have k6:x.asn≤16777215:=by omega
   go_upto_region 24 with fail
   try simp only[Act.put]
   go_cut [3] (fun v wx=>v=.string (str (p++([32]++joinW [[110,101,105,103,104,98,111,114],fmtA x.addr,[97,115],decI x.asn])))∧YA ((115,gx,x.C) :: ((39,gv,r.pvC) :: [(41,gy,r.C)])) w wx)
   case first=>
    as_aux_lemma=>
    have hj:p.length+(([32]++joinW [[110,101,105,103,104,98,111,114],fmtA x.addr,[97,115],decI x.asn])).length≤140737488355328:=(by have:=HMp.out;simp only[List.length_append]at this⊢;omega);have HX:Hid (∀W,YA ((115,gx,x.C) :: ((39,gv,r.pvC) :: [(41,gy,r.C)])) w W→W.cell? ⟨gx,0,none⟩=some (.int .u32 (x.addr:Int))∧W.cell? ⟨gx,1,none⟩=some (.int .i64 x.asn)):=hid fun W hW=>⟨hW.a.cell 0,hW.a.cell 1⟩
    refine zAo (fun W=>YA ((115,gx,x.C) :: ((39,gv,r.pvC) :: [(41,gy,r.C)])) w W) (by kernel_rfl) (by kernel_rfl) H4.out.drew ?_
    repeat
     (first
      |(refine zDy rfl rfl rfl rfl ?_ ?_;(· (simp[joinW]at hj⊢;omega)))
      |(refine zBd (v:=?_) ?_ ?_ ?_;rotate_left;(· rfl);(· (intro W hW;obtain⟨c0,c1⟩:=HX.out W hW;go_simp<;>rfl)))
      |(refine zAm ?_ ?_ (fun W hW=>(zDj x.addr W hf).mono fun e w' ⟨he,hw⟩=>⟨he,hw ▸ hW⟩) ?_;(· rfl);(· (intro W hW;go_simp<;>rfl)))
      |(refine zAm ?_ ?_ (fun W hW=>(zBm x.asn W k5 k6).mono fun e w' ⟨he,hw⟩=>⟨he,hw ▸ hW⟩) ?_;(· rfl);(· (intro W hW;go_simp<;>rfl))))
     simp only[Act.put,List.setIfInBounds_toArray,List.set_cons_zero,List.set_cons_succ]
    refine zBo (fun wq hS=>?_);have HS:=hid hS;clear hS HX;go_wp2;go_meet;exact⟨by simp[joinW],HS.out⟩
   case rest=>
   clear H4;obtain⟨rfl,hcut⟩:=hcut;have H:=hid hcut;clear hcut;obtain⟨q1x,hp⟩:∃zz,zz=p++([32]++joinW [[110,101,105,103,104,98,111,114],fmtA x.addr,[97,115],decI x.asn]):=⟨_,rfl⟩;rw[←hp];have HM2:Hid (q1x.length+((tlW (optL (!x.inn.isEmpty) [[105,110],x.inn])++(tlW (optL (!x.out.isEmpty) [[111,117,116],x.out])++([10]++([]:List UInt8))))).length≤140737488355328):=hid (by have:=HMp.out;rw[hp];simp only[List.length_append]at this⊢;omega);have HQ2:Hid (q1x++(tlW (optL (!x.inn.isEmpty) [[105,110],x.inn])++(tlW (optL (!x.out.isEmpty) [[111,117,116],x.out])++([10]++([]:List UInt8))))=tzx):=hid (by rw[hp];exact(List.append_assoc _ _ _).trans HQp.out);clear hp HMp HQp;have HM:=HM2;have HQ:=HQ2;clear HM2 HQ2;have c2:wc.cell? ⟨gx,2,none⟩=some (.string (str x.inn)):=H.out.a.cell 2;go_upto_if 142 with fail
   go_cut [3] (fun v wx=>v=.string (str (q1x++tlW (optL (!x.inn.isEmpty) [[105,110],x.inn])))∧YA ((115,gx,x.C) :: ((39,gv,r.pvC) :: [(41,gy,r.C)])) w wx)
   case first=>
    as_aux_lemma=>
    cases hc:(!x.inn.isEmpty)with
    |true=>
     have E:tlW (optL (!x.inn.isEmpty) [[105,110],x.inn])=tlW [[105,110],x.inn]:=zEz hc;have hj:q1x.length+(tlW [[105,110],x.inn]).length≤140737488355328:=(by rw[←E];have:=HM.out;simp only[List.length_append]at this⊢;omega);have hs:=zCm hc;rw[hs];refine wp_cond_true rfl ?_;go_wp2_with (refine zAh rfl rfl rfl rfl (by simp[tlW]at hj⊢;omega) ?_);go_meet;exact⟨by rw[E];simp[tlW],H.out⟩
    |false=>
     have hs:=zCg hc;rw[hs];refine wp_cond_false rfl ?_;go_wp2;go_meet;exact⟨by rw[show tlW (optL (!x.inn.isEmpty) [[105,110],x.inn])=[]from zDz hc,List.append_nil],H.out⟩
   case rest=>
   clear H c2;obtain⟨rfl,hcut⟩:=hcut;have H:=hid hcut;clear hcut;obtain⟨q2x,hp⟩:∃zz,zz=q1x++tlW (optL (!x.inn.isEmpty) [[105,110],x.inn]):=⟨_,rfl⟩;rw[←hp];have HM2:Hid (q2x.length+((tlW (optL (!x.out.isEmpty) [[111,117,116],x.out])++([10]++([]:List UInt8)))).length≤140737488355328):=hid (by have:=HM.out;rw[hp];simp only[List.length_append]at this⊢;omega);have HQ2:Hid (q2x++(tlW (optL (!x.out.isEmpty) [[111,117,116],x.out])++([10]++([]:List UInt8)))=tzx):=hid (by rw[hp];exact(List.append_assoc _ _ _).trans HQ.out);clear hp HM HQ;have HM:=HM2;have HQ:=HQ2;clear HM2 HQ2;have c3:wc.cell? ⟨gx,3,none⟩=some (.string (str x.out)):=H.out.a.cell 3;go_upto_if 150 with fail
   go_cut [3] (fun v wx=>v=.string (str (q2x++tlW (optL (!x.out.isEmpty) [[111,117,116],x.out])))∧YA ((115,gx,x.C) :: ((39,gv,r.pvC) :: [(41,gy,r.C)])) w wx)
   case first=>
    as_aux_lemma=>
    cases hc:(!x.out.isEmpty)with
    |true=>
     have E:tlW (optL (!x.out.isEmpty) [[111,117,116],x.out])=tlW [[111,117,116],x.out]:=zEz hc;have hj:q2x.length+(tlW [[111,117,116],x.out]).length≤140737488355328:=(by rw[←E];have:=HM.out;simp only[List.length_append]at this⊢;omega);have hs:=zCm hc;rw[hs];refine wp_cond_true rfl ?_;go_wp2_with (refine zAh rfl rfl rfl rfl (by simp[tlW]at hj⊢;omega) ?_);go_meet;exact⟨by rw[E];simp[tlW],H.out⟩
    |false=>
     have hs:=zCg hc;rw[hs];refine wp_cond_false rfl ?_;go_wp2;go_meet;exact⟨by rw[show tlW (optL (!x.out.isEmpty) [[111,117,116],x.out])=[]from zDz hc,List.append_nil],H.out⟩
   case rest=>
   clear H c3;obtain⟨rfl,hcut⟩:=hcut;have H:=hid hcut;clear hcut;obtain⟨q3x,hp⟩:∃zz,zz=q2x++tlW (optL (!x.out.isEmpty) [[111,117,116],x.out]):=⟨_,rfl⟩;rw[←hp];have HM2:Hid (q3x.length+(([10]++([]:List UInt8))).length≤140737488355328):=hid (by have:=HM.out;rw[hp];simp only[List.length_append]at this⊢;omega);have HQ2:Hid (q3x++([10]++([]:List UInt8))=tzx):=hid (by rw[hp];exact(List.append_assoc _ _ _).trans HQ.out);clear hp HM HQ;have HM:=HM2;have HQ:=HQ2;clear HM2 HQ2;have hj:q3x.length+([10]).length≤140737488355328:=(by have:=HM.out;simp only[List.length_append]at this⊢;omega);have HZ:Hid (q3x++[10]=tzx):=hid (by have:=HQ.out;rwa [List.append_nil]at this);go_wp2_with (refine zAh rfl rfl rfl rfl (by simp at hj⊢;omega) ?_);go_roundg (r.nb.length - (k+1));case measure=>omega
   case rel=>
    refine⟨k+1,by omega,by go_num,?_,hid (H.out.pop)⟩;rw[←HTZx.out,←HZ.out]
 case rest=>
 clear H;obtain⟨rfl,hcut⟩:=hcut;have H:=hid hcut;clear hcut;obtain⟨q2v,hp⟩:∃zz,zz=q1v++textA (nthL (fun _ x=>[nbA x]) 0 r.nb):=⟨_,rfl⟩;rw[←hp];have HM2:Hid (q2v.length+((textA (nthL (fun _ (p:Pf)=>[(true,[[110,101,116,119,111,114,107],pfxF p.pa p.pl])]) 0 r.net)++(textA (nthL (fun _ x=>[agA x]) 0 r.ag)++(textA (nthL (fun _ x=>[cdA x]) 0 r.cd)++(textA (nthL (fun _ x=>[rdA x]) 0 r.pvRed)++([]:List UInt8)))))).length≤140737488355328):=hid (by have:=HM.out;rw[hp];simp only[List.length_append]at this⊢;omega);have HQ2:Hid (q2v++(textA (nthL (fun _ (p:Pf)=>[(true,[[110,101,116,119,111,114,107],pfxF p.pa p.pl])]) 0 r.net)++(textA (nthL (fun _ x=>[agA x]) 0 r.ag)++(textA (nthL (fun _ x=>[cdA x]) 0 r.cd)++(textA (nthL (fun _ x=>[rdA x]) 0 r.pvRed)++([]:List UInt8)))))=ts):=hid (by rw[hp];exact(List.append_assoc _ _ _).trans HQ.out);clear hp HM HQ;have HM:=HM2;have HQ:=HQ2;clear HM2 HQ2;go_upto_block 4 with fail
 go_cut [3] (fun v wx=>v=.string (str (q2v++textA (nthL (fun _ (p:Pf)=>[(true,[[110,101,116,119,111,114,107],pfxF p.pa p.pl])]) 0 r.net)))∧YA ((39,gv,r.pvC) :: [(41,gy,r.C)]) w wx)
 case first=>
  as_aux_lemma=>
  go_wp2;go_loopg [3,8] r.net.length (fun gh sv ix  wr=>∃k:Nat,k+gh=r.net.length∧ix=.int .i64 k∧sv=.string (str (q2v++textA (nthL (fun _ (p:Pf)=>[(true,[[110,101,116,119,111,114,107],pfxF p.pa p.pl])]) 0 (r.net.take k))))∧Hid (YA ((39,gv,r.pvC) :: [(41,gy,r.C)]) w wr));case atStart=>exact⟨0,by omega,rfl,by rw[List.take_zero,nthL,zAz,List.append_nil]<;>rfl,H⟩
  case round=>
   obtain⟨k,hk,rfl,rfl,HR⟩:=hrel;have cr:wr.cell? ⟨gv,4,none⟩=some (.slice A21 r.net.length cp21):=(HR.out.a.cell 4).trans HE21.out;by_cases hlt:k<r.net.length;case neg=>
    have hkz:¬((k:Int)<(r.net.length:Int)):=by omega
    rw[List.take_of_length_le (by omega)];go_wp2;go_meet;exact⟨rfl,HR.out⟩
   have hkz:(k:Int)<(r.net.length:Int):=by omega
   obtain⟨gr,o,c', e',-,hgr,R0⟩:=SlV.elem (n:=2) (by decide) (fun _=>rfl) HV21.out hlt;injection e' with e1 e2 e3
   subst e1 e3;have r1:=hid (zAf R0 (HR.out.b.mono hB.out) hgr);have RK:Hid (∀W,YA ((39,gv,r.pvC) :: [(41,gy,r.C)]) w W→_):=hid fun W hW=>zAf R0 (hW.b.mono hB.out) hgr
   clear e2 R0;have HX:=hid (ht.out _ (List.getElem_mem hlt));have ET:=hid (zAy (fun _ (p:Pf)=>[(true,[[110,101,116,119,111,114,107],pfxF p.pa p.pl])]) r.net hlt);have HP:=hid (zBa (fun _ (p:Pf)=>[(true,[[110,101,116,119,111,114,107],pfxF p.pa p.pl])]) r.net hlt);generalize r.net[k]=x at HX ET HP r1 RK;obtain⟨p,hp⟩:∃zz,zz=q2v++textA (nthL (fun _ (p:Pf)=>[(true,[[110,101,116,119,111,114,107],pfxF p.pa p.pl])]) 0 (r.net.take k)):=⟨_,rfl⟩;rw[←hp];have HN:Hid (textA ((fun _ (p:Pf)=>[(true,[[110,101,116,119,111,114,107],pfxF p.pa p.pl])]) k x)=(textA [(true,[[110,101,116,119,111,114,107],pfxF x.pa x.pl])]++([]:List UInt8))):=hid ((List.append_nil _).symm);have HMp:Hid (p.length+((textA [(true,[[110,101,116,119,111,114,107],pfxF x.pa x.pl])]++([]:List UInt8))).length≤140737488355328):=hid (by rw[←HN.out,hp,List.length_append];have h1:=HM.out;have h2:=HP.out;simp only[List.length_append]at h1⊢;omega);obtain⟨tzx,htzx⟩:∃zz,zz=p++(textA [(true,[[110,101,116,119,111,114,107],pfxF x.pa x.pl])]++([]:List UInt8)):=⟨_,rfl⟩;have HTZx:Hid (tzx=q2v++textA (nthL (fun _ (p:Pf)=>[(true,[[110,101,116,119,111,114,107],pfxF p.pa p.pl])]) 0 (r.net.take (k+1)))):=hid (by rw[ET.out,zAk,←List.append_assoc,←hp];exact htzx.trans (congrArg _ HN.out.symm));replace htzx:=hid htzx;clear HP HN hp ET;have hf:=HX.out;clear r1;have E:textA [(true,[[110,101,116,119,111,114,107],pfxF x.pa x.pl])]=lnW (true,[[110,101,116,119,111,114,107],pfxF x.pa x.pl]):=zAx _;have hj:p.length+(lnW (true,[[110,101,116,119,111,114,107],pfxF x.pa x.pl])).length≤140737488355328:=(by rw[←E];have:=HMp.out;simp only[List.length_append]at this⊢;omega);obtain⟨q0,q1⟩:wr.cell? ⟨gr,o+k*2,none⟩=some (.int .u32 (x.pa:Int))∧wr.cell? ⟨gr,o+k*2+1,none⟩=some (.int .i64 x.pl):=have q:=RK.out _ HR.out;⟨q 0 _ rfl,q 1 _ rfl⟩;go_wp2_with (refine zAh rfl rfl rfl rfl (by simp[lnW,joinW]at hj⊢;omega) ?_);refine(zDe x.pa x.pl _ hf).mono ?_;rintro e w1 ⟨rfl,hb⟩;have H1:=hid (HR.out.below hb);clear hb;go_wp2_with (refine zAh rfl rfl rfl rfl (by simp[lnW,joinW]at hj⊢;omega) ?_);have HQx:Hid (p++(textA [(true,[[110,101,116,119,111,114,107],pfxF x.pa x.pl])]++([]:List UInt8))=tzx):=hid htzx.out.symm;have HZ:Hid (p++textA [(true,[[110,101,116,119,111,114,107],pfxF x.pa x.pl])]=tzx):=hid (by have:=HQx.out;rwa [List.append_nil]at this);go_roundg (r.net.length - (k+1));case measure=>omega
   case rel=>
    refine⟨k+1,by omega,by go_num,?_,hid (H1.out)⟩;rw[←HTZx.out,←HZ.out,E];simp[lnW,joinW]
 case rest=>
 clear H;obtain⟨rfl,hcut⟩:=hcut;have H:=hid hcut;clear hcut;obtain⟨q3v,hp⟩:∃zz,zz=q2v++textA (nthL (fun _ (p:Pf)=>[(true,[[110,101,116,119,111,114,107],pfxF p.pa p.pl])]) 0 r.net):=⟨_,rfl⟩;rw[←hp];have HM2:Hid (q3v.length+((textA (nthL (fun _ x=>[agA x]) 0 r.ag)++(textA (nthL (fun _ x=>[cdA x]) 0 r.cd)++(textA (nthL (fun _ x=>[rdA x]) 0 r.pvRed)++([]:List UInt8))))).length≤140737488355328):=hid (by have:=HM.out;rw[hp];simp only[List.length_append]at this⊢;omega);have HQ2:Hid (q3v++(textA (nthL (fun _ x=>[agA x]) 0 r.ag)++(textA (nthL (fun _ x=>[cdA x]) 0 r.cd)++(textA (nthL (fun _ x=>[rdA x]) 0 r.pvRed)++([]:List UInt8))))=ts):=hid (by rw[hp];exact(List.append_assoc _ _ _).trans HQ.out);clear hp HM HQ;have HM:=HM2;have HQ:=HQ2;clear HM2 HQ2;go_upto_block 6 with fail
 go_cut [3] (fun v wx=>v=.string (str (q3v++textA (nthL (fun _ x=>[agA x]) 0 r.ag)))∧YA ((39,gv,r.pvC) :: [(41,gy,r.C)]) w wx)
 case first=>
  as_aux_lemma=>
  go_wp2;go_loopg [3,9] r.ag.length (fun gh sv ix  wr=>∃k:Nat,k+gh=r.ag.length∧ix=.int .i64 k∧sv=.string (str (q3v++textA (nthL (fun _ x=>[agA x]) 0 (r.ag.take k))))∧Hid (YA ((39,gv,r.pvC) :: [(41,gy,r.C)]) w wr));case atStart=>exact⟨0,by omega,rfl,by rw[List.take_zero,nthL,zAz,List.append_nil]<;>rfl,H⟩
  case round=>
   obtain⟨k,hk,rfl,rfl,HR⟩:=hrel;have cr:wr.cell? ⟨gv,5,none⟩=some (.slice A22 r.ag.length cp22):=(HR.out.a.cell 5).trans HE22.out;by_cases hlt:k<r.ag.length;case neg=>
    have hkz:¬((k:Int)<(r.ag.length:Int)):=by omega
    rw[List.take_of_length_le (by omega)];go_wp2;go_meet;exact⟨rfl,HR.out⟩
   have hkz:(k:Int)<(r.ag.length:Int):=by omega
   obtain⟨gr,o,c', e',-,hgr,R0⟩:=SlV.elem (n:=3) (by decide) (fun _=>rfl) HV22.out hlt;injection e' with e1 e2 e3
   subst e1 e3;have r1:=hid (zAf R0 (HR.out.b.mono hB.out) hgr);have RK:Hid (∀W,YA ((39,gv,r.pvC) :: [(41,gy,r.C)]) w W→_):=hid fun W hW=>zAf R0 (hW.b.mono hB.out) hgr
   clear e2 R0;have HX:=hid (ha.out _ (List.getElem_mem hlt));have ET:=hid (zAy (fun _ x=>[agA x]) r.ag hlt);have HP:=hid (zBa (fun _ x=>[agA x]) r.ag hlt);generalize r.ag[k]=x at HX ET HP r1 RK;obtain⟨p,hp⟩:∃zz,zz=q3v++textA (nthL (fun _ x=>[agA x]) 0 (r.ag.take k)):=⟨_,rfl⟩;rw[←hp];have HN:Hid (textA ((fun _ x=>[agA x]) k x)=(([32]++joinW [[97,103,103,114,101,103,97,116,101],pfxF x.pa x.pl])++(tlW (optL x.only [[111,110,108,121]])++([10]++([]:List UInt8))))):=hid (by rw[zAx,agA,zJm];simp only[List.append_assoc,List.append_nil,if_true]);have HMp:Hid (p.length+((([32]++joinW [[97,103,103,114,101,103,97,116,101],pfxF x.pa x.pl])++(tlW (optL x.only [[111,110,108,121]])++([10]++([]:List UInt8))))).length≤140737488355328):=hid (by rw[←HN.out,hp,List.length_append];have h1:=HM.out;have h2:=HP.out;simp only[List.length_append]at h1⊢;omega);obtain⟨tzx,htzx⟩:∃zz,zz=p++(([32]++joinW [[97,103,103,114,101,103,97,116,101],pfxF x.pa x.pl])++(tlW (optL x.only [[111,110,108,121]])++([10]++([]:List UInt8)))):=⟨_,rfl⟩;have HTZx:Hid (tzx=q3v++textA (nthL (fun _ x=>[agA x]) 0 (r.ag.take (k+1)))):=hid (by rw[ET.out,zAk,←List.append_assoc,←hp];exact htzx.trans (congrArg _ HN.out.symm));replace htzx:=hid htzx;clear HP HN hp ET;have hf:=HX.out;clear r1;have RQ:Hid (∀W,YA ((39,gv,r.pvC) :: [(41,gy,r.C)]) w W→W.cell? ⟨gv,5,none⟩=some (.slice (some ⟨gr,o,none⟩) r.ag.length cp22)∧W.cell? ⟨gr,o+k*3,none⟩=some (.int .u32 (x.pa:Int))∧W.cell? ⟨gr,o+k*3+1,none⟩=some (.int .i64 x.pl)∧W.cell? ⟨gr,o+k*3+2,none⟩=some (.bool x.only)):=hid fun W hW=>have q:=RK.out W hW;⟨(hW.a.cell 5).trans HE22.out,q 0 _ rfl,q 1 _ rfl,q 2 _ rfl⟩
   clear RK;obtain⟨-,q0,q1,q2⟩:=RQ.out _ HR.out;have HQx:Hid (p++(([32]++joinW [[97,103,103,114,101,103,97,116,101],pfxF x.pa x.pl])++(tlW (optL x.only [[111,110,108,121]])++([10]++([]:List UInt8))))=tzx):=hid htzx.out.symm;go_upto_region 37 with fail
   try simp only[Act.put]
   go_cut [3] (fun v wx=>v=.string (str (p++([32]++joinW [[97,103,103,114,101,103,97,116,101],pfxF x.pa x.pl])))∧YA ((39,gv,r.pvC) :: [(41,gy,r.C)]) w wx)
   case first=>
    as_aux_lemma=>
    have hj:p.length+(([32]++joinW [[97,103,103,114,101,103,97,116,101],pfxF x.pa x.pl])).length≤140737488355328:=(by have:=HMp.out;simp only[List.length_append]at this⊢;omega);go_wp2_with (refine zAh rfl rfl rfl rfl (by simp[joinW]at hj⊢;omega) ?_);refine(zDe x.pa x.pl _ hf).mono ?_;rintro e w1 ⟨rfl,hb⟩;have H1:=hid (HR.out.below hb);clear hb;go_wp2_with (refine zAh rfl rfl rfl rfl (by simp[joinW]at hj⊢;omega) ?_);go_meet;exact⟨by simp[joinW],H1.out⟩
   case rest=>
   clear HR;obtain⟨rfl,hcut⟩:=hcut;have H:=hid hcut;clear hcut;obtain⟨q1x,hp⟩:∃zz,zz=p++([32]++joinW [[97,103,103,114,101,103,97,116,101],pfxF x.pa x.pl]):=⟨_,rfl⟩;rw[←hp];have HM2:Hid (q1x.length+((tlW (optL x.only [[111,110,108,121]])++([10]++([]:List UInt8)))).length≤140737488355328):=hid (by have:=HMp.out;rw[hp];simp only[List.length_append]at this⊢;omega);have HQ2:Hid (q1x++(tlW (optL x.only [[111,110,108,121]])++([10]++([]:List UInt8)))=tzx):=hid (by rw[hp];exact(List.append_assoc _ _ _).trans HQx.out);clear hp HMp HQx;have HM:=HM2;have HQ:=HQ2;clear HM2 HQ2;obtain⟨cr,q0,q1,q2⟩:=RQ.out _ H.out;go_upto_if 197 with fail
   go_cut [3] (fun v wx=>v=.string (str (q1x++tlW (optL x.only [[111,110,108,121]])))∧YA ((39,gv,r.pvC) :: [(41,gy,r.C)]) w wx)
   case first=>
    as_aux_lemma=>
    cases hc:(x.only)with
    |true=>
     have E:tlW (optL x.only [[111,110,108,121]])=tlW [[111,110,108,121]]:=zEz hc;have hj:q1x.length+(tlW [[111,110,108,121]]).length≤140737488355328:=(by rw[←E];have:=HM.out;simp only[List.length_append]at this⊢;omega);go_wp2_with (refine zAh rfl rfl rfl rfl (by simp[tlW]at hj⊢;omega) ?_);go_meet;exact⟨by rw[E];simp[tlW],H.out⟩
    |false=>
     go_wp2;go_meet;exact⟨by rw[show tlW (optL x.only [[111,110,108,121]])=[]from zDz hc,List.append_nil],H.out⟩
   case rest=>
   clear H;obtain⟨rfl,hcut⟩:=hcut;have H:=hid hcut;clear hcut;obtain⟨q2x,hp⟩:∃zz,zz=q1x++tlW (optL x.only [[111,110,108,121]]):=⟨_,rfl⟩;rw[←hp];have HM2:Hid (q2x.length+(([10]++([]:List UInt8))).length≤140737488355328):=hid (by have:=HM.out;rw[hp];simp only[List.length_append]at this⊢;omega);have HQ2:Hid (q2x++([10]++([]:List UInt8))=tzx):=hid (by rw[hp];exact(List.append_assoc _ _ _).trans HQ.out);clear hp HM HQ;have HM:=HM2;have HQ:=HQ2;clear HM2 HQ2;have hj:q2x.length+([10]).length≤140737488355328:=(by have:=HM.out;simp only[List.length_append]at this⊢;omega);have HZ:Hid (q2x++[10]=tzx):=hid (by have:=HQ.out;rwa [List.append_nil]at this);go_wp2_with (refine zAh rfl rfl rfl rfl (by simp at hj⊢;omega) ?_);go_roundg (r.ag.length - (k+1));case measure=>omega
   case rel=>
    refine⟨k+1,by omega,by go_num,?_,hid (H.out)⟩;rw[←HTZx.out,←HZ.out]
 case rest=>
 clear H;obtain⟨rfl,hcut⟩:=hcut;have H:=hid hcut;clear hcut;obtain⟨q4v,hp⟩:∃zz,zz=q3v++textA (nthL (fun _ x=>[agA x]) 0 r.ag):=⟨_,rfl⟩;rw[←hp];have HM2:Hid (q4v.length+((textA (nthL (fun _ x=>[cdA x]) 0 r.cd)++(textA (nthL (fun _ x=>[rdA x]) 0 r.pvRed)++([]:List UInt8)))).length≤140737488355328):=hid (by have:=HM.out;rw[hp];simp only[List.length_append]at this⊢;omega);have HQ2:Hid (q4v++(textA (nthL (fun _ x=>[cdA x]) 0 r.cd)++(textA (nthL (fun _ x=>[rdA x]) 0 r.pvRed)++([]:List UInt8)))=ts):=hid (by rw[hp];exact(List.append_assoc _ _ _).trans HQ.out);clear hp HM HQ;have HM:=HM2;have HQ:=HQ2;clear HM2 HQ2;go_upto_block 8 with fail
 go_cut [3] (fun v wx=>v=.string (str (q4v++textA (nthL (fun _ x=>[cdA x]) 0 r.cd)))∧YA ((39,gv,r.pvC) :: [(41,gy,r.C)]) w wx)
 case first=>
  as_aux_lemma=>
  go_wp2;go_loopg [3,10,11,12] r.cd.length (fun gh sv ix _ _ wr=>∃k:Nat,k+gh=r.cd.length∧ix=.int .i64 k∧sv=.string (str (q4v++textA (nthL (fun _ x=>[cdA x]) 0 (r.cd.take k))))∧Hid (YA ((39,gv,r.pvC) :: [(41,gy,r.C)]) w wr));case atStart=>exact⟨0,by omega,rfl,by rw[List.take_zero,nthL,zAz,List.append_nil]<;>rfl,H⟩
  case round=>
   obtain⟨k,hk,rfl,rfl,HR⟩:=hrel;have cr:wr.cell? ⟨gv,6,none⟩=some (.slice A23 r.cd.length cp23):=(HR.out.a.cell 6).trans HE23.out;by_cases hlt:k<r.cd.length;case neg=>
    have hkz:¬((k:Int)<(r.cd.length:Int)):=by omega
    rw[List.take_of_length_le (by omega)];go_wp2;go_meet;exact⟨rfl,HR.out⟩
   have hkz:(k:Int)<(r.cd.length:Int):=by omega
   obtain⟨gr,o,c', e',-,hgr,R0⟩:=SlV.elem (n:=5) (by decide) (fun _=>rfl) HV23.out hlt;injection e' with e1 e2 e3
   subst e1 e3;have r1:=hid (zAf R0 (HR.out.b.mono hB.out) hgr);clear e2 R0;have HX:=hid (hc.out _ (List.getElem_mem hlt));have ET:=hid (zAy (fun _ x=>[cdA x]) r.cd hlt);have HP:=hid (zBa (fun _ x=>[cdA x]) r.cd hlt);generalize r.cd[k]=x at HX ET HP r1;obtain⟨p,hp⟩:∃zz,zz=q4v++textA (nthL (fun _ x=>[cdA x]) 0 (r.cd.take k)):=⟨_,rfl⟩;rw[←hp];have HN:Hid (textA ((fun _ x=>[cdA x]) k x)=(textA [cdA x]++([]:List UInt8))):=hid ((List.append_nil _).symm);have HMp:Hid (p.length+((textA [cdA x]++([]:List UInt8))).length≤140737488355328):=hid (by rw[←HN.out,hp,List.length_append];have h1:=HM.out;have h2:=HP.out;simp only[List.length_append]at h1⊢;omega);obtain⟨tzx,htzx⟩:∃zz,zz=p++(textA [cdA x]++([]:List UInt8)):=⟨_,rfl⟩;have HTZx:Hid (tzx=q4v++textA (nthL (fun _ x=>[cdA x]) 0 (r.cd.take (k+1)))):=hid (by rw[ET.out,zAk,←List.append_assoc,←hp];exact htzx.trans (congrArg _ HN.out.symm));replace htzx:=hid htzx;clear HP HN hp ET;go_upto_region 45 with(first|(refine zAa rfl 119 _ rfl rfl r1.out Tryz.rowCd Tryz.sizeCd ?_)|(refine zAd rfl 119 _ _ rfl rfl rfl (HasC.new wr _ _) rfl Tryz.sizeCd (Cd.one x) ?_;intro w4 hz1 hz2))
   have H4:Hid (YA ((119,wr.heap.size,x.C) :: ((39,gv,r.pvC) :: [(41,gy,r.C)])) w w4):=hid (HR.out.new hz1 (zAi hz2));clear hz1 hz2 r1 HR cr;generalize wr.heap.size=gx at H4⊢;have HQp:Hid (p++(textA [cdA x]++([]:List UInt8))=tzx):=hid htzx.out.symm;clear htzx;obtain⟨hf,hf2⟩:=HX.out;have c4:w4.cell? ⟨gx,4,none⟩=some (.bool x.absent):=H4.out.a.cell 4;cases ho:x.absent with
   |true=>
    have E:textA [cdA x]=lnW (true,[[111,114,105,103,105,110,97,116,101],pfxF x.pa x.pl,[117,110,108,101,115,115],pfxF x.ia x.il]):=by rw[zAx,cdA,ho];rfl
    rw[ho]at c4;have hj:p.length+(lnW (true,[[111,114,105,103,105,110,97,116,101],pfxF x.pa x.pl,[117,110,108,101,115,115],pfxF x.ia x.il])).length≤140737488355328:=(by rw[←E];have:=HMp.out;simp only[List.length_append]at this⊢;omega);go_upto_region 48 with fail
    have HX:Hid (∀W,YA ((119,gx,x.C) :: ((39,gv,r.pvC) :: [(41,gy,r.C)])) w W→W.cell? ⟨gx,0,none⟩=some (.int .u32 (x.pa:Int))∧W.cell? ⟨gx,1,none⟩=some (.int .i64 x.pl)∧W.cell? ⟨gx,2,none⟩=some (.int .u32 (x.ia:Int))∧W.cell? ⟨gx,3,none⟩=some (.int .i64 x.il)):=hid fun W hW=>⟨hW.a.cell 0,hW.a.cell 1,hW.a.cell 2,hW.a.cell 3⟩
    refine zAo (fun W=>YA ((119,gx,x.C) :: ((39,gv,r.pvC) :: [(41,gy,r.C)])) w W) (by kernel_rfl) (by kernel_rfl) H4.out.drew ?_
    repeat
     (first
      |(refine zDy rfl rfl rfl rfl ?_ ?_;(· (simp[lnW,joinW]at hj⊢;omega)))
      |(refine zBd (v:=?_) ?_ ?_ ?_;rotate_left;(· rfl);(· (intro W hW;obtain⟨c0,c1,c2,c3⟩:=HX.out W hW;go_simp<;>rfl)))
      |(refine zAm ?_ ?_ (fun W hW=>hW.call (zDe x.pa x.pl W hf)) ?_;(· rfl);(· (intro W hW;go_simp<;>rfl)))
      |(refine zAm ?_ ?_ (fun W hW=>hW.call (zDe x.ia x.il W hf2)) ?_;(· rfl);(· (intro W hW;go_simp<;>rfl))))
     simp only[Act.put,List.setIfInBounds_toArray,List.set_cons_zero,List.set_cons_succ]
    refine zBo (fun wq hS=>?_);have HS:=hid hS;clear hS HX;go_wp2_with fail;have HZ:Hid (p++textA [cdA x]=tzx):=hid (by have:=HQp.out;rwa [List.append_nil]at this);go_roundg (r.cd.length - (k+1));case measure=>omega
    case rel=>
     refine⟨k+1,by omega,by go_num,?_,hid (HS.out.pop)⟩;rw[←HTZx.out,←HZ.out,E];simp[lnW,joinW]
   |false=>
    have E:textA [cdA x]=lnW (true,[[111,114,105,103,105,110,97,116,101],pfxF x.pa x.pl,[105,102],pfxF x.ia x.il]):=by rw[zAx,cdA,ho];rfl
    rw[ho]at c4;have hj:p.length+(lnW (true,[[111,114,105,103,105,110,97,116,101],pfxF x.pa x.pl,[105,102],pfxF x.ia x.il])).length≤140737488355328:=(by rw[←E];have:=HMp.out;simp only[List.length_append]at this⊢;omega);go_upto_region 48 with fail
    have HX:Hid (∀W,YA ((119,gx,x.C) :: ((39,gv,r.pvC) :: [(41,gy,r.C)])) w W→W.cell? ⟨gx,0,none⟩=some (.int .u32 (x.pa:Int))∧W.cell? ⟨gx,1,none⟩=some (.int .i64 x.pl)∧W.cell? ⟨gx,2,none⟩=some (.int .u32 (x.ia:Int))∧W.cell? ⟨gx,3,none⟩=some (.int .i64 x.il)):=hid fun W hW=>⟨hW.a.cell 0,hW.a.cell 1,hW.a.cell 2,hW.a.cell 3⟩
    refine zAo (fun W=>YA ((119,gx,x.C) :: ((39,gv,r.pvC) :: [(41,gy,r.C)])) w W) (by kernel_rfl) (by kernel_rfl) H4.out.drew ?_
    repeat
     (first
      |(refine zDy rfl rfl rfl rfl ?_ ?_;(· (simp[lnW,joinW]at hj⊢;omega)))
      |(refine zBd (v:=?_) ?_ ?_ ?_;rotate_left;(· rfl);(· (intro W hW;obtain⟨c0,c1,c2,c3⟩:=HX.out W hW;go_simp<;>rfl)))
      |(refine zAm ?_ ?_ (fun W hW=>hW.call (zDe x.pa x.pl W hf)) ?_;(· rfl);(· (intro W hW;go_simp<;>rfl)))
      |(refine zAm ?_ ?_ (fun W hW=>hW.call (zDe x.ia x.il W hf2)) ?_;(· rfl);(· (intro W hW;go_simp<;>rfl))))
     simp only[Act.put,List.setIfInBounds_toArray,List.set_cons_zero,List.set_cons_succ]
    refine zBo (fun wq hS=>?_);have HS:=hid hS;clear hS HX;go_wp2_with fail;have HZ:Hid (p++textA [cdA x]=tzx):=hid (by have:=HQp.out;rwa [List.append_nil]at this);go_roundg (r.cd.length - (k+1));case measure=>omega
    case rel=>
     refine⟨k+1,by omega,by go_num,?_,hid (HS.out.pop)⟩;rw[←HTZx.out,←HZ.out,E];simp[lnW,joinW]
 case rest=>
 clear H;obtain⟨rfl,hcut⟩:=hcut;have H:=hid hcut;clear hcut;obtain⟨q5v,hp⟩:∃zz,zz=q4v++textA (nthL (fun _ x=>[cdA x]) 0 r.cd):=⟨_,rfl⟩;rw[←hp];have HM2:Hid (q5v.length+((textA (nthL (fun _ x=>[rdA x]) 0 r.pvRed)++([]:List UInt8))).length≤140737488355328):=hid (by have:=HM.out;rw[hp];simp only[List.length_append]at this⊢;omega);have HQ2:Hid (q5v++(textA (nthL (fun _ x=>[rdA x]) 0 r.pvRed)++([]:List UInt8))=ts):=hid (by rw[hp];exact(List.append_assoc _ _ _).trans HQ.out);clear hp HM HQ;have HM:=HM2;have HQ:=HQ2;clear HM2 HQ2;have cc:wc.cell? ⟨gv,7,none⟩=some (.slice A24 r.pvRed.length cp24):=(H.out.a.cell 7).trans HE24.out;have hz:(textA (r.pvRed.map rdA)).length≤140737488355328:=by rw[zBy rdA _ 0];have:=HM.out;simp only[List.length_append]at this⊢;omega
 have hj:q5v.length+(textA (r.pvRed.map rdA)).length≤140737488355328:=by rw[zBy rdA _ 0];have:=HM.out;simp only[List.length_append]at this⊢;omega
 go_wp2_with fail;refine(rred_any r.pvRed _ _ B (Nat.le_trans hB.out H.out.b.size) (HV24.out.below (H.out.b.mono hB.out)) hd.out hz).mono ?_;rintro e w9 ⟨rfl,hb⟩;have H9:=hid (H.out.below hb);clear hb;go_wp2_with (refine zAh rfl rfl rfl rfl (by omega) ?_);have HZ:Hid (q5v++textA (r.pvRed.map rdA)=ts):=hid (by have:=HQ.out;rw[zBy rdA _ 0];rwa [List.append_nil]at this);go_ret;have HG:=HQv.out;rw[List.append_nil]at HG;exact⟨by rw[HZ.out,hts.out,HG];rfl,H9.out.b⟩
end Go.Proofs.YthcnojmldldpeaaGreatDoor
