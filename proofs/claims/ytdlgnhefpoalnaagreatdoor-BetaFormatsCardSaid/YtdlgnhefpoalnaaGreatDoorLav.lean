/- The reference's ports, all, ValidPrefixRule, Address. Condition: the router lies in memory. -/
import Derived.Test.YtdlgnhefpoalnaaGreatDoorLau
import Derived.StillTailTactics
set_option maxHeartbeats 32000000
set_option maxRecDepth 100000
namespace Go.Proofs.YtdlgnhefpoalnaaGreatDoor
open Lib (hid)
open Go.RowKit
theorem zIp(g:Nat)(s:List UInt8)(l:List Rd)(v:Value)(w:World)(B:Nat)(h:HasC 108 g (WC 1 s) w)(hB:B≤g)(hv:SlV w B 5 Rd.C v l)(hx:∀x∈l,(1≤x.frm∧x.frm≤5)∧okRd x)(hl:(s++textL 1 (l.map rdN)).length≤140737488355328) :
  Calls Tryz.prog 119 #[.pointer (some ⟨g,0,none⟩),v] w (WP g 1 s (textL 1 (l.map rdN)) w):=by
 have HV:=hid hv;have hln:l.length≤9223372036854775807:=by have:=hv.len;unfold maxLen at this;omega
 obtain⟨A,c,hve,hle,-⟩:=hv;have H:=hid (XW.start h);replace hx:=hid hx;replace hB:=hid hB;have HL:=hid hl;clear h hl;subst hve;go_enter Tryz.func119,Tryz.ntmps119;go_wp2;go_loopg [4,5] l.length (fun gh ix _ wr=>∃k:Nat,k+gh=l.length∧ix=.int .i64 k∧Hid (XW [] g 1 (s++textL 1 ((l.take k).map rdN)) w wr));case atStart=>exact⟨0,by omega,rfl,hid (by rw[List.take_zero,List.map_nil,textL,yF];exact H.out)⟩
 case round=>
  clear H;obtain⟨k,hk,rfl,HR⟩:=hrel;by_cases hlt:k<l.length;case neg=>
   have hkz:¬((k:Int)<(l.length:Int)):=by omega
   have E:=zBc 1 rdN hlt;go_wp2_with fail;go_end0;exact⟨rfl,by have:=HR.out.t;rwa [E]at this,HR.out.k⟩
  have hkz:(k:Int)<(l.length:Int):=by omega
  obtain⟨gr,o,c', e',-,hgr,R0⟩:=SlV.elem (n:=5) (by decide) (fun _=>rfl) HV.out hlt;injection e' with e1 e2 e3
  subst e1 e3;have r1:=hid (zAg R0 (HR.out.low hB.out) hgr);clear R0 e2;have HX:=hid (hx.out _ (List.getElem_mem hlt));have ET:=hid (zAu 1 rdN hlt);have HP:=hid (zAy 1 rdN hlt);generalize l[k]=x at HX ET HP r1;go_upto_region 4 with(first|(refine zAa rfl 230 _ rfl rfl r1.out Tryz.rowRd Tryz.sizeRd ?_)|(refine zAd rfl 230 _ _ rfl rfl rfl (HasC.new wr _ _) rfl Tryz.sizeRd (Rd.one x) ?_;intro w4 hz1 hz2))
  obtain⟨p,hp⟩:∃zz,zz=s++textL 1 ((l.take k).map rdN):=⟨_,rfl⟩;have H3:Hid (XW [(230,wr.heap.size,x.C)] g 1 p w w4):=hid (by rw[hp];exact HR.out.new hz1 (zAi hz2));obtain⟨⟨f1,f2⟩,⟨k1,k2⟩,⟨k3,k4⟩,k5,k6⟩:=HX.out;obtain⟨m,hm⟩:∃m:Nat,x.frm=(m:Int):=⟨x.frm.toNat,by omega⟩;have HN:Hid (textN 1 (rdN x)=lineW 1 [[105,109,112,111,114,116],srcN (m:Int)] [32,123]++(textL 2 (rdP 0 x)++(textL 2 (rdP 1 x)++(textL 2 (rdP 2 x)++(textL 2 (rdP 3 x)))))++lineW 1 [] [125]):=hid (by rw[←hm];simp only[rdN,rdK,zBm,zBt]);have HM:Hid (p.length+(lineW 1 [[105,109,112,111,114,116],srcN (m:Int)] [32,123]++(textL 2 (rdP 0 x)++(textL 2 (rdP 1 x)++(textL 2 (rdP 2 x)++(textL 2 (rdP 3 x)))))++lineW 1 [] [125]).length≤140737488355328):=hid (by rw[←HN.out,hp];have:=HL.out;have:=HP.out;simp only[yA]at *;omega);clear hz1 hz2 r1 HR HP;generalize wr.heap.size=gx at H3⊢;have hb:=(Below.refl w4.heap.size w4).alloc (yI _) (.cells #[.string ⟨#[]⟩,.string ⟨#[100,105,114,101,99,116]⟩,.string ⟨#[115,116,97,116,105,99]⟩,.string ⟨#[108,105,110,107,45,115,116,97,116,101]⟩,.string ⟨#[100,105,115,116,97,110,99,101,45,118,101,99,116,111,114]⟩,.string ⟨#[112,97,116,104,45,118,101,99,116,111,114]⟩] 9);have H4:=hid (H3.out.below hb);have c0:w4.cell? ⟨gx,0,none⟩=some (.int .i64 (m:Int)):=(H3.out.a.cell 0).trans (by rw[←hm];rfl);have c12:(w4.alloc (.cells #[.string ⟨#[]⟩,.string ⟨#[100,105,114,101,99,116]⟩,.string ⟨#[115,116,97,116,105,99]⟩,.string ⟨#[108,105,110,107,45,115,116,97,116,101]⟩,.string ⟨#[100,105,115,116,97,110,99,101,45,118,101,99,116,111,114]⟩,.string ⟨#[112,97,116,104,45,118,101,99,116,111,114]⟩] 9)).cell? ⟨gx,0,none⟩=some (.int .i64 (m:Int)):=(hb.cell (World.block_lt_of_cell? _ _ c0)).trans c0
  have c13:(w4.alloc (.cells #[.string ⟨#[]⟩,.string ⟨#[100,105,114,101,99,116]⟩,.string ⟨#[115,116,97,116,105,99]⟩,.string ⟨#[108,105,110,107,45,115,116,97,116,101]⟩,.string ⟨#[100,105,115,116,97,110,99,101,45,118,101,99,116,111,114]⟩,.string ⟨#[112,97,116,104,45,118,101,99,116,111,114]⟩] 9)).cell? ⟨w4.heap.size,m,none⟩=some (.string (str (srcN (m:Int)))):=by
   have h5:m=1∨m=2∨m=3∨m=4∨m=5:=by omega
   clear c0 c12 hm HN HM H3 H4;rcases h5 with rfl|rfl|rfl|rfl|rfl<;>exact zCy _ _ _ _
  have m1:(m:Int)<6:=by omega
  have hj:(lineW 1 [[105,109,112,111,114,116],srcN (m:Int)] [32,123]).length≤140737488355328:=by have:=HM.out;simp only[yA]at this⊢;omega
  go_wp2_with (refine zAf rfl rfl rfl rfl (by simp[lineW,joinW]at hj⊢;omega) ?_);refine(ropen H4.out [[105,109,112,111,114,116],srcN (m:Int)] (by first|(simp[joinW];done)|rfl) (by decide) (by have:=HM.out;simp only[yA]at this⊢;omega)).mono ?_;rintro e w5 ⟨rfl,h2⟩;have H5:=hid h2;clear h2 H3 H4 hb c0 c12 c13 m1 hj;have c1:w5.cell? ⟨gx,1,none⟩=some (.int .i64 x.metric):=H5.out.a.cell 1;have E6:textL 2 (rdP 0 x)=lineW 2 [[109,101,116,114,105,99],decI x.metric] [59]:=by rw[show rdP 0 x=[stn [[109,101,116,114,105,99],decI x.metric]]from rfl,zAz,zAn]
  have hj:(lineW 2 [[109,101,116,114,105,99],decI x.metric] [59]).length≤140737488355328:=(by rw[←E6];have:=HM.out;simp only[yA]at this⊢;omega);go_wp2_with (refine zAf rfl rfl rfl rfl (by simp[lineW,joinW]at hj⊢;omega) ?_);refine(zBy x.metric _ k1 k2).mono ?_;rintro e w1 ⟨rfl,rfl⟩;go_wp2_with (refine zAf rfl rfl rfl rfl (by simp[lineW,joinW]at hj⊢;omega) ?_);refine(rput H5.out [[109,101,116,114,105,99],decI x.metric] (by first|(simp[joinW];done)|rfl) (by decide) (by rw[←E6];have:=HM.out;simp only[yA]at this⊢;omega)).mono ?_;rintro e w6 ⟨rfl,h2⟩;rw[←E6]at h2;have H6:=hid h2;clear h2 hj E6;clear H5 c1;have c2:w6.cell? ⟨gx,2,none⟩=some (.int .i64 x.tag):=H6.out.a.cell 2;go_upto_if 33 with fail
  go_cut [] (fun wx=>XW [(230,gx,x.C)] g 2 (p++lineW 1 [[105,109,112,111,114,116],srcN (m:Int)] [32,123]++textL 2 (rdP 0 x)++textL 2 (rdP 1 x)) w wx)
  case first=>
   cases hc:(!(x.tag==0))with
   |true=>
    have E:textL 2 (rdP 1 x)=lineW 2 [[116,97,103],decI x.tag] [59]:=zAq hc;have hj:(lineW 2 [[116,97,103],decI x.tag] [59]).length≤140737488355328:=(by rw[←E];have:=HM.out;simp only[yA]at this⊢;omega);have hs:(x.tag != 0)=true:=hc;rw[hs];go_wp2_with (refine zAf rfl rfl rfl rfl (by simp[lineW,joinW]at hj⊢;omega) ?_);refine(zBy x.tag _ k3 (by omega)).mono ?_;rintro e w1 ⟨rfl,rfl⟩;go_wp2_with (refine zAf rfl rfl rfl rfl (by simp[lineW,joinW]at hj⊢;omega) ?_);refine(rput H6.out [[116,97,103],decI x.tag] (by first|(simp[joinW];done)|rfl) (by decide) (by rw[←E];have:=HM.out;simp only[yA]at this⊢;omega)).mono ?_;rintro e w2 ⟨rfl,h2⟩;have H2:=hid h2;clear h2;go_wp2;go_meet;rw[E];exact H2.out
   |false=>
    have hs:(x.tag != 0)=false:=hc;rw[hs];go_wp2;go_meet;rw[show textL 2 (rdP 1 x)=[]from zAl hc,yF];exact H6.out
  case rest=>
  clear H6 c2;have H:=hid hcut;clear hcut;have c3:wc.cell? ⟨gx,3,none⟩=some (.string (str x.map)):=H.out.a.cell 3;go_upto_if 43 with fail
  go_cut [] (fun wx=>XW [(230,gx,x.C)] g 2 (p++lineW 1 [[105,109,112,111,114,116],srcN (m:Int)] [32,123]++textL 2 (rdP 0 x)++textL 2 (rdP 1 x)++textL 2 (rdP 2 x)) w wx)
  case first=>
   cases hc:(!x.map.isEmpty)with
   |true=>
    have E:textL 2 (rdP 2 x)=lineW 2 [[112,111,108,105,99,121],x.map] [59]:=zAq hc;have hj:(lineW 2 [[112,111,108,105,99,121],x.map] [59]).length≤140737488355328:=(by rw[←E];have:=HM.out;simp only[yA]at this⊢;omega);have hs:=zEx hc;rw[hs];go_wp2_with (refine zAf rfl rfl rfl rfl (by simp[lineW,joinW]at hj⊢;omega) ?_);refine(rput H.out [[112,111,108,105,99,121],x.map] (by first|(simp[joinW];done)|rfl) (by decide) (by rw[←E];have:=HM.out;simp only[yA]at this⊢;omega)).mono ?_;rintro e w2 ⟨rfl,h2⟩;have H2:=hid h2;clear h2;go_wp2;go_meet;rw[E];exact H2.out
   |false=>
    have hs:=zEy hc;rw[hs];go_wp2;go_meet;rw[show textL 2 (rdP 2 x)=[]from zAl hc,yF];exact H.out
  case rest=>
  clear H c3;have H:=hid hcut;clear hcut;have c4:wc.cell? ⟨gx,4,none⟩=some (.int .i64 x.typ):=H.out.a.cell 4;go_upto_if 52 with fail
  go_cut [] (fun wx=>XW [(230,gx,x.C)] g 2 (p++lineW 1 [[105,109,112,111,114,116],srcN (m:Int)] [32,123]++textL 2 (rdP 0 x)++textL 2 (rdP 1 x)++textL 2 (rdP 2 x)++textL 2 (rdP 3 x)) w wx)
  case first=>
   cases hc:(!(x.typ==0))with
   |true=>
    have E:textL 2 (rdP 3 x)=lineW 2 [[116,121,112,101],decI x.typ] [59]:=zAq hc;have hj:(lineW 2 [[116,121,112,101],decI x.typ] [59]).length≤140737488355328:=(by rw[←E];have:=HM.out;simp only[yA]at this⊢;omega);have hs:(x.typ != 0)=true:=hc;rw[hs];go_wp2_with (refine zAf rfl rfl rfl rfl (by simp[lineW,joinW]at hj⊢;omega) ?_);refine(zBy x.typ _ k5 (by omega)).mono ?_;rintro e w1 ⟨rfl,rfl⟩;go_wp2_with (refine zAf rfl rfl rfl rfl (by simp[lineW,joinW]at hj⊢;omega) ?_);refine(rput H.out [[116,121,112,101],decI x.typ] (by first|(simp[joinW];done)|rfl) (by decide) (by rw[←E];have:=HM.out;simp only[yA]at this⊢;omega)).mono ?_;rintro e w2 ⟨rfl,h2⟩;have H2:=hid h2;clear h2;go_wp2;go_meet;rw[E];exact H2.out
   |false=>
    have hs:(x.typ != 0)=false:=hc;rw[hs];go_wp2;go_meet;rw[show textL 2 (rdP 3 x)=[]from zAl hc,yF];exact H.out
  case rest=>
  clear H c4;have H:=hid hcut;clear hcut;go_wp2_with (refine zAf rfl rfl rfl rfl (by simp[lineW,joinW]at hj⊢;omega) ?_);refine(zFh H.out (by decide) (by have:=HM.out;simp only[yA]at this⊢;omega)).mono ?_;rintro e w7 ⟨rfl,h2⟩;have H7:=hid h2;clear h2;clear H;go_wp2;go_roundg (l.length - (k+1));case measure=>omega
  case rel=>
   refine⟨k+1,by omega,by go_num,hid ?_⟩;have:=H7.out.pop;rw[hp]at this;rw[ET.out,HN.out];simpa only[yE] using this
theorem wprotocols_any(g:Nat)(s:List UInt8)(r:Rt)(w:World)(B:Nat)(h:HasC 108 g (WC 0 s) w)(hB:B≤g)(hr:r.at w B)
  (x1:r.lsOn=true→(1≤r.lsAdmin∧r.lsAdmin≤255)∧(∀x∈r.ranges,(0≤x.area∧x.area≤255)∧x.fit)∧∀x∈r.lsRed,(1≤x.frm∧x.frm≤5)∧okRd x)
  (x2:r.dvOn=true→(1≤r.dvAdmin∧r.dvAdmin≤255)∧∀x∈r.dvRed,(1≤x.frm∧x.frm≤5)∧okRd x)
  (x3:r.pvOn=true→(1≤r.ext∧r.ext≤255)∧(1≤r.int∧r.int≤255)∧(∀x∈r.nb,(1≤x.asn∧x.asn≤65535)∧x.fit)∧(∀x∈r.net,x.fit)∧(∀x∈r.ag,x.fit)∧(∀x∈r.cd,x.fit)∧∀x∈r.pvRed,(1≤x.frm∧x.frm≤5)∧okRd x)
  (hl:(s++(textL 0 (lsN r)++(textL 0 (dvN r)++textL 0 (pvN r)))).length≤140737488355328) :
  Calls Tryz.prog 49 #[.pointer (some ⟨g,0,none⟩),.agg r.C] w (WP g 0 s (textL 0 (lsN r)++(textL 0 (dvN r)++textL 0 (pvN r))) w):=by
 have hn10:r.ranges.length≤9223372036854775807:=by have:=hr.hranges.len;unfold maxLen at this;omega
 obtain⟨A10,s10,hve,-,-⟩:=hr.hranges;have HV10:=hid (hve ▸ hr.hranges);have HE10:=hid (congrArg some hve);clear hve;have hn11:r.lsRed.length≤9223372036854775807:=by have:=hr.hlsRed.len;unfold maxLen at this;omega
 obtain⟨A11,s11,hve,-,-⟩:=hr.hlsRed;have HV11:=hid (hve ▸ hr.hlsRed);have HE11:=hid (congrArg some hve);clear hve;have hn16:r.dvRed.length≤9223372036854775807:=by have:=hr.hdvRed.len;unfold maxLen at this;omega
 obtain⟨A16,s16,hve,-,-⟩:=hr.hdvRed;have HV16:=hid (hve ▸ hr.hdvRed);have HE16:=hid (congrArg some hve);clear hve;have hn20:r.nb.length≤9223372036854775807:=by have:=hr.hnb.len;unfold maxLen at this;omega
 obtain⟨A20,s20,hve,-,-⟩:=hr.hnb;have HV20:=hid (hve ▸ hr.hnb);have HE20:=hid (congrArg some hve);clear hve;have hn21:r.net.length≤9223372036854775807:=by have:=hr.hnet.len;unfold maxLen at this;omega
 obtain⟨A21,s21,hve,-,-⟩:=hr.hnet;have HV21:=hid (hve ▸ hr.hnet);have HE21:=hid (congrArg some hve);clear hve;have hn22:r.ag.length≤9223372036854775807:=by have:=hr.hag.len;unfold maxLen at this;omega
 obtain⟨A22,s22,hve,-,-⟩:=hr.hag;have HV22:=hid (hve ▸ hr.hag);have HE22:=hid (congrArg some hve);clear hve;have hn23:r.cd.length≤9223372036854775807:=by have:=hr.hcd.len;unfold maxLen at this;omega
 obtain⟨A23,s23,hve,-,-⟩:=hr.hcd;have HV23:=hid (hve ▸ hr.hcd);have HE23:=hid (congrArg some hve);clear hve;have hn24:r.pvRed.length≤9223372036854775807:=by have:=hr.hpvRed.len;unfold maxLen at this;omega
 obtain⟨A24,s24,hve,-,-⟩:=hr.hpvRed;have HV24:=hid (hve ▸ hr.hpvRed);have HE24:=hid (congrArg some hve);clear hve;have H0:Hid (XW [(41,w.heap.size,r.C)] g 0 s w (w.alloc (.cells r.C 41))):=hid ((XW.start h).new (HasC.new w _ _) ((Below.refl w.heap.size w).alloc (yI _) _))
 have HO1:Hid (r.pvC.all (·.oneCell')=true):=hid (by
  rw[Array.all_eq_true_iff_forall_mem];intro v hv;simp only[Rt.pvC,List.mem_toArray,List.mem_cons,List.not_mem_nil,or_false]at hv;rcases hv with rfl|rfl|rfl|rfl|rfl|rfl|rfl|rfl
  all_goals first|rfl|exact hr.hnb.one|exact hr.hnet.one|exact hr.hag.one|exact hr.hcd.one|exact hr.hpvRed.one)
 replace x1:=hid x1;replace x2:=hid x2;replace x3:=hid x3;replace hB:=hid hB;have HL:=hid hl;clear h hr hl;go_enter Tryz.func49,Tryz.ntmps49;go_upto_region 1 with fail
 generalize w.alloc (.cells r.C 41)=wa at H0⊢;generalize w.heap.size=gr at H0⊢;have c8:wa.cell? ⟨gr,8,none⟩=some (.bool r.lsOn):=H0.out.a.cell 8;go_upto_if 16 with fail
 go_cut [] (fun wx=>XW [(41,gr,r.C)] g 0 (s++textL 0 (lsN r)) w wx)
 case first=>as_aux_lemma=>
  cases ho:r.lsOn with
  |false=>
   go_wp2;go_meet;rw[show lsN r=[]from by rw[lsN,ho];rfl,textL,yF];exact H0.out
  |true=>
  obtain⟨⟨k1,k2⟩,k3,k4⟩:=x1.out ho;have HK3:=hid k3;have HK4:=hid k4;have EL:Hid (textL 0 (lsN r)=lineW 0 [[108,105,110,107,45,115,116,97,116,101]] [32,123]++(lineW 1 [[112,114,101,102,101,114,101,110,99,101],decI r.lsAdmin] [59]++(textL 1 (r.ranges.map (fun a:AR=>stn [[114,97,110,103,101],decI a.area,pfxF a.pa a.pl]))++textL 1 (r.lsRed.map rdN)))++lineW 0 [] [125]):=hid (by rw[lsN,ho,optN,if_pos rfl,zAz,zBm];simp only[textL,zBt,zAn]);rw[EL.out]at HL;clear k3 k4 c8 ho;go_wp2_with fail;refine(ropen H0.out [[108,105,110,107,45,115,116,97,116,101]] (by first|(simp[joinW];done)|rfl) (by decide) (by have:=HL.out;simp only[yA]at this⊢;omega)).mono ?_;rintro e w2 ⟨rfl,h2⟩;have H2:=hid (show XW [(41,gr,r.C)] g 1 _ w w2 from h2);clear h2 H0;have c9:w2.cell? ⟨gr,9,none⟩=some (.int .i64 r.lsAdmin):=H2.out.a.cell 9;have hj:(lineW 1 [[112,114,101,102,101,114,101,110,99,101],decI r.lsAdmin] [59]).length≤140737488355328:=by have:=HL.out;simp only[yA]at this⊢;omega
  go_wp2_with fail;refine(zBy r.lsAdmin _ (by omega) (by omega)).mono ?_;rintro e w1 ⟨rfl,rfl⟩;go_wp2_with (refine zAf rfl rfl rfl rfl (by simp[lineW,joinW]at hj⊢;omega) ?_);refine(rput H2.out [[112,114,101,102,101,114,101,110,99,101],decI r.lsAdmin] (by first|(simp[joinW];done)|rfl) (by decide) (by have:=HL.out;simp only[yA]at this⊢;omega)).mono ?_;rintro e w3 ⟨rfl,h3⟩;have H3:=hid h3;clear h3 H2 hj c9;go_wp2_with fail;obtain⟨q,hq⟩:∃zz,zz=s++lineW 0 [[108,105,110,107,45,115,116,97,116,101]] [32,123]++lineW 1 [[112,114,101,102,101,114,101,110,99,101],decI r.lsAdmin] [59]:=⟨_,rfl⟩;rw[←hq]at H3;have HQ:Hid ((q++textL 1 (r.ranges.map (fun a:AR=>stn [[114,97,110,103,101],decI a.area,pfxF a.pa a.pl]))).length≤140737488355328):=hid (by rw[hq];have:=HL.out;simp only[yA]at this⊢;omega);go_loopg [4] r.ranges.length (fun gh ix wr=>∃k:Nat,k+gh=r.ranges.length∧ix=.int .i64 k∧Hid (XW [(41,gr,r.C)] g 1 (q++textL 1 ((r.ranges.take k).map (fun a:AR=>stn [[114,97,110,103,101],decI a.area,pfxF a.pa a.pl]))) w wr));case atStart=>exact⟨0,by omega,rfl,hid (by rw[List.take_zero,List.map_nil,textL,yF];exact H3.out)⟩
  case round=>
   clear H3;obtain⟨k,hk,rfl,HR⟩:=hrel;have c10:wr.cell? ⟨gr,10,none⟩=some (.slice A10 r.ranges.length s10):=(HR.out.a.cell 10).trans HE10.out;by_cases hlt:k<r.ranges.length;case neg=>
    have hkz:¬((k:Int)<(r.ranges.length:Int)):=by omega
    have E:=zBc 1 (fun a:AR=>stn [[114,97,110,103,101],decI a.area,pfxF a.pa a.pl]) hlt;have c11:wr.cell? ⟨gr,11,none⟩=some (.slice A11 r.lsRed.length s11):=(HR.out.a.cell 11).trans HE11.out;go_wp2_with fail;refine(zIp g _ r.lsRed _ _ B HR.out.t hB.out (HV11.out.below (HR.out.low hB.out)) HK4.out (by rw[E,hq];have:=HL.out;simp only[yA]at this⊢;omega)).mono ?_;rintro e w3 ⟨rfl,h3,k3⟩;have R3:=hid (HR.out.go h3 k3);clear h3 k3 c11 HR;go_wp2_with fail;refine(zFh R3.out (by decide) (by rw[E,hq];have:=HL.out;simp only[yA]at this⊢;omega)).mono ?_;rintro e w5 ⟨rfl,h3⟩;have R:=hid h3;clear h3;go_wp2;go_meet;have:=R.out;rw[E,hq]at this;rw[EL.out];simpa only[yE] using this
   have hkz:(k:Int)<(r.ranges.length:Int):=by omega
   obtain⟨gr', o', c', e',-,hgr', R0⟩:=SlV.elem (n:=3) (by decide) (fun _=>rfl) HV10.out hlt;injection e' with e1 e2 e3
   subst e1 e3;have r1:=hid (zAg R0 (HR.out.low hB.out) hgr');have HG:Hid (∀L d t W,XW L g d t w W→W.rangeAt gr' (o' + k*3) (_:Array Value).toList):=hid fun L d t W hW=>zAg R0 (hW.low hB.out) hgr'
   clear R0 e2;have HX:=hid (HK3.out _ (List.getElem_mem hlt));have ET:=hid (zAu 1 (fun a:AR=>stn [[114,97,110,103,101],decI a.area,pfxF a.pa a.pl]) hlt);have HP:=hid (zAy 1 (fun a:AR=>stn [[114,97,110,103,101],decI a.area,pfxF a.pa a.pl]) hlt);generalize r.ranges[k]=x at HX ET HP r1 HG;obtain⟨p,hp⟩:∃zz,zz=q++textL 1 ((r.ranges.take k).map (fun a:AR=>stn [[114,97,110,103,101],decI a.area,pfxF a.pa a.pl])):=⟨_,rfl⟩;have HM:Hid (p.length+(textN 1 ((fun a:AR=>stn [[114,97,110,103,101],decI a.area,pfxF a.pa a.pl]) x)).length≤140737488355328):=hid (by rw[hp];have h1:=HQ.out;have h2:_+(textN 1 ((fun a:AR=>stn [[114,97,110,103,101],decI a.area,pfxF a.pa a.pl]) x)).length≤_:=HP.out;simp only[yA]at *;omega);rw[←hp]at HR;clear HP;obtain⟨⟨f1,f2⟩,f3⟩:=HX.out;have E:textN 1 ((fun a:AR=>stn [[114,97,110,103,101],decI a.area,pfxF a.pa a.pl]) x)=lineW 1 [[114,97,110,103,101],decI x.area,pfxF x.pa x.pl] [59]:=zAn _ _;have hj:(lineW 1 [[114,97,110,103,101],decI x.area,pfxF x.pa x.pl] [59]).length≤140737488355328:=by rw[←E];exact yJ (Nat.le_add_left _ _) HM.out
   clear HX;go_upto_region 7 with fail
   have HX:Hid (∀W,XW [(41,gr,r.C)] g 1 (p) w W→W.cell? ⟨gr,10,none⟩=some (.slice (some ⟨gr', o', none⟩) r.ranges.length s10)∧W.cell? ⟨gr', o' + k*3,none⟩=some (.int .i64 x.area)∧W.cell? ⟨gr', o' + k*3+1,none⟩=some (.int .u32 (x.pa:Int))∧W.cell? ⟨gr', o' + k*3+2,none⟩=some (.int .i64 x.pl)):=hid fun W hW=>have q:=HG.out _ _ _ _ hW;⟨(hW.a.cell 10).trans HE10.out,q 0 _ rfl,q 1 _ rfl,q 2 _ rfl⟩
   have Q0:Hid (∀W,XW [(41,gr,r.C)] g 1 (p) w W→Calls Tryz.prog 42 #[.int .i64 x.area] W fun e w' => e=.returned (.string (str (decI x.area)))∧XW [(41,gr,r.C)] g 1 (p) w w'):=hid fun W hW=>(zBy x.area W f1 (by omega)).mono fun e w' ⟨he,hw⟩=>⟨he,hw ▸ hW⟩
   have Q1:Hid (∀W,XW [(41,gr,r.C)] g 1 (p) w W→Calls Tryz.prog 113 #[.agg #[.int .u32 (x.pa:Int),.int .i64 x.pl]] W fun e w' => e=.returned (.string (str (pfxF x.pa x.pl)))∧XW [(41,gr,r.C)] g 1 (p) w w'):=hid fun W hW=>(zDk x.pa x.pl W f3).mono fun e w' ⟨he,hk⟩=>⟨he,hW.below hk⟩
   refine zCj (fun W=>XW [(41,gr,r.C)] g 1 (p) w W) 21 (by kernel_rfl) (by kernel_rfl) HR.out.drew ?_
   repeat
    (first
     |(refine zHu rfl rfl rfl rfl ?_ ?_;(· (simp[lineW,joinW]at hj⊢;omega)))
     |(refine zBq (v:=?_) ?_ ?_ ?_;rotate_left;(· rfl);(· (intro W hW;obtain⟨d0,d1,d2,d3⟩:=HX.out W hW;go_simp<;>rfl)))
     |(refine zAm ?_ ?_ Q0.out ?_;(· rfl);(· (intro W hW;go_simp<;>rfl)))
     |(refine zAm ?_ ?_ Q1.out ?_;(· rfl);(· (intro W hW;go_simp<;>rfl))))
    simp only[Act.put,yB,yC,yD]
   refine zCg ?_;intro wq hS;change wpList _ _ _ (_ :: []) _ _;have HS:=hid hS;clear hS HX Q0 Q1;go_wp2_with fail;refine(rput HS.out [[114,97,110,103,101],decI x.area,pfxF x.pa x.pl] (by first|(simp[joinW];done)|rfl) (by decide) (by rw[←E];exact HM.out)).mono ?_;rintro e w2 ⟨rfl,h2⟩;rw[←E]at h2;have H2:=hid h2;clear h2;go_wp2;go_roundg (r.ranges.length - (k+1));case measure=>omega
   case rel=>
    refine⟨k+1,by omega,by go_num,hid ?_⟩;have:=H2.out;rw[hp]at this;rw[ET.out];simpa only[yE] using this
 case rest=>
 clear H0 c8;have H:=hid hcut;clear hcut;obtain⟨t1,ht1⟩:∃zz,zz=s++textL 0 (lsN r):=⟨_,rfl⟩;rw[←ht1]at H;have HL2:Hid ((t1++(textL 0 (dvN r)++textL 0 (pvN r))).length≤140737488355328):=hid (by rw[ht1,yE];exact HL.out);clear HL x1 HV10 HV11 HE10 HE11;have c12:wc.cell? ⟨gr,12,none⟩=some (.bool r.dvOn):=H.out.a.cell 12;go_upto_if 66 with fail
 go_cut [] (fun wx=>XW [(41,gr,r.C)] g 0 (t1++textL 0 (dvN r)) w wx)
 case first=>as_aux_lemma=>
  cases ho:r.dvOn with
  |false=>
   go_wp2;go_meet;rw[show dvN r=[]from by rw[dvN,ho];rfl,textL,yF];exact H.out
  |true=>
  obtain⟨⟨k1,k2⟩,k4⟩:=x2.out ho;have HK4:=hid k4;have EL:Hid (textL 0 (dvN r)=lineW 0 [[100,105,115,116,97,110,99,101,45,118,101,99,116,111,114]] [32,123]++(lineW 1 [[112,114,101,102,101,114,101,110,99,101],decI r.dvAdmin] [59]++(textL 1 (nameN [105,110,112,117,116] r.dvIn)++(textL 1 (nameN [111,117,116,112,117,116] r.dvOut)++textL 1 (r.dvRed.map rdN))))++lineW 0 [] [125]):=hid (by rw[dvN,ho,optN,if_pos rfl,zAz,zBm];simp only[textL,zBt,zAn]);rw[EL.out]at HL2;clear k4 c12 ho;go_wp2_with fail;refine(ropen H.out [[100,105,115,116,97,110,99,101,45,118,101,99,116,111,114]] (by first|(simp[joinW];done)|rfl) (by decide) (by have:=HL2.out;simp only[yA]at this⊢;omega)).mono ?_;rintro e w2 ⟨rfl,h2⟩;have H2:=hid (show XW [(41,gr,r.C)] g 1 _ w w2 from h2);clear h2 H;have c13:w2.cell? ⟨gr,13,none⟩=some (.int .i64 r.dvAdmin):=H2.out.a.cell 13;have hj:(lineW 1 [[112,114,101,102,101,114,101,110,99,101],decI r.dvAdmin] [59]).length≤140737488355328:=by have:=HL2.out;simp only[yA]at this⊢;omega
  go_wp2_with fail;refine(zBy r.dvAdmin _ (by omega) (by omega)).mono ?_;rintro e w1 ⟨rfl,rfl⟩;go_wp2_with (refine zAf rfl rfl rfl rfl (by simp[lineW,joinW]at hj⊢;omega) ?_);refine(rput H2.out [[112,114,101,102,101,114,101,110,99,101],decI r.dvAdmin] (by first|(simp[joinW];done)|rfl) (by decide) (by have:=HL2.out;simp only[yA]at this⊢;omega)).mono ?_;rintro e w3 ⟨rfl,h3⟩;have H3:=hid h3;clear h3 H2 hj c13;obtain⟨q,hq⟩:∃zz,zz=t1++lineW 0 [[100,105,115,116,97,110,99,101,45,118,101,99,116,111,114]] [32,123]++lineW 1 [[112,114,101,102,101,114,101,110,99,101],decI r.dvAdmin] [59]:=⟨_,rfl⟩;rw[←hq]at H3;have HQ:Hid ((q++(textL 1 (nameN [105,110,112,117,116] r.dvIn)++textL 1 (nameN [111,117,116,112,117,116] r.dvOut))).length≤140737488355328):=hid (by rw[hq];have:=HL2.out;simp only[yA]at this⊢;omega);have c14:w3.cell? ⟨gr,14,none⟩=some (.string (str r.dvIn)):=H3.out.a.cell 14;go_upto_if 80 with fail
  go_cut [] (fun wx=>XW [(41,gr,r.C)] g 1 (q++textL 1 (nameN [105,110,112,117,116] r.dvIn)) w wx)
  case first=>
   cases hc:(!r.dvIn.isEmpty)with
   |true=>
    have E:textL 1 (nameN [105,110,112,117,116] r.dvIn)=lineW 1 [[105,110,112,117,116],r.dvIn] [59]:=zAq hc;have hj:(lineW 1 [[105,110,112,117,116],r.dvIn] [59]).length≤140737488355328:=(by rw[←E];have:=HQ.out;simp only[yA]at this⊢;omega);have hs:=zEx hc;rw[hs];go_wp2_with (refine zAf rfl rfl rfl rfl (by simp[lineW,joinW]at hj⊢;omega) ?_);refine(rput H3.out [[105,110,112,117,116],r.dvIn] (by first|(simp[joinW];done)|rfl) (by decide) (by rw[←E];have:=HQ.out;simp only[yA]at this⊢;omega)).mono ?_;rintro e w2 ⟨rfl,h2⟩;have H2:=hid h2;clear h2;go_wp2;go_meet;rw[E];exact H2.out
   |false=>
    have hs:=zEy hc;rw[hs];go_wp2;go_meet;rw[show textL 1 (nameN [105,110,112,117,116] r.dvIn)=[]from zAl hc,yF];exact H3.out
  case rest=>
  clear H3 c14;have H:=hid hcut;clear hcut;have c15:wc.cell? ⟨gr,15,none⟩=some (.string (str r.dvOut)):=H.out.a.cell 15;go_upto_if 91 with fail
  go_cut [] (fun wx=>XW [(41,gr,r.C)] g 1 (q++textL 1 (nameN [105,110,112,117,116] r.dvIn)++textL 1 (nameN [111,117,116,112,117,116] r.dvOut)) w wx)
  case first=>
   cases hc:(!r.dvOut.isEmpty)with
   |true=>
    have E:textL 1 (nameN [111,117,116,112,117,116] r.dvOut)=lineW 1 [[111,117,116,112,117,116],r.dvOut] [59]:=zAq hc;have hj:(lineW 1 [[111,117,116,112,117,116],r.dvOut] [59]).length≤140737488355328:=(by rw[←E];have:=HQ.out;simp only[yA]at this⊢;omega);have hs:=zEx hc;rw[hs];go_wp2_with (refine zAf rfl rfl rfl rfl (by simp[lineW,joinW]at hj⊢;omega) ?_);refine(rput H.out [[111,117,116,112,117,116],r.dvOut] (by first|(simp[joinW];done)|rfl) (by decide) (by rw[←E];have:=HQ.out;simp only[yA]at this⊢;omega)).mono ?_;rintro e w2 ⟨rfl,h2⟩;have H2:=hid h2;clear h2;go_wp2;go_meet;rw[E];exact H2.out
   |false=>
    have hs:=zEy hc;rw[hs];go_wp2;go_meet;rw[show textL 1 (nameN [111,117,116,112,117,116] r.dvOut)=[]from zAl hc,yF];exact H.out
  case rest=>
  clear H c15;have H:=hid hcut;clear hcut;have c16:wc.cell? ⟨gr,16,none⟩=some (.slice A16 r.dvRed.length s16):=(H.out.a.cell 16).trans HE16.out;go_wp2_with fail;refine(zIp g _ r.dvRed _ _ B H.out.t hB.out (HV16.out.below (H.out.low hB.out)) HK4.out (by rw[hq];have:=HL2.out;simp only[yA]at this⊢;omega)).mono ?_;rintro e w3 ⟨rfl,h3,k3⟩;have R3:=hid (H.out.go h3 k3);clear h3 k3 c16 H;go_wp2_with fail;refine(zFh R3.out (by decide) (by rw[hq];have:=HL2.out;simp only[yA]at this⊢;omega)).mono ?_;rintro e w5 ⟨rfl,h3⟩;have R:=hid h3;clear h3;go_wp2;go_meet;have:=R.out;rw[hq]at this;rw[EL.out];simpa only[yE] using this
 case rest=>
 clear H c12;have H:=hid hcut;clear hcut;obtain⟨t2,ht2⟩:∃zz,zz=t1++textL 0 (dvN r):=⟨_,rfl⟩;rw[←ht2]at H;have HL3:Hid ((t2++textL 0 (pvN r)).length≤140737488355328):=hid (by rw[ht2,yE];exact HL2.out);have HF:Hid (∀w', HasC 108 g (WC 0 (t2++textL 0 (pvN r))) w' → w.grownBy w' (some g)→WP g 0 s (textL 0 (lsN r)++(textL 0 (dvN r)++textL 0 (pvN r))) w (.returned (.tuple #[])) w'):=hid fun w' h k=>⟨rfl,by rw[←yE,←yE,←ht1,←ht2];exact h,k⟩
 clear HL2 x2 HV16 HE16 ht1 ht2;have c17:wc.cell? ⟨gr,17,none⟩=some (.bool r.pvOn):=H.out.a.cell 17;cases ho:r.pvOn with
 |false=>
  rw[ho]at c17;go_wp2_with fail;go_end0;exact HF.out _ (by rw[show pvN r=[]from by rw[pvN,ho];rfl,textL,yF];exact H.out.t) H.out.k
 |true=>
 rw[ho]at c17;obtain⟨⟨k1,k2⟩,⟨k3,k4⟩,k5,k6,k7,k8,k9⟩:=x3.out ho;have HK5:=hid k5;have HK6:=hid k6;have HK7:=hid k7;have HK8:=hid k8;have HK9:=hid k9;have EL:Hid (textL 0 (pvN r)=lineW 0 [[112,97,116,104,45,118,101,99,116,111,114]] [32,123]++(lineW 1 [[112,114,101,102,101,114,101,110,99,101],[101,120,116,101,114,110,97,108],decI r.ext] [59]++(lineW 1 [[112,114,101,102,101,114,101,110,99,101],[105,110,116,101,114,110,97,108],decI r.int] [59]++(textL 1 (r.nb.map nbN)++(textL 1 (r.net.map (fun p:Pf=>stn [[110,101,116,119,111,114,107],pfxF p.pa p.pl]))++(textL 1 (r.ag.map agN)++(textL 1 (r.cd.map cdN)++textL 1 (r.pvRed.map rdN)))))))++lineW 0 [] [125]):=hid (by rw[pvN,ho,optN,if_pos rfl,zAz,zBm];simp only[textL,zBt,zAn]);rw[EL.out]at HL3;have hone:r.pvC.all (·.oneCell')=true:=HO1.out;clear k5 k6 k7 k8 k9 ho x3 HO1;have cc:=HasC.sub H.out.a 17 r.pvC (by intro j hj;have hj:j<8:=hj;rcases(show j=0∨j=1∨j=2∨j=3∨j=4∨j=5∨j=6∨j=7 by omega)with rfl|rfl|rfl|rfl|rfl|rfl|rfl|rfl<;>rfl);go_upto_region 21 with(go_big_may;first|(refine zAa rfl 39 _ rfl rfl cc Tryz.rowPV Tryz.sizePV ?_)|(refine zAd rfl 39 _ _ rfl rfl rfl (HasC.new wc _ _) rfl Tryz.sizePV hone ?_;intro w4 hz1 hz2))
 have H4:=hid (H.out.new hz1 (zAi hz2));clear hz1 hz2 H cc c17 hone;generalize wc.heap.size=gv at H4⊢;go_wp2_with fail;refine(ropen H4.out [[112,97,116,104,45,118,101,99,116,111,114]] (by first|(simp[joinW];done)|rfl) (by decide) (by have:=HL3.out;simp only[yA]at this⊢;omega)).mono ?_;rintro e w5 ⟨rfl,h2⟩;have H5:=hid (show XW [(39,gv,r.pvC),(41,gr,r.C)] g 1 _ w w5 from h2);clear h2 H4;have c1:w5.cell? ⟨gv,1,none⟩=some (.int .i64 r.ext):=H5.out.a.cell 1;have hj:(lineW 1 [[112,114,101,102,101,114,101,110,99,101],[101,120,116,101,114,110,97,108],decI r.ext] [59]).length≤140737488355328:=by have:=HL3.out;simp only[yA]at this⊢;omega
 go_wp2_with fail;refine(zBy r.ext _ (by omega) (by omega)).mono ?_;rintro e w1 ⟨rfl,rfl⟩;go_wp2_with (refine zAf rfl rfl rfl rfl (by simp[lineW,joinW]at hj⊢;omega) ?_);refine(rput H5.out [[112,114,101,102,101,114,101,110,99,101],[101,120,116,101,114,110,97,108],decI r.ext] (by first|(simp[joinW];done)|rfl) (by decide) (by have:=HL3.out;simp only[yA]at this⊢;omega)).mono ?_;rintro e w6 ⟨rfl,h3⟩;have H6:=hid h3;clear h3 H5 hj c1;have c2:w6.cell? ⟨gv,2,none⟩=some (.int .i64 r.int):=H6.out.a.cell 2;have hj:(lineW 1 [[112,114,101,102,101,114,101,110,99,101],[105,110,116,101,114,110,97,108],decI r.int] [59]).length≤140737488355328:=by have:=HL3.out;simp only[yA]at this⊢;omega
 go_wp2_with fail;refine(zBy r.int _ (by omega) (by omega)).mono ?_;rintro e w1 ⟨rfl,rfl⟩;go_wp2_with (refine zAf rfl rfl rfl rfl (by simp[lineW,joinW]at hj⊢;omega) ?_);refine(rput H6.out [[112,114,101,102,101,114,101,110,99,101],[105,110,116,101,114,110,97,108],decI r.int] (by first|(simp[joinW];done)|rfl) (by decide) (by have:=HL3.out;simp only[yA]at this⊢;omega)).mono ?_;rintro e w7 ⟨rfl,h3⟩;have H7:=hid h3;clear h3 H6 hj c2;obtain⟨q1,hq1⟩:∃zz,zz=t2++lineW 0 [[112,97,116,104,45,118,101,99,116,111,114]] [32,123]++lineW 1 [[112,114,101,102,101,114,101,110,99,101],[101,120,116,101,114,110,97,108],decI r.ext] [59]++lineW 1 [[112,114,101,102,101,114,101,110,99,101],[105,110,116,101,114,110,97,108],decI r.int] [59]:=⟨_,rfl⟩;rw[←hq1]at H7;have HQ:Hid ((q1++textL 1 (r.nb.map nbN)).length≤140737488355328):=hid (by rw[hq1];have:=HL3.out;simp only[yA]at this⊢;omega);go_upto_block 2 with fail
 go_cut [] (fun wx=>XW [(39,gv,r.pvC),(41,gr,r.C)] g 1 (q1++textL 1 (r.nb.map nbN)) w wx)
 case first=>as_aux_lemma=>
  go_wp2;go_loopg [6,7] r.nb.length (fun gh ix _ wr=>∃k:Nat,k+gh=r.nb.length∧ix=.int .i64 k∧Hid (XW [(39,gv,r.pvC),(41,gr,r.C)] g 1 (q1++textL 1 ((r.nb.take k).map nbN)) w wr));case atStart=>exact⟨0,by omega,rfl,hid (by rw[List.take_zero,List.map_nil,textL,yF];exact H7.out)⟩
  case round=>
   clear H7;obtain⟨k,hk,rfl,HR⟩:=hrel;have c3:wr.cell? ⟨gv,3,none⟩=some (.slice A20 r.nb.length s20):=(HR.out.a.cell 3).trans HE20.out;by_cases hlt:k<r.nb.length;case neg=>
    have hkz:¬((k:Int)<(r.nb.length:Int)):=by omega
    have E:=zBc 1 nbN hlt;go_wp2;go_meet;have:=HR.out;rw[E]at this;exact this
   have hkz:(k:Int)<(r.nb.length:Int):=by omega
   obtain⟨gr', o', c', e',-,hgr', R0⟩:=SlV.elem (n:=4) (by decide) (fun _=>rfl) HV20.out hlt;injection e' with e1 e2 e3
   subst e1 e3;have r1:=hid (zAg R0 (HR.out.low hB.out) hgr');clear R0 e2;have HX:=hid (HK5.out _ (List.getElem_mem hlt));have ET:=hid (zAu 1 nbN hlt);have HP:=hid (zAy 1 nbN hlt);generalize r.nb[k]=x at HX ET HP r1;obtain⟨p,hp⟩:∃zz,zz=q1++textL 1 ((r.nb.take k).map nbN):=⟨_,rfl⟩;have HM:Hid (p.length+(textN 1 (nbN x)).length≤140737488355328):=hid (by rw[hp];have h1:=HQ.out;have h2:_+(textN 1 (nbN x)).length≤_:=HP.out;simp only[yA]at *;omega);rw[←hp]at HR;clear HP;go_upto_region 28 with(go_big_may;first|(refine zAa rfl 149 _ rfl rfl r1.out Tryz.rowNb Tryz.sizeNb ?_)|(refine zAd rfl 149 _ _ rfl rfl rfl (HasC.new wr _ _) rfl Tryz.sizeNb (Nb.one x) ?_;intro w4 hz1 hz2))
   have H4:=hid (HR.out.new hz1 (zAi hz2));clear hz1 hz2 r1 HR;generalize wr.heap.size=gx at H4⊢;obtain⟨⟨f1,f2⟩,f3⟩:=HX.out;have HU:Hid (textN 1 (nbN x)=lineW 1 [[110,101,105,103,104,98,111,114],fmtA x.addr] [32,123]++(textL 2 (nbP 0 x)++(textL 2 (nbP 1 x)++(textL 2 (nbP 2 x))))++lineW 1 [] [125]):=hid (by simp only[nbN,nbK,zBm,zBt]);rw[HU.out]at HM;have c0:w4.cell? ⟨gx,0,none⟩=some (.int .u32 (x.addr:Int)):=H4.out.a.cell 0;have hj:(lineW 1 [[110,101,105,103,104,98,111,114],fmtA x.addr] [32,123]).length≤140737488355328:=by have:=HM.out;simp only[yA]at this⊢;omega
   go_wp2_with fail;refine(zEf x.addr _ f3).mono ?_;rintro e w1 ⟨rfl,rfl⟩;go_wp2_with (refine zAf rfl rfl rfl rfl (by simp[lineW,joinW]at hj⊢;omega) ?_);refine(ropen H4.out [[110,101,105,103,104,98,111,114],fmtA x.addr] (by first|(simp[joinW];done)|rfl) (by decide) (by have:=HM.out;simp only[yA]at this⊢;omega)).mono ?_;rintro e w5 ⟨rfl,h2⟩;have H5:=hid h2;clear h2;clear H4 c0 hj;have c1:w5.cell? ⟨gx,1,none⟩=some (.int .i64 x.asn):=H5.out.a.cell 1;have E6:textL 2 (nbP 0 x)=lineW 2 [[97,115],decI x.asn] [59]:=by rw[show nbP 0 x=[stn [[97,115],decI x.asn]]from rfl,zAz,zAn]
   have hj:(lineW 2 [[97,115],decI x.asn] [59]).length≤140737488355328:=(by rw[←E6];have:=HM.out;simp only[yA]at this⊢;omega);go_wp2_with (refine zAf rfl rfl rfl rfl (by simp[lineW,joinW]at hj⊢;omega) ?_);refine(zBy x.asn _ (by omega) (by omega)).mono ?_;rintro e w1 ⟨rfl,rfl⟩;go_wp2_with (refine zAf rfl rfl rfl rfl (by simp[lineW,joinW]at hj⊢;omega) ?_);refine(rput H5.out [[97,115],decI x.asn] (by first|(simp[joinW];done)|rfl) (by decide) (by rw[←E6];have:=HM.out;simp only[yA]at this⊢;omega)).mono ?_;rintro e w6 ⟨rfl,h2⟩;rw[←E6]at h2;have H6:=hid h2;clear h2 hj E6;clear H5 c1;have c2:w6.cell? ⟨gx,2,none⟩=some (.string (str x.inn)):=H6.out.a.cell 2;go_upto_if 155 with fail
   cases hc1:(!x.inn.isEmpty)with
   |true=>
    have E:textL 2 (nbP 1 x)=lineW 2 [[105,109,112,111,114,116],x.inn] [59]:=zAq hc1;have hj:(lineW 2 [[105,109,112,111,114,116],x.inn] [59]).length≤140737488355328:=(by rw[←E];have:=HM.out;simp only[yA]at this⊢;omega);have hs:=zEx hc1;rw[hs];refine wp_cond_true rfl ?_;go_wp2_with (refine zAf rfl rfl rfl rfl (by simp[lineW,joinW]at hj⊢;omega) ?_);refine(rput H6.out [[105,109,112,111,114,116],x.inn] (by first|(simp[joinW];done)|rfl) (by decide) (by rw[←E];have:=HM.out;simp only[yA]at this⊢;omega)).mono ?_;rintro e w2 ⟨rfl,h2⟩;rw[←E]at h2;have H2:=hid h2;clear h2;have H7:=H2;clear H2 H6 E hj hs c2;have c3:w2.cell? ⟨gx,3,none⟩=some (.string (str x.out)):=H7.out.a.cell 3;go_upto_if 164 with fail
    cases hc2:(!x.out.isEmpty)with
    |true=>
     have E:textL 2 (nbP 2 x)=lineW 2 [[101,120,112,111,114,116],x.out] [59]:=zAq hc2;have hj:(lineW 2 [[101,120,112,111,114,116],x.out] [59]).length≤140737488355328:=(by rw[←E];have:=HM.out;simp only[yA]at this⊢;omega);have hs:=zEx hc2;rw[hs];refine wp_cond_true rfl ?_;go_wp2_with (refine zAf rfl rfl rfl rfl (by simp[lineW,joinW]at hj⊢;omega) ?_);refine(rput H7.out [[101,120,112,111,114,116],x.out] (by first|(simp[joinW];done)|rfl) (by decide) (by rw[←E];have:=HM.out;simp only[yA]at this⊢;omega)).mono ?_;rintro e w2 ⟨rfl,h2⟩;rw[←E]at h2;have H2:=hid h2;clear h2;have H8:=H2;clear H2 H7 E hj hs c3;go_wp2_with fail;refine(zFh H8.out (by decide) (by have:=HM.out;simp only[yA]at this⊢;omega)).mono ?_;rintro e w9 ⟨rfl,h2⟩;have H9:=hid h2;clear h2;clear H8;go_wp2;go_roundg (r.nb.length - (k+1));case measure=>omega
     case rel=>
      refine⟨k+1,by omega,by go_num,hid ?_⟩;have:=H9.out.pop;rw[hp]at this;rw[ET.out];rw[HU.out];simpa only[yE] using this
    |false=>
     have hs:=zEy hc2;rw[hs];refine wp_cond_false rfl ?_;have H8:Hid (XW ((149,gx,x.C) :: [(39,gv,r.pvC),(41,gr,r.C)]) g 2 (p++lineW 1 [[110,101,105,103,104,98,111,114],fmtA x.addr] [32,123]++textL 2 (nbP 0 x)++textL 2 (nbP 1 x)++textL 2 (nbP 2 x)) w w2):=hid (by rw[show textL 2 (nbP 2 x)=[]from zAl hc2,yF];exact H7.out);clear H7 hs c3;go_wp2_with fail;refine(zFh H8.out (by decide) (by have:=HM.out;simp only[yA]at this⊢;omega)).mono ?_;rintro e w9 ⟨rfl,h2⟩;have H9:=hid h2;clear h2;clear H8;go_wp2;go_roundg (r.nb.length - (k+1));case measure=>omega
     case rel=>
      refine⟨k+1,by omega,by go_num,hid ?_⟩;have:=H9.out.pop;rw[hp]at this;rw[ET.out];rw[HU.out];simpa only[yE] using this
   |false=>
    have hs:=zEy hc1;rw[hs];refine wp_cond_false rfl ?_;have H7:Hid (XW ((149,gx,x.C) :: [(39,gv,r.pvC),(41,gr,r.C)]) g 2 (p++lineW 1 [[110,101,105,103,104,98,111,114],fmtA x.addr] [32,123]++textL 2 (nbP 0 x)++textL 2 (nbP 1 x)) w w6):=hid (by rw[show textL 2 (nbP 1 x)=[]from zAl hc1,yF];exact H6.out);clear H6 hs c2;have c3:w6.cell? ⟨gx,3,none⟩=some (.string (str x.out)):=H7.out.a.cell 3;go_upto_if 164 with fail
    cases hc2:(!x.out.isEmpty)with
    |true=>
     have E:textL 2 (nbP 2 x)=lineW 2 [[101,120,112,111,114,116],x.out] [59]:=zAq hc2;have hj:(lineW 2 [[101,120,112,111,114,116],x.out] [59]).length≤140737488355328:=(by rw[←E];have:=HM.out;simp only[yA]at this⊢;omega);have hs:=zEx hc2;rw[hs];refine wp_cond_true rfl ?_;go_wp2_with (refine zAf rfl rfl rfl rfl (by simp[lineW,joinW]at hj⊢;omega) ?_);refine(rput H7.out [[101,120,112,111,114,116],x.out] (by first|(simp[joinW];done)|rfl) (by decide) (by rw[←E];have:=HM.out;simp only[yA]at this⊢;omega)).mono ?_;rintro e w2 ⟨rfl,h2⟩;rw[←E]at h2;have H2:=hid h2;clear h2;have H8:=H2;clear H2 H7 E hj hs c3;go_wp2_with fail;refine(zFh H8.out (by decide) (by have:=HM.out;simp only[yA]at this⊢;omega)).mono ?_;rintro e w9 ⟨rfl,h2⟩;have H9:=hid h2;clear h2;clear H8;go_wp2;go_roundg (r.nb.length - (k+1));case measure=>omega
     case rel=>
      refine⟨k+1,by omega,by go_num,hid ?_⟩;have:=H9.out.pop;rw[hp]at this;rw[ET.out];rw[HU.out];simpa only[yE] using this
    |false=>
     have hs:=zEy hc2;rw[hs];refine wp_cond_false rfl ?_;have H8:Hid (XW ((149,gx,x.C) :: [(39,gv,r.pvC),(41,gr,r.C)]) g 2 (p++lineW 1 [[110,101,105,103,104,98,111,114],fmtA x.addr] [32,123]++textL 2 (nbP 0 x)++textL 2 (nbP 1 x)++textL 2 (nbP 2 x)) w w6):=hid (by rw[show textL 2 (nbP 2 x)=[]from zAl hc2,yF];exact H7.out);clear H7 hs c3;go_wp2_with fail;refine(zFh H8.out (by decide) (by have:=HM.out;simp only[yA]at this⊢;omega)).mono ?_;rintro e w9 ⟨rfl,h2⟩;have H9:=hid h2;clear h2;clear H8;go_wp2;go_roundg (r.nb.length - (k+1));case measure=>omega
     case rel=>
      refine⟨k+1,by omega,by go_num,hid ?_⟩;have:=H9.out.pop;rw[hp]at this;rw[ET.out];rw[HU.out];simpa only[yE] using this
 case rest=>
 clear H7 HQ;have H8:=hid hcut;clear hcut;obtain⟨q2,hq2⟩:∃zz,zz=q1++textL 1 (r.nb.map nbN):=⟨_,rfl⟩;rw[←hq2]at H8;have HQ:Hid ((q2++textL 1 (r.net.map (fun p:Pf=>stn [[110,101,116,119,111,114,107],pfxF p.pa p.pl]))).length≤140737488355328):=hid (by rw[hq2,hq1];have:=HL3.out;simp only[yA]at this⊢;omega);go_upto_block 4 with fail
 go_cut [] (fun wx=>XW [(39,gv,r.pvC),(41,gr,r.C)] g 1 (q2++textL 1 (r.net.map (fun p:Pf=>stn [[110,101,116,119,111,114,107],pfxF p.pa p.pl]))) w wx)
 case first=>as_aux_lemma=>
  go_wp2;go_loopg [8] r.net.length (fun gh ix wr=>∃k:Nat,k+gh=r.net.length∧ix=.int .i64 k∧Hid (XW [(39,gv,r.pvC),(41,gr,r.C)] g 1 (q2++textL 1 ((r.net.take k).map (fun p:Pf=>stn [[110,101,116,119,111,114,107],pfxF p.pa p.pl]))) w wr));case atStart=>exact⟨0,by omega,rfl,hid (by rw[List.take_zero,List.map_nil,textL,yF];exact H8.out)⟩
  case round=>
   clear H8;obtain⟨k,hk,rfl,HR⟩:=hrel;have c4:wr.cell? ⟨gv,4,none⟩=some (.slice A21 r.net.length s21):=(HR.out.a.cell 4).trans HE21.out;by_cases hlt:k<r.net.length;case neg=>
    have hkz:¬((k:Int)<(r.net.length:Int)):=by omega
    have E:=zBc 1 (fun p:Pf=>stn [[110,101,116,119,111,114,107],pfxF p.pa p.pl]) hlt;go_wp2;go_meet;have:=HR.out;rw[E]at this;exact this
   have hkz:(k:Int)<(r.net.length:Int):=by omega
   obtain⟨gr', o', c', e',-,hgr', R0⟩:=SlV.elem (n:=2) (by decide) (fun _=>rfl) HV21.out hlt;injection e' with e1 e2 e3
   subst e1 e3;have r1:=hid (zAg R0 (HR.out.low hB.out) hgr');have HG:Hid (∀L d t W,XW L g d t w W→W.rangeAt gr' (o' + k*2) (_:Array Value).toList):=hid fun L d t W hW=>zAg R0 (hW.low hB.out) hgr'
   clear R0 e2;have HX:=hid (HK6.out _ (List.getElem_mem hlt));have ET:=hid (zAu 1 (fun p:Pf=>stn [[110,101,116,119,111,114,107],pfxF p.pa p.pl]) hlt);have HP:=hid (zAy 1 (fun p:Pf=>stn [[110,101,116,119,111,114,107],pfxF p.pa p.pl]) hlt);generalize r.net[k]=x at HX ET HP r1 HG;obtain⟨p,hp⟩:∃zz,zz=q2++textL 1 ((r.net.take k).map (fun p:Pf=>stn [[110,101,116,119,111,114,107],pfxF p.pa p.pl])):=⟨_,rfl⟩;have HM:Hid (p.length+(textN 1 ((fun p:Pf=>stn [[110,101,116,119,111,114,107],pfxF p.pa p.pl]) x)).length≤140737488355328):=hid (by rw[hp];have h1:=HQ.out;have h2:_+(textN 1 ((fun p:Pf=>stn [[110,101,116,119,111,114,107],pfxF p.pa p.pl]) x)).length≤_:=HP.out;simp only[yA]at *;omega);rw[←hp]at HR;clear HP;have f1:=HX.out;have E:textN 1 ((fun p:Pf=>stn [[110,101,116,119,111,114,107],pfxF p.pa p.pl]) x)=lineW 1 [[110,101,116,119,111,114,107],pfxF x.pa x.pl] [59]:=zAn _ _;have hj:(lineW 1 [[110,101,116,119,111,114,107],pfxF x.pa x.pl] [59]).length≤140737488355328:=by rw[←E];exact yJ (Nat.le_add_left _ _) HM.out
   have q:=HG.out _ _ _ _ HR.out;have d0:wr.cell? ⟨gr', o' + k*2,none⟩=some (.int .u32 (x.pa:Int)):=q 0 _ rfl;have d1:wr.cell? ⟨gr', o' + k*2+1,none⟩=some (.int .i64 x.pl):=q 1 _ rfl;clear q HX;go_wp2_with fail;refine(zDk x.pa x.pl _ f1).mono ?_;rintro e w5 ⟨rfl,hb⟩;have H5:=hid (HR.out.below hb);clear hb d0 d1 c4;go_wp2_with (refine zAf rfl rfl rfl rfl (by simp[lineW,joinW]at hj⊢;omega) ?_);refine(rput H5.out [[110,101,116,119,111,114,107],pfxF x.pa x.pl] (by first|(simp[joinW];done)|rfl) (by decide) (by rw[←E];exact HM.out)).mono ?_;rintro e w2 ⟨rfl,h2⟩;rw[←E]at h2;have H2:=hid h2;clear h2;go_wp2;go_roundg (r.net.length - (k+1));case measure=>omega
   case rel=>
    refine⟨k+1,by omega,by go_num,hid ?_⟩;have:=H2.out;rw[hp]at this;rw[ET.out];simpa only[yE] using this
 case rest=>
 clear H8 HQ;have H9:=hid hcut;clear hcut;obtain⟨q3,hq3⟩:∃zz,zz=q2++textL 1 (r.net.map (fun p:Pf=>stn [[110,101,116,119,111,114,107],pfxF p.pa p.pl])):=⟨_,rfl⟩;rw[←hq3]at H9;have HQ:Hid ((q3++textL 1 (r.ag.map agN)).length≤140737488355328):=hid (by rw[hq3,hq2,hq1];have:=HL3.out;simp only[yA]at this⊢;omega);go_upto_block 6 with fail
 go_cut [] (fun wx=>XW [(39,gv,r.pvC),(41,gr,r.C)] g 1 (q3++textL 1 (r.ag.map agN)) w wx)
 case first=>as_aux_lemma=>
  go_wp2;go_loopg [9,10] r.ag.length (fun gh ix _ wr=>∃k:Nat,k+gh=r.ag.length∧ix=.int .i64 k∧Hid (XW [(39,gv,r.pvC),(41,gr,r.C)] g 1 (q3++textL 1 ((r.ag.take k).map agN)) w wr));case atStart=>exact⟨0,by omega,rfl,hid (by rw[List.take_zero,List.map_nil,textL,yF];exact H9.out)⟩
  case round=>
   clear H9;obtain⟨k,hk,rfl,HR⟩:=hrel;have c5:wr.cell? ⟨gv,5,none⟩=some (.slice A22 r.ag.length s22):=(HR.out.a.cell 5).trans HE22.out;by_cases hlt:k<r.ag.length;case neg=>
    have hkz:¬((k:Int)<(r.ag.length:Int)):=by omega
    have E:=zBc 1 agN hlt;go_wp2;go_meet;have:=HR.out;rw[E]at this;exact this
   have hkz:(k:Int)<(r.ag.length:Int):=by omega
   obtain⟨gr', o', c', e',-,hgr', R0⟩:=SlV.elem (n:=3) (by decide) (fun _=>rfl) HV22.out hlt;injection e' with e1 e2 e3
   subst e1 e3;have r1:=hid (zAg R0 (HR.out.low hB.out) hgr');have HG:Hid (∀L d t W,XW L g d t w W→W.rangeAt gr' (o' + k*3) (_:Array Value).toList):=hid fun L d t W hW=>zAg R0 (hW.low hB.out) hgr'
   clear R0 e2;have HX:=hid (HK7.out _ (List.getElem_mem hlt));have ET:=hid (zAu 1 agN hlt);have HP:=hid (zAy 1 agN hlt);generalize r.ag[k]=x at HX ET HP r1 HG;obtain⟨p,hp⟩:∃zz,zz=q3++textL 1 ((r.ag.take k).map agN):=⟨_,rfl⟩;have HM:Hid (p.length+(textN 1 (agN x)).length≤140737488355328):=hid (by rw[hp];have h1:=HQ.out;have h2:_+(textN 1 (agN x)).length≤_:=HP.out;simp only[yA]at *;omega);rw[←hp]at HR;clear HP;have f1:=HX.out;have hd:∀W,(∃t,XW [(39,gv,r.pvC),(41,gr,r.C)] g 1 t w W)→W.cell? ⟨gv,5,none⟩=some (.slice (some ⟨gr', o', none⟩) r.ag.length s22)∧W.cell? ⟨gr', o' + k*3,none⟩=some (.int .u32 (x.pa:Int))∧W.cell? ⟨gr', o' + k*3+1,none⟩=some (.int .i64 x.pl)∧W.cell? ⟨gr', o' + k*3+2,none⟩=some (.bool x.only):=fun W ⟨t,hW⟩=>have q:=HG.out _ _ _ _ hW;⟨(hW.a.cell 5).trans HE22.out,q 0 _ rfl,q 1 _ rfl,q 2 _ rfl⟩
   have HD:=hid hd;clear hd HX;cases ha:x.only with
   |true=>
    have E:textN 1 (agN x)=lineW 1 [[97,103,103,114,101,103,97,116,101],pfxF x.pa x.pl,[111,110,108,121]] [59]:=by rw[agN,ha,zAn];rfl
    have hj:(lineW 1 [[97,103,103,114,101,103,97,116,101],pfxF x.pa x.pl,[111,110,108,121]] [59]).length≤140737488355328:=by rw[←E];exact yJ (Nat.le_add_left _ _) HM.out
    obtain⟨d0,d1,d2,d3⟩:=HD.out _ ⟨_,HR.out⟩;go_wp2_with fail;refine(zDk x.pa x.pl _ f1).mono ?_;rintro e w5 ⟨rfl,hb⟩;have H5:=hid (HR.out.below hb);clear hb d0 d1 d2 d3 c5;obtain⟨d0,d1,d2,d3⟩:=HD.out _ ⟨_,H5.out⟩;rw[ha]at d3;go_wp2_with (refine zAf rfl rfl rfl rfl (by simp[lineW,joinW]at hj⊢;omega) ?_);refine(rput H5.out [[97,103,103,114,101,103,97,116,101],pfxF x.pa x.pl,[111,110,108,121]] (by first|(simp[joinW];done)|rfl) (by decide) (by rw[←E];exact HM.out)).mono ?_;rintro e w2 ⟨rfl,h2⟩;rw[←E]at h2;have H2:=hid h2;clear h2;go_wp2;go_roundg (r.ag.length - (k+1));case measure=>omega
    case rel=>
     refine⟨k+1,by omega,by go_num,hid ?_⟩;have:=H2.out;rw[hp]at this;rw[ET.out];simpa only[yE] using this
   |false=>
    have E:textN 1 (agN x)=lineW 1 [[97,103,103,114,101,103,97,116,101],pfxF x.pa x.pl] [59]:=by rw[agN,ha,zAn];rfl
    have hj:(lineW 1 [[97,103,103,114,101,103,97,116,101],pfxF x.pa x.pl] [59]).length≤140737488355328:=by rw[←E];exact yJ (Nat.le_add_left _ _) HM.out
    obtain⟨d0,d1,d2,d3⟩:=HD.out _ ⟨_,HR.out⟩;go_wp2_with fail;refine(zDk x.pa x.pl _ f1).mono ?_;rintro e w5 ⟨rfl,hb⟩;have H5:=hid (HR.out.below hb);clear hb d0 d1 d2 d3 c5;obtain⟨d0,d1,d2,d3⟩:=HD.out _ ⟨_,H5.out⟩;rw[ha]at d3;go_wp2_with (refine zAf rfl rfl rfl rfl (by simp[lineW,joinW]at hj⊢;omega) ?_);refine(rput H5.out [[97,103,103,114,101,103,97,116,101],pfxF x.pa x.pl] (by first|(simp[joinW];done)|rfl) (by decide) (by rw[←E];exact HM.out)).mono ?_;rintro e w2 ⟨rfl,h2⟩;rw[←E]at h2;have H2:=hid h2;clear h2;go_wp2;go_roundg (r.ag.length - (k+1));case measure=>omega
    case rel=>
     refine⟨k+1,by omega,by go_num,hid ?_⟩;have:=H2.out;rw[hp]at this;rw[ET.out];simpa only[yE] using this
 case rest=>
 clear H9 HQ;have H10:=hid hcut;clear hcut;obtain⟨q4,hq4⟩:∃zz,zz=q3++textL 1 (r.ag.map agN):=⟨_,rfl⟩;rw[←hq4]at H10;have HQ:Hid ((q4++textL 1 (r.cd.map cdN)).length≤140737488355328):=hid (by rw[hq4,hq3,hq2,hq1];have:=HL3.out;simp only[yA]at this⊢;omega);go_upto_block 8 with fail
 go_cut [] (fun wx=>XW [(39,gv,r.pvC),(41,gr,r.C)] g 1 (q4++textL 1 (r.cd.map cdN)) w wx)
 case first=>as_aux_lemma=>
  go_wp2;go_loopg [11,12,13] r.cd.length (fun gh ix _ _ wr=>∃k:Nat,k+gh=r.cd.length∧ix=.int .i64 k∧Hid (XW [(39,gv,r.pvC),(41,gr,r.C)] g 1 (q4++textL 1 ((r.cd.take k).map cdN)) w wr));case atStart=>exact⟨0,by omega,rfl,hid (by rw[List.take_zero,List.map_nil,textL,yF];exact H10.out)⟩
  case round=>
   clear H10;obtain⟨k,hk,rfl,HR⟩:=hrel;have c6:wr.cell? ⟨gv,6,none⟩=some (.slice A23 r.cd.length s23):=(HR.out.a.cell 6).trans HE23.out;by_cases hlt:k<r.cd.length;case neg=>
    have hkz:¬((k:Int)<(r.cd.length:Int)):=by omega
    have E:=zBc 1 cdN hlt;go_wp2;go_meet;have:=HR.out;rw[E]at this;exact this
   have hkz:(k:Int)<(r.cd.length:Int):=by omega
   obtain⟨gr', o', c', e',-,hgr', R0⟩:=SlV.elem (n:=5) (by decide) (fun _=>rfl) HV23.out hlt;injection e' with e1 e2 e3
   subst e1 e3;have r1:=hid (zAg R0 (HR.out.low hB.out) hgr');clear R0 e2;have HX:=hid (HK8.out _ (List.getElem_mem hlt));have ET:=hid (zAu 1 cdN hlt);have HP:=hid (zAy 1 cdN hlt);generalize r.cd[k]=x at HX ET HP r1;obtain⟨p,hp⟩:∃zz,zz=q4++textL 1 ((r.cd.take k).map cdN):=⟨_,rfl⟩;have HM:Hid (p.length+(textN 1 (cdN x)).length≤140737488355328):=hid (by rw[hp];have h1:=HQ.out;have h2:_+(textN 1 (cdN x)).length≤_:=HP.out;simp only[yA]at *;omega);rw[←hp]at HR;clear HP;go_upto_region 50 with(go_big_may;first|(refine zAa rfl 153 _ rfl rfl r1.out Tryz.rowCd Tryz.sizeCd ?_)|(refine zAd rfl 153 _ _ rfl rfl rfl (HasC.new wr _ _) rfl Tryz.sizeCd (Cd.one x) ?_;intro w4 hz1 hz2))
   have H4:=hid (HR.out.new hz1 (zAi hz2));clear hz1 hz2 r1 HR;generalize wr.heap.size=gx at H4⊢;obtain⟨f1,f2⟩:=HX.out;clear HX;cases ha:x.absent with
   |true=>
    have E:textN 1 (cdN x)=lineW 1 [[111,114,105,103,105,110,97,116,101],pfxF x.pa x.pl,[117,110,108,101,115,115],pfxF x.ia x.il] [59]:=by rw[cdN,ha,zAn];rfl
    have hj:(lineW 1 [[111,114,105,103,105,110,97,116,101],pfxF x.pa x.pl,[117,110,108,101,115,115],pfxF x.ia x.il] [59]).length≤140737488355328:=by rw[←E];exact yJ (Nat.le_add_left _ _) HM.out
    have c4:w4.cell? ⟨gx,4,none⟩=some (.bool true):=(H4.out.a.cell 4).trans (by rw[←ha];rfl);go_upto_region 53 with fail
    have HX:Hid (∀W,XW ((153,gx,x.C) :: [(39,gv,r.pvC),(41,gr,r.C)]) g 1 (p) w W→W.cell? ⟨gx,0,none⟩=some (.int .u32 (x.pa:Int))∧W.cell? ⟨gx,1,none⟩=some (.int .i64 x.pl)∧W.cell? ⟨gx,2,none⟩=some (.int .u32 (x.ia:Int))∧W.cell? ⟨gx,3,none⟩=some (.int .i64 x.il)):=hid fun W hW=>⟨hW.a.cell 0,hW.a.cell 1,hW.a.cell 2,hW.a.cell 3⟩
    have Q0:Hid (∀W,XW ((153,gx,x.C) :: [(39,gv,r.pvC),(41,gr,r.C)]) g 1 (p) w W→Calls Tryz.prog 113 #[.agg #[.int .u32 (x.pa:Int),.int .i64 x.pl]] W fun e w' => e=.returned (.string (str (pfxF x.pa x.pl)))∧XW ((153,gx,x.C) :: [(39,gv,r.pvC),(41,gr,r.C)]) g 1 (p) w w'):=hid fun W hW=>(zDk x.pa x.pl W f1).mono fun e w' ⟨he,hk⟩=>⟨he,hW.below hk⟩
    have Q1:Hid (∀W,XW ((153,gx,x.C) :: [(39,gv,r.pvC),(41,gr,r.C)]) g 1 (p) w W→Calls Tryz.prog 113 #[.agg #[.int .u32 (x.ia:Int),.int .i64 x.il]] W fun e w' => e=.returned (.string (str (pfxF x.ia x.il)))∧XW ((153,gx,x.C) :: [(39,gv,r.pvC),(41,gr,r.C)]) g 1 (p) w w'):=hid fun W hW=>(zDk x.ia x.il W f2).mono fun e w' ⟨he,hk⟩=>⟨he,hW.below hk⟩
    refine zCj (fun W=>XW ((153,gx,x.C) :: [(39,gv,r.pvC),(41,gr,r.C)]) g 1 (p) w W) 12 (by kernel_rfl) (by kernel_rfl) H4.out.drew ?_
    repeat
     (first
      |(refine zHu rfl rfl rfl rfl ?_ ?_;(· (simp[lineW,joinW]at hj⊢;omega)))
      |(refine zBq (v:=?_) ?_ ?_ ?_;rotate_left;(· rfl);(· (intro W hW;obtain⟨c0,c1,c2,c3⟩:=HX.out W hW;go_simp<;>rfl)))
      |(refine zAm ?_ ?_ Q0.out ?_;(· rfl);(· (intro W hW;go_simp<;>rfl)))
      |(refine zAm ?_ ?_ Q1.out ?_;(· rfl);(· (intro W hW;go_simp<;>rfl))))
     simp only[Act.put,yB,yC,yD]
    refine zCg ?_;intro wq hS;change wpList _ _ _ (_ :: []) _ _;have HS:=hid hS;clear hS HX Q0 Q1;go_wp2_with fail;refine(rput HS.out [[111,114,105,103,105,110,97,116,101],pfxF x.pa x.pl,[117,110,108,101,115,115],pfxF x.ia x.il] (by first|(simp[joinW];done)|rfl) (by decide) (by rw[←E];exact HM.out)).mono ?_;rintro e w2 ⟨rfl,h2⟩;rw[←E]at h2;have H2:=hid h2;clear h2;go_wp2;go_roundg (r.cd.length - (k+1));case measure=>omega
    case rel=>
     refine⟨k+1,by omega,by go_num,hid ?_⟩;have:=H2.out.pop;rw[hp]at this;rw[ET.out];simpa only[yE] using this
   |false=>
    have E:textN 1 (cdN x)=lineW 1 [[111,114,105,103,105,110,97,116,101],pfxF x.pa x.pl,[105,102],pfxF x.ia x.il] [59]:=by rw[cdN,ha,zAn];rfl
    have hj:(lineW 1 [[111,114,105,103,105,110,97,116,101],pfxF x.pa x.pl,[105,102],pfxF x.ia x.il] [59]).length≤140737488355328:=by rw[←E];exact yJ (Nat.le_add_left _ _) HM.out
    have c4:w4.cell? ⟨gx,4,none⟩=some (.bool false):=(H4.out.a.cell 4).trans (by rw[←ha];rfl);go_upto_region 53 with fail
    have HX:Hid (∀W,XW ((153,gx,x.C) :: [(39,gv,r.pvC),(41,gr,r.C)]) g 1 (p) w W→W.cell? ⟨gx,0,none⟩=some (.int .u32 (x.pa:Int))∧W.cell? ⟨gx,1,none⟩=some (.int .i64 x.pl)∧W.cell? ⟨gx,2,none⟩=some (.int .u32 (x.ia:Int))∧W.cell? ⟨gx,3,none⟩=some (.int .i64 x.il)):=hid fun W hW=>⟨hW.a.cell 0,hW.a.cell 1,hW.a.cell 2,hW.a.cell 3⟩
    have Q0:Hid (∀W,XW ((153,gx,x.C) :: [(39,gv,r.pvC),(41,gr,r.C)]) g 1 (p) w W→Calls Tryz.prog 113 #[.agg #[.int .u32 (x.pa:Int),.int .i64 x.pl]] W fun e w' => e=.returned (.string (str (pfxF x.pa x.pl)))∧XW ((153,gx,x.C) :: [(39,gv,r.pvC),(41,gr,r.C)]) g 1 (p) w w'):=hid fun W hW=>(zDk x.pa x.pl W f1).mono fun e w' ⟨he,hk⟩=>⟨he,hW.below hk⟩
    have Q1:Hid (∀W,XW ((153,gx,x.C) :: [(39,gv,r.pvC),(41,gr,r.C)]) g 1 (p) w W→Calls Tryz.prog 113 #[.agg #[.int .u32 (x.ia:Int),.int .i64 x.il]] W fun e w' => e=.returned (.string (str (pfxF x.ia x.il)))∧XW ((153,gx,x.C) :: [(39,gv,r.pvC),(41,gr,r.C)]) g 1 (p) w w'):=hid fun W hW=>(zDk x.ia x.il W f2).mono fun e w' ⟨he,hk⟩=>⟨he,hW.below hk⟩
    refine zCj (fun W=>XW ((153,gx,x.C) :: [(39,gv,r.pvC),(41,gr,r.C)]) g 1 (p) w W) 12 (by kernel_rfl) (by kernel_rfl) H4.out.drew ?_
    repeat
     (first
      |(refine zHu rfl rfl rfl rfl ?_ ?_;(· (simp[lineW,joinW]at hj⊢;omega)))
      |(refine zBq (v:=?_) ?_ ?_ ?_;rotate_left;(· rfl);(· (intro W hW;obtain⟨c0,c1,c2,c3⟩:=HX.out W hW;go_simp<;>rfl)))
      |(refine zAm ?_ ?_ Q0.out ?_;(· rfl);(· (intro W hW;go_simp<;>rfl)))
      |(refine zAm ?_ ?_ Q1.out ?_;(· rfl);(· (intro W hW;go_simp<;>rfl))))
     simp only[Act.put,yB,yC,yD]
    refine zCg ?_;intro wq hS;change wpList _ _ _ (_ :: []) _ _;have HS:=hid hS;clear hS HX Q0 Q1;go_wp2_with fail;refine(rput HS.out [[111,114,105,103,105,110,97,116,101],pfxF x.pa x.pl,[105,102],pfxF x.ia x.il] (by first|(simp[joinW];done)|rfl) (by decide) (by rw[←E];exact HM.out)).mono ?_;rintro e w2 ⟨rfl,h2⟩;rw[←E]at h2;have H2:=hid h2;clear h2;go_wp2;go_roundg (r.cd.length - (k+1));case measure=>omega
    case rel=>
     refine⟨k+1,by omega,by go_num,hid ?_⟩;have:=H2.out.pop;rw[hp]at this;rw[ET.out];simpa only[yE] using this
 case rest=>
 clear H10 HQ;have H11:=hid hcut;clear hcut;obtain⟨q5,hq5⟩:∃zz,zz=q4++textL 1 (r.cd.map cdN):=⟨_,rfl⟩;rw[←hq5]at H11;have c24:wc.cell? ⟨gv,7,none⟩=some (.slice A24 r.pvRed.length s24):=(H11.out.a.cell 7).trans HE24.out;go_wp2_with fail;refine(zIp g _ r.pvRed _ _ B H11.out.t hB.out (HV24.out.below (H11.out.low hB.out)) HK9.out (by rw[hq5,hq4,hq3,hq2,hq1];have:=HL3.out;simp only[yA]at this⊢;omega)).mono ?_;rintro e w3 ⟨rfl,h3,k3⟩;have R3:=hid (H11.out.go h3 k3);clear h3 k3 c24 H11;go_wp2_with fail;refine(zFh R3.out (by decide) (by rw[hq5,hq4,hq3,hq2,hq1];have:=HL3.out;simp only[yA]at this⊢;omega)).mono ?_;rintro e w5 ⟨rfl,h3⟩;have R:=hid h3;clear h3;go_wp2_with fail;go_end0;refine HF.out _ ?_ R.out.k;have:=R.out.t;rw[hq5,hq4,hq3,hq2,hq1]at this;rw[EL.out];simpa only[yE] using this
theorem red_more{maps:List RMap}{into least most types:Int}{l:List Rd}(h:redE maps into least most types l=0)(h0:0≤least)(h1:most≤16777215)(h2:0≤types)(h3:types≤2):∀x∈l,(1≤x.frm∧x.frm≤5)∧okRd x:=fun x hx=>by
 refine⟨?_,zMx h h0 h1 h2 h3 x hx⟩;have:=zEb (by decide) h x hx;unfold redF at this;obtain⟨g,_⟩:=zDh this;simp only[Bool.and_eq_true]at g;exact zAp g.1.1.1.1
structure More (r:Rt):Prop where
 stat:∀x∈r.stat,cntB (zHn x)=1∧(1≤x.admin∧x.admin≤255)∧(0≤x.tag∧x.tag≤65535)∧x.fit
 ls:r.lsOn=true→(1≤r.lsAdmin∧r.lsAdmin≤255)∧(∀x∈r.ranges,(0≤x.area∧x.area≤255)∧x.fit)∧∀x∈r.lsRed,(1≤x.frm∧x.frm≤5)∧okRd x
 dv:r.dvOn=true→(1≤r.dvAdmin∧r.dvAdmin≤255)∧∀x∈r.dvRed,(1≤x.frm∧x.frm≤5)∧okRd x
 pv:r.pvOn=true→(1≤r.ext∧r.ext≤255)∧(1≤r.int∧r.int≤255)∧(∀x∈r.nb,(1≤x.asn∧x.asn≤65535)∧x.fit)∧(∀x∈r.net,x.fit)∧(∀x∈r.ag,x.fit)∧(∀x∈r.cd,x.fit)∧∀x∈r.pvRed,(1≤x.frm∧x.frm≤5)∧okRd x
theorem valid_more{r:Rt}(h:zBw r=0)(hf:r.fit):More r:=by
 have F:=zLk h hf;obtain⟨z1,z2,z3,z4,z5,z6,z7,z8,z9,z10,z11,z12⟩:=zKn h;refine⟨fun x hx=>?_,fun ho=>?_,fun ho=>?_,fun ho=>?_⟩
 ·obtain⟨_,a,t,f⟩:=F.stat x hx
  have:=zEb (by decide) z9 x hx;unfold staF at this;have:=(zDh this).1;unfold zGj at this;simp only[Bool.and_eq_true]at this;exact⟨by simpa using this.1.1.1.2,a,t,f⟩
 ·obtain⟨a,b,_⟩:=F.ls ho
  unfold lnkE at z10;rw[ho,if_pos rfl]at z10;exact⟨a,fun x hx=>⟨(b x hx).1,(b x hx).2.2⟩,red_more (zCe (zDh z10).2).2 (by decide) (by decide) (by decide) (by decide)⟩
 ·obtain⟨a,_⟩:=F.dv ho
  unfold dvE at z11;rw[ho,if_pos rfl]at z11;exact⟨a,red_more (zCe (zDh z11).2).2 (by decide) (by decide) (by decide) (by decide)⟩
 ·obtain⟨a,b,c,d,e,f,_⟩:=F.pv ho
  unfold pvE at z12;rw[ho,if_pos rfl]at z12;obtain⟨_,z⟩:=zCe (zDh z12).2;exact⟨a,b,c,fun x hx=>(d x hx).2,fun x hx=>(e x hx).2,hf.2.2.2.2.2.2.2.2.2.2.2.2.1,red_more (zCe z).2 (by decide) (by decide) (by decide) (by decide)⟩
theorem zCo(n lo hi:Int)(w:World):Calls Tryz.prog 51 #[.int .i64 n,.int .i64 lo,.int .i64 hi] w fun e w' => e=.returned (.bool (zAb n lo hi))∧w=w' := by
 by_cases h1:lo≤n
 ·have E:Hid (zAb n lo hi=decide (n≤hi)):=hid (by simp[zAb,h1])
  go_enter Tryz.func51,Tryz.ntmps51;go_wp2;go_ret;exact⟨zAe E.out.symm,rfl⟩
 ·have E:Hid (zAb n lo hi=false):=hid (by simp[zAb,h1])
  go_enter Tryz.func51,Tryz.ntmps51;go_wp2;go_ret;exact⟨zAe E.out.symm,rfl⟩
theorem idxF_at{α:Type}{p:α→Bool}{l:List α}{k:Nat}(h:k<l.length){R:Int}(hR:idxF p (l.drop k) k=R):R=if p l[k]then(k:Int)else idxF p (l.drop (k+1)) (k+1):=by
 rw[zKa h,idxF]at hR;exact hR.symm
abbrev LookSt(F:Nat){α:Type}(nm:α→List UInt8)(L:Rt→List α):Prop:=∀(r:Rt) (name:List UInt8) (w:World) (B:Nat),r.at w B→B≤w.heap.size →
 Calls Tryz.prog F #[.agg r.C,.string (str name)] w fun e w' => e=.returned (.int .i64 (idxF (fun x=>nm x==name) (L r) 0))∧Below w.heap.size w w'
abbrev LookK{α:Type}(j n:Nat)(C:α→Array Value)(nm:α→List UInt8)(V:Rt→Value)(L:Rt→List α):Prop :=
 (∀r:Rt,r.C[j]? = some (V r))∧(∀x,(C x).toList.length=n)∧(∀x,(C x).toList[0]? = some (.string (str (nm x))))∧∀(r:Rt) (w:World) (B:Nat),r.at w B→SlV w B n C (V r) (L r)
abbrev LookG(j n F:Nat):Prop:=∀{α:Type} (nm:α→List UInt8) (L:Rt→List α) (V:Rt→Value) (C:α→Array Value),LookK j n C nm V L→LookSt F nm L
theorem rlook_all:(Tryz.prog.funcs[124]? = some Tryz.f124→LookG 3 2 124)∧(Tryz.prog.funcs[197]? = some Tryz.f197→LookG 4 2 197)∧(Tryz.prog.funcs[126]? = some Tryz.f126→LookG 5 2 126)∧(Tryz.prog.funcs[129]? = some Tryz.f129→LookG 2 12 129):=by
 refine⟨?_,?_,?_,?_⟩
 all_goals
  intro hf α nm L V C ⟨hJ,hC,hN,hA⟩ r name w B h hB;obtain⟨A,c,hv,hle,-⟩:=hA r w B h;have H0:=hid (HasC.new w 41 r.C);have B0:Below w.heap.size w (w.alloc (.cells r.C 41)):=(Below.refl _ w).alloc (yI _) _;have HV:=hid hv;have c2:=(H0.out.cell _).trans (hJ r);rw[hv]at c2;have SV:=hid ((hA r w B h).below (B0.mono hB));have hlm:(L r).length≤9223372036854775807:=by have:=SV.out.len;simp only[maxLen]at this;omega
  generalize L r=l at *;obtain⟨R,hR⟩:∃R,idxF (fun x=>nm x==name) l 0=R:=⟨_,rfl⟩;rw[hR];have E:=hid hR;have HN:=hid hN;have HC:=hid hC;have B0:=hid B0;clear h hB hv hA hJ hR hN hC;refine calls_of_wp hf rfl ?_;clear hf;simp only[Tryz.ntmps124,Tryz.ntmps197,Tryz.ntmps126,Tryz.ntmps129,List.size_toArray,yG,yH,Nat.reduceAdd,Nat.reduceSub,Array.replicate_succ,Array.replicate_zero,List.push_toArray,List.append_toArray,List.nil_append,List.cons_append];go_upto_region 1 with(fail)
  change Code.wp _ _ _ _ (w.alloc (.cells r.C 41));generalize w.alloc (.cells r.C 41)=wA at H0 B0 SV c2⊢;go_wp2;go_loopg [5] l.length (fun gh ix wr=>wr=wA∧∃k:Nat,k+gh=l.length∧ix=.int .i64 k∧Hid (idxF (fun x=>nm x==name) (l.drop k) k=R));case atStart=>exact⟨rfl,0,by omega,rfl,E⟩
  case round=>
   obtain⟨rfl,k,hk,rfl,E⟩:=hrel;by_cases hlt:k<l.length
   ·have E2:=hid (idxF_at hlt E.out)
    obtain⟨g,o,c', e',-,hg,R0⟩:=SV.out.elem (by decide) HC.out hlt;rw[HV.out]at e';injection e' with e1 e2 e3
    subst e1 e3;have c4:=R0 0 _ (HN.out _);generalize l[k]=x at E2 R0 c4;clear R0 E e2;rw[Nat.add_zero]at c4;have hlz:(k:Int)<(l.length:Int):=by omega
    have hs:((str (nm x)).toList==(str name).toList)=(nm x==name):=by rw[zAh,zAh]
    cases hq:nm x==name with
    |true=>
     rw[hq]at hs;go_wp2;go_ret;exact⟨zAc (by rw[E2.out,hq];rfl),B0.out⟩
    |false=>
     rw[hq]at hs;go_wp2;go_roundg (l.length - (k+1));case measure=>omega
     case rel=>exact⟨rfl,k+1,by omega,by go_num,hid (by rw[E2.out,hq];rfl)⟩
   ·have hlz:¬(k:Int)<(l.length:Int):=by omega
    have E2:=hid (idxF_end hlt E.out);go_wp2;go_ret;exact⟨zAc E2.out.symm,B0.out⟩
theorem zFx:LookSt 124 (·.name) (fun r=>r.lists):=rlook_all.1 Tryz.func124 _ _ (fun r=>r.listsV) PList.C ⟨fun _=>rfl,fun _=>rfl,fun _=>rfl,fun _ _ _ h=>h.hlists⟩
theorem zHz:LookSt 197 (·.name) (fun r=>r.maps):=rlook_all.2.1 Tryz.func197 _ _ (fun r=>r.mapsV) RMap.C ⟨fun _=>rfl,fun _=>rfl,fun _=>rfl,fun _ _ _ h=>h.hmaps⟩
theorem zFw:LookSt 126 (·.name) (fun r=>r.acls):=rlook_all.2.2.1 Tryz.func126 _ _ (fun r=>r.aclsV) AList.C ⟨fun _=>rfl,fun _=>rfl,fun _=>rfl,fun _ _ _ h=>h.hacls⟩
theorem rlookIf_any:LookSt 129 (·.name) (fun r=>r.ifs):=rlook_all.2.2.2 Tryz.func129 _ _ (fun r=>r.ifsV) If.C ⟨fun _=>rfl,fun _=>rfl,fun _=>rfl,fun _ _ _ h=>h.hifs⟩
theorem idxF_way{α:Type}(p:α→Bool):∀(l:List α) (i:Nat),(idxF p l i = -1∧∀j (hj:j<l.length),p l[j]=false)∨∃(k:Nat) (h:k<l.length),idxF p l i=((i+k:Nat):Int)∧p l[k]=true∧∀j (hj:j<l.length),j<k→p l[j]=false
 |[],_=>.inl ⟨rfl,fun _ hj=>absurd hj (Nat.not_lt_zero _)⟩
 |y :: r,i=>by
  unfold idxF;cases hp:p y with
  |true=>exact .inr ⟨0,by simp,by simp,hp,fun _ _ h=>absurd h (Nat.not_lt_zero _)⟩
  |false=>
   rcases idxF_way p r (i+1)with⟨e,h⟩|⟨k,hk,e,h1,h2⟩
   ·refine .inl ⟨by simpa using e,fun j hj=>?_⟩
    cases j with
    |zero=>exact hp
    |succ j=>exact h j (by simpa using hj)
   ·refine .inr ⟨k+1,by simpa using hk,by rw[if_neg (by decide),e];omega,by simpa using h1,fun j hj hlt=>?_⟩
    cases j with
    |zero=>exact hp
    |succ j=>exact h2 j (by simpa using hj) (by omega)
theorem zMz{α:Type}{p:α→Bool}{l:List α}{j k:Nat}(hj:j<l.length)(h:p l[j]=true)(hk:j<k):idxF p l 0<(k:Int):=by
 rcases idxF_way p l 0 with⟨_,hn⟩|⟨i,hi,e,_,hn⟩
 ·rw[hn j hj]at h;cases h
 ·rcases Nat.lt_or_ge j i with hlt|hge
  ·rw[hn j hj hlt]at h;cases h
  ·omega
theorem zNb{α:Type}{p:α→Bool}{l:List α}{k:Nat}(hk:k<l.length)(h:∀j (hj:j<l.length),j<k→p l[j]=false)(hs:p l[k]=true):¬idxF p l 0<(k:Int):=fun hlt=>by
 rcases idxF_way p l 0 with⟨_,hn⟩|⟨i,hi,e,hp,_⟩
 ·rw[hn k hk]at hs;cases hs
 ·rw[h i hi (by omega)]at hp;cases hp
theorem zHe{α:Type}{p:α→Bool}{l:List α}{k:Nat}(hk:k≤l.length)(h:∀j (hj:j<l.length),j<k→p l[j]=false):(l.take k).any p=false:=by
 rw[List.any_eq_false];intro x hx;obtain⟨j,hj,rfl⟩:=List.getElem_of_mem hx;rw[List.length_take]at hj;rw[List.getElem_take,h j (by omega) (by omega)];decide
theorem zHi{α:Type}{p:α→Bool}{l:List α}{j k:Nat}(hj:j<l.length)(hk:j<k)(h:p l[j]=true):(l.take k).any p=true :=
 List.any_eq_true.2 ⟨l[j],List.mem_take_iff_getElem.2 ⟨j,by omega,rfl⟩,h⟩
theorem rightIf_ok{x:If}(h:zDj x=true):zAb x.len 0 32=true∧zAb x.vlan 0 4094=true∧zAb x.side 0 2=true∧((x.len=0∧x.addr=0∧x.vlan=0∧x.side=0∧x.ls=false∧x.dv=false∧x.inn=[]∧x.out=[])∨(x.len≠0∧x.addr≠0))∧((x.ls=true∧zAb x.area 0 255=true∧zAb x.cost 1 65535=true)∨(x.ls=false∧x.area=0∧x.cost=0)):=by
 unfold zDj at h;simp only[Bool.and_eq_true]at h;obtain⟨⟨⟨⟨⟨h1,h2⟩,h3⟩,h4⟩,h5⟩,h6⟩:=h;refine⟨h1,h2,h3,?_,?_⟩
 ·by_cases h0:x.len=0
  ·rw[h0]at h4
   simp at h4;obtain⟨a1,a2,a3,a4,a5,a6,a7⟩:x.addr=0∧x.vlan=0∧x.side=0∧x.ls=false∧x.dv=false∧x.inn=[]∧x.out=[]:=by simp_all
   exact .inl ⟨h0,a1,a2,a3,a4,a5,a6,a7⟩
  ·refine .inr ⟨h0,fun ha=>?_⟩
   rw[ha]at h5;simp[h0]at h5
 ·cases hl:x.ls with
  |true=>
   rw[hl]at h6;simp only[if_true,Bool.and_eq_true]at h6;exact .inl ⟨rfl,h6⟩
  |false=>
   rw[hl]at h6;simp at h6;exact .inr ⟨rfl,h6⟩
def NZ(n:Int):Prop:=(n==0)=false∧(n != 0)=true
theorem nzI{n:Int}(h:n≠0):NZ n:=by simp[NZ,h]
theorem if_ways{x:If}(h:zDj x=false):zAb x.len 0 32=false∨(zAb x.len 0 32=true∧zAb x.vlan 0 4094=false)∨(zAb x.len 0 32=true∧zAb x.vlan 0 4094=true∧zAb x.side 0 2=false)∨(zAb x.len 0 32=true∧zAb x.vlan 0 4094=true∧zAb x.side 0 2=true ∧
  ((x.len=0∧(NZ (x.addr:Int)∨(x.addr=0∧NZ x.vlan)∨(x.addr=0∧x.vlan=0∧NZ x.side)∨(x.addr=0∧x.vlan=0∧x.side=0∧x.ls=true)∨(x.addr=0∧x.vlan=0∧x.side=0∧x.ls=false∧x.dv=true)∨(x.addr=0∧x.vlan=0∧x.side=0∧x.ls=false∧x.dv=false∧(str x.inn).toList.isEmpty=false)∨(x.addr=0∧x.vlan=0∧x.side=0∧x.ls=false∧x.dv=false∧x.inn=[]∧(str x.out).toList.isEmpty=false)))∨(NZ x.len∧x.addr=0) ∨
  (((x.len=0∧x.addr=0∧x.vlan=0∧x.side=0∧x.ls=false∧x.dv=false∧x.inn=[]∧x.out=[])∨(NZ x.len∧NZ (x.addr:Int)))∧((x.ls=true∧zAb x.area 0 255=false)∨(x.ls=true∧zAb x.area 0 255=true∧zAb x.cost 1 65535=false)∨(x.ls=false∧NZ x.area)∨(x.ls=false∧x.area=0∧NZ x.cost))))):=by
 obtain⟨name,addr,len,vlan,down,ls,area,cost,dv,inn,out,side⟩:=x;unfold zDj at h;dsimp only at h⊢;generalize zAb len 0 32=q1 at h⊢;generalize zAb vlan 0 4094=q2 at h⊢;generalize zAb side 0 2=q3 at h⊢;cases q1 with
 |false=>exact .inl rfl
 |true=>
 cases q2 with
 |false=>exact .inr (.inl ⟨rfl,rfl⟩)
 |true=>
 cases q3 with
 |false=>exact .inr (.inr (.inl ⟨rfl,rfl,rfl⟩))
 |true=>
 refine .inr (.inr (.inr ⟨rfl,rfl,rfl,?_⟩))
 have P:(ls=true∧zAb area 0 255=false)∨(ls=true∧zAb area 0 255=true∧zAb cost 1 65535=false)∨(ls=false∧NZ area)∨(ls=false∧area=0∧NZ cost)∨(if ls then zAb area 0 255&&zAb cost 1 65535 else area==0&&cost==0)=true:=by
  cases ls<;>cases zAb area 0 255<;>cases zAb cost 1 65535<;>simp[NZ]<;>omega
 generalize (if ls then zAb area 0 255&&zAb cost 1 65535 else area==0&&cost==0)=z at h P;by_cases hl:len=0
 ·subst hl
  by_cases ha:addr=0;case neg=>exact .inl ⟨rfl,.inl (nzI (by omega))⟩
  by_cases hv:vlan=0;case neg=>exact .inl ⟨rfl,.inr (.inl ⟨ha,nzI hv⟩)⟩
  by_cases hs:side=0;case neg=>exact .inl ⟨rfl,.inr (.inr (.inl ⟨ha,hv,nzI hs⟩))⟩
  subst ha hv hs;cases ls with
  |true=>exact .inl ⟨rfl,.inr (.inr (.inr (.inl ⟨rfl,rfl,rfl,rfl⟩)))⟩
  |false=>
  cases dv with
  |true=>exact .inl ⟨rfl,.inr (.inr (.inr (.inr (.inl ⟨rfl,rfl,rfl,rfl,rfl⟩))))⟩
  |false=>
  cases inn with
  |cons a b=>exact .inl ⟨rfl,.inr (.inr (.inr (.inr (.inr (.inl ⟨rfl,rfl,rfl,rfl,rfl,by rw[zAh];rfl⟩)))))⟩
  |nil=>
  cases out with
  |cons a b=>exact .inl ⟨rfl,.inr (.inr (.inr (.inr (.inr (.inr ⟨rfl,rfl,rfl,rfl,rfl,rfl,by rw[zAh];rfl⟩)))))⟩
  |nil=>
   refine .inr (.inr ⟨.inl ⟨rfl,rfl,rfl,rfl,rfl,rfl,rfl,rfl⟩,?_⟩);rcases P with P|P|P|P|P
   ·exact .inl P
   ·exact .inr (.inl P)
   ·exact .inr (.inr (.inl P))
   ·exact .inr (.inr (.inr P))
   ·rw[P]at h;simp at h
 ·by_cases ha:addr=0
  ·exact .inr (.inl ⟨nzI hl,ha⟩)
  refine .inr (.inr ⟨.inr ⟨nzI hl,nzI (by omega)⟩,?_⟩);rcases P with P|P|P|P|P
  ·exact .inl P
  ·exact .inr (.inl P)
  ·exact .inr (.inr (.inl P))
  ·exact .inr (.inr (.inr P))
  ·rw[P]at h;simp[hl,ha]at h
theorem rinterfaces_all(l:List If)(v:Value)(w:World)(B:Nat)(hB:B≤w.heap.size)(hl:SlV w B 12 If.C v l)(hf:∀x∈l,x.fit):Calls Tryz.prog 52 #[v] w fun e w' => e=.returned (.int .i64 (ifsE l))∧Below w.heap.size w w' := by
 have HBB:=hid hB;have HF:=hid hf;have HS:=hid hl;have HWI:=hid zCo;obtain⟨A,c,rfl,-⟩:=hl;have HB:=hid (Below.refl w.heap.size w);obtain⟨res,hres⟩:∃res,ifsE l=res:=⟨_,rfl⟩;rw[hres];clear hf;by_cases h8:8<l.length
 ·have E:Hid (res=7):=hid (by rw[←hres];exact if_pos h8)
  have d8:(8:Int)<(l.length:Int):=by omega
  clear hres;go_enter Tryz.func52,Tryz.ntmps52;go_wp2;go_ret;exact⟨zAc E.out.symm,HB.out⟩
 have d8:¬((8:Int)<(l.length:Int)):=by omega
 have E:Hid (ifsGo l l 0=res):=hid (by rw[←hres];exact(if_neg h8).symm);clear hres;go_enter Tryz.func52,Tryz.ntmps52;go_wp2_with fail;clear d8;go_loopg [3] l.length (fun gh ix wr=>∃k:Nat,k+gh=l.length∧ix=.int .i64 k∧Hid (Below w.heap.size w wr)∧Hid (ifsGo l (l.drop k) k=res));case atStart=>exact⟨0,by omega,rfl,HB,E⟩
 case round=>
  clear HB E;obtain⟨k,hk,rfl,HB,HG⟩:=hrel;by_cases hlt:k<l.length;case neg=>
   have hkz:¬((k:Int)<(l.length:Int)):=by omega
   have E:=hid (ifsGo_end hlt HG.out);go_wp2;go_ret;exact⟨zAc E.out.symm,HB.out⟩
  have hkz:(k:Int)<(l.length:Int):=by omega
  have HAT:=hid (ifsGo_at hlt HG.out);clear HG;obtain⟨g,o,c', e',-,hg,R0⟩:=HS.out.elem (n:=12) (by decide) (fun _=>rfl) hlt;injection e' with e1 e2 e3
  subst e1 e3;have r1:=hid (zAg R0 (HB.out.mono HBB.out) hg);have FX:=hid (HF.out _ (List.getElem_mem hlt));clear R0 e2;obtain⟨x,hxk⟩:∃x,x=l[k]:=⟨_,rfl⟩;rw[←hxk]at HAT r1 FX;have HXK:=hid hxk;clear hxk;go_upto_region 7 with(first|(refine zAa rfl 72 _ rfl rfl r1.out Tryz.rowIf Tryz.sizeIf ?_)|(refine zAd rfl 72 _ _ rfl rfl rfl (HasC.new wr _ _) rfl Tryz.sizeIf (If.one x) ?_;intro w5 hz1 hz2))
  have H5:Hid (Below w.heap.size w w5):=hid (HB.out.trans ((zAi hz2).mono HB.out.size));have X5:=hz1;clear hz1 hz2 r1 HB;generalize wr.heap.size=gx at X5⊢;replace X5:=hid X5;have x0:w5.cell? ⟨gx,0,none⟩=some (.string (str x.name)):=X5.out.cell 0;go_wp2_with fail;refine(rnameL x.name w5).mono ?_;rintro e w' ⟨rfl,rfl⟩;cases hn:nameB x.name with
  |false=>
   have E:Hid (res=3):=hid (by rw[HAT.out,hn];rfl);go_wp2;go_ret;exact⟨zAc E.out.symm,H5.out⟩
  |true=>
  have HT:=hid (show res=if idxF (fun y=>y.name==x.name) l 0<k then 4 else if !zDj x then 1 else if(l.take k).any (zDm x)then 6 else ifsGo l (l.drop (k+1)) (k+1) by rw[HAT.out,hn];rfl);clear HAT hn;go_wp2_with fail;clear x0;go_loopg [5] k (fun gh ix wq=>∃j:Nat,j+gh=k∧ix=.int .i64 j∧Hid (Below w.heap.size w wq)∧Hid (HasC 72 gx x.C wq)∧Hid (∀i (hi:i<l.length),i<j→(l[i].name==x.name)=false));case atStart=>exact⟨0,by omega,rfl,H5,X5,hid fun _ _ h=>absurd h (Nat.not_lt_zero _)⟩
  case round=>
   clear H5 X5;obtain⟨j,hj,rfl,HQ,XQ,HN⟩:=hrel;by_cases hjl:j<k;case pos=>
    have hjn:j<l.length:=by omega
    have hjz:(j:Int)<(k:Int):=by omega
    obtain⟨g', o', c'', e',-,hg', R0⟩:=HS.out.elem (n:=12) (by decide) (fun _=>rfl) hjn;injection e' with e1 e2 e3
    injection e1 with e1
    injection e1 with e1 e4
    subst e1 e4;have y0:wr.cell? ⟨g,o+j*12,none⟩=some (.string (str l[j].name)):=zAg R0 (HQ.out.mono HBB.out) hg' 0 _ rfl;have x0:wr.cell? ⟨gx,0,none⟩=some (.string (str x.name)):=XQ.out.cell 0;have hjm:(j:Int)<(l.length:Int):=by omega
    clear R0 e2 e3;have HB2:=hid (HQ.out.trans ((zAo wr).mono HQ.out.size));cases hs0:(l[j].name==x.name)with
    |true=>
     have E:Hid (res=4):=hid (by rw[HT.out,if_pos (zMz (p:=fun y:If=>y.name==x.name) hjn hs0 hjl)]);have hs:((str l[j].name).toList==(str x.name).toList)=true:=by rw[zAh,zAh];exact hs0
     clear hs0;generalize l[j].name=nm at y0 hs;go_wp2_with fail;go_still (by kernel_rfl);go_wp2;go_ret;exact⟨zAc E.out.symm,HB2.out⟩
    |false=>
    have HN2:Hid (∀i (hi:i<l.length),i<j+1→(l[i].name==x.name)=false):=hid fun i hi h=>by
     rcases Nat.lt_or_ge i j with h1|h1
     ·exact HN.out i hi h1
     ·obtain rfl:i=j:=by omega
      exact hs0
    have hs:((str l[j].name).toList==(str x.name).toList)=false:=by rw[zAh,zAh];exact hs0
    clear hs0 HN;generalize l[j].name=nm at y0 hs;go_wp2_with fail;go_still (by kernel_rfl);go_wp2;go_roundg (k - (j+1));case measure=>omega
    case rel=>exact⟨j+1,by omega,by go_num,HB2,hid (XQ.out.keep (zAo wr)),HN2⟩
   have hjz:¬((j:Int)<(k:Int)):=by omega
   obtain rfl:j=k:=by omega
   have HT2:=hid (show res=if !zDj x then 1 else if(l.take j).any (zDm x)then 6 else ifsGo l (l.drop (j+1)) (j+1) by rw[HT.out,if_neg (zNb (p:=fun y:If=>y.name==x.name) hlt HN.out (by show(l[j].name==x.name)=true;rw[←HXK.out];simp))]);clear HT HN HXK;obtain⟨name,addr,len,vlan,down,ls,area,cost,dv,inn,out,side⟩:=x;obtain⟨-,x1,x2,x3,-,x5,x6,x7,x8⟩:=bl9 XQ.out;have x9:wr.cell? ⟨gx,9,none⟩=some (.string (str inn)):=XQ.out.cell 9;have x10:wr.cell? ⟨gx,10,none⟩=some (.string (str out)):=XQ.out.cell 10;have x11:wr.cell? ⟨gx,11,none⟩=some (.int .i64 side):=XQ.out.cell 11;have CX:Hid (∀W,HasC 72 gx (If.C ⟨name,addr,len,vlan,down,ls,area,cost,dv,inn,out,side⟩) W→W.cell? ⟨gx,1,none⟩=some (.int .u32 (addr:Int))∧W.cell? ⟨gx,2,none⟩=some (.int .i64 len)):=hid (fun W h=>⟨h.cell 1,h.cell 2⟩);generalize hcs:If.C ⟨name,addr,len,vlan,down,ls,area,cost,dv,inn,out,side⟩=cs at XQ CX;cases hr:zDj ⟨name,addr,len,vlan,down,ls,area,cost,dv,inn,out,side⟩with
   |false=>
    have E:Hid (res=1):=hid (by rw[HT2.out,hr];rfl);have HW:=hid (if_ways hr);clear HT2 hr CX;have tn:=zAh ([]:List UInt8);have Q:=HW.out;unfold NZ at Q;dsimp only at Q;clear HW;have WARM:True:=trivial;rcases Q with q1|⟨q1,q2⟩|⟨q1,q2,q3⟩|⟨q1,q2,q3,(⟨rfl,(⟨a0,a1⟩|⟨rfl,a0,a1⟩|⟨rfl,rfl,a0,a1⟩|⟨rfl,rfl,rfl,rfl⟩|⟨rfl,rfl,rfl,rfl,rfl⟩|⟨rfl,rfl,rfl,rfl,rfl,a0⟩|⟨rfl,rfl,rfl,rfl,rfl,rfl,a0⟩)⟩|⟨⟨l0,l1⟩,rfl⟩|⟨(⟨rfl,rfl,rfl,rfl,rfl,rfl,rfl,rfl⟩|⟨⟨l0,l1⟩,a0,a1⟩),(⟨q5,q6⟩|⟨q5,q6,q7⟩|⟨q5,q6,q7⟩|⟨q5,rfl,q6,q7⟩)⟩)⟩
    all_goals
     first
      |(exfalso;cases q5;done)
      | ((try subst q5)
         go_wp2_with (go_at_call 51;refine(HWI.out _ _ _ _).mono ?_;rintro e w' ⟨rfl,rfl⟩);go_ret
         exact⟨zAc E.out.symm,HQ.out⟩)
   |true=>
   obtain⟨xx,hxx⟩:∃xx,xx=(⟨name,addr,len,vlan,down,ls,area,cost,dv,inn,out,side⟩:If):=⟨_,rfl⟩;have HT3:=hid (show res=if(l.take j).any (zDm xx)then 6 else ifsGo l (l.drop (j+1)) (j+1) by rw[HT2.out,hr,hxx];rfl);have HCL:Hid (∀y,zDm xx y=(!(len==0) && !(y.len==0)&&overP (addr / sz len*sz len) (zBe len) (y.addr / sz y.len*sz y.len) (zBe y.len))):=hid fun y=>by rw[hxx];rfl
   clear HT2 hxx;obtain⟨q1,q2,q3,q4,q5⟩:=rightIf_ok hr;clear hr;dsimp only at q1 q2 q3 q4 q5;have WARM:True:=trivial;rcases q4 with⟨e1,e2,e3,e4,e5,e6,e7,e8⟩|⟨l0,a0⟩
   case' inl=>
    have tn:=zAh ([]:List UInt8);rw[e1]at x2 q1;rw[e2]at x1;rw[e3]at x3 q2;rw[e4]at x11 q3;rw[e6]at x8;rw[e7]at x9;rw[e8]at x10;replace q5:=q5.resolve_left (fun z=>by rw[e5]at z;cases z.1);obtain⟨z1,z2,z3⟩:=q5;rw[e5]at x5;rw[z2]at x6;rw[z3]at x7;clear e1 e2 e3 e4 e5 e6 e7 e8 z1 z2 z3;go_wp2_with (go_at_call 51;refine(HWI.out _ _ _ _).mono ?_;rintro e w' ⟨rfl,rfl⟩)
   case' inr=>
    have l1:(len==0)=false:=by simpa using l0
    have l2:(len != 0)=true:=by simpa using l0
    have a1:((addr:Int)==0)=false:=by simp;omega
    rcases q5 with⟨rfl,z2,z3⟩|⟨rfl,rfl,rfl⟩
    all_goals go_wp2_with (go_at_call 51;refine(HWI.out _ _ _ _).mono ?_;rintro e w' ⟨rfl,rfl⟩)
   all_goals
    have HZ:=HQ;have XZ:=XQ;clear HQ XQ x1 x2 x3 x5 x6 x7 x8 x9 x10 x11 q1 q2 q3 WARM;generalize j=k at *;go_loopg [6] k (fun gh ix wq=>∃j:Nat,j+gh=k∧ix=.int .i64 j∧Hid (Below w.heap.size w wq)∧Hid (HasC 72 gx cs wq)∧Hid (∀i (hi:i<l.length),i<j→zDm xx l[i]=false));case atStart=>exact⟨0,by omega,rfl,HZ,XZ,hid fun _ _ h=>absurd h (Nat.not_lt_zero _)⟩
    case round=>
     clear HZ XZ;obtain⟨j,hj,rfl,HQ,XQ,HN⟩:=hrel;by_cases hjl:j<k;case neg=>
      have hjz:¬((j:Int)<(k:Int)):=by omega
      obtain rfl:j=k:=by omega
      have EN:Hid (ifsGo l (l.drop (j+1)) (j+1)=res):=hid (by rw[HT3.out,zHe (by omega) HN.out];rfl);go_wp2;go_roundg (l.length - (j+1));case measure=>omega
      case rel=>exact⟨j+1,by omega,by go_num,HQ,EN⟩
     have hjn:j<l.length:=by omega
     have hjz:(j:Int)<(k:Int):=by omega
     have hjm:(j:Int)<(l.length:Int):=by omega
     obtain⟨g', o', c'', e',-,hg', R0⟩:=HS.out.elem (n:=12) (by decide) (fun _=>rfl) hjn;injection e' with e1 e2 e3
     injection e1 with e1
     injection e1 with e1 e4
     subst e1 e4;have FY:=hid (HF.out _ (List.getElem_mem hjn));have NC:Hid (zDm xx l[j]=true→res=6):=hid fun h=>by rw[HT3.out,zHi hjn hjl h];rfl
     have NN:Hid (zDm xx l[j]=false→∀i (hi:i<l.length),i<j+1→zDm xx l[i]=false):=hid fun h i hi hlt=>by
      rcases Nat.lt_or_ge i j with h1|h1
      ·exact HN.out i hi h1
      ·obtain rfl:i=j:=by omega
       exact h
     clear HN;have YA:Hid (∀W,Below w.heap.size w W→W.cell? ⟨g,o+j*12+1,none⟩=some (.int .u32 (l[j].addr:Int))∧W.cell? ⟨g,o+j*12+2,none⟩=some (.int .i64 l[j].len)):=hid (fun W h=>have q:=zAg R0 (h.mono HBB.out) hg';⟨q 1 _ rfl,q 2 _ rfl⟩);clear R0 e2 e3;generalize l[j]=y at FY NC NN YA;obtain⟨yname,ya,yl,yvlan,ydown,yls,yarea,ycost,ydv,yinn,yout,yside⟩:=y;have FYA:Hid (ya<4294967296):=hid FY.out;dsimp only at YA;clear FY;have PX:=hid (fun W=>zLz addr len W FX.out);have PY:=hid (fun W=>zLz ya yl W FYA.out);have PO:=hid (fun W=>zKx (addr / sz len*sz len) (zBe len) (ya / sz yl*sz yl) (zBe yl) W (net_lt FX.out) (net_lt FYA.out));unfold PV at PX PY PO;have CB:=HCL.out ⟨yname,ya,yl,yvlan,ydown,yls,yarea,ycost,ydv,yinn,yout,yside⟩;dsimp only at CB
     have NE2:(len=0∧Hid (zDm xx ⟨yname,ya,yl,yvlan,ydown,yls,yarea,ycost,ydv,yinn,yout,yside⟩=false))∨((len==0)=false∧(len != 0)=true∧yl=0∧Hid (zDm xx ⟨yname,ya,yl,yvlan,ydown,yls,yarea,ycost,ydv,yinn,yout,yside⟩=false))∨((len==0)=false∧(len != 0)=true∧(yl==0)=false∧(yl != 0)=true∧overP (addr / sz len*sz len) (zBe len) (ya / sz yl*sz yl) (zBe yl)=false∧Hid (zDm xx ⟨yname,ya,yl,yvlan,ydown,yls,yarea,ycost,ydv,yinn,yout,yside⟩=false))∨((len==0)=false∧(len != 0)=true∧(yl==0)=false∧(yl != 0)=true∧overP (addr / sz len*sz len) (zBe len) (ya / sz yl*sz yl) (zBe yl)=true∧Hid (zDm xx ⟨yname,ya,yl,yvlan,ydown,yls,yarea,ycost,ydv,yinn,yout,yside⟩=true)):=by
      by_cases h1:len=0
      ·exact .inl ⟨h1,hid (by rw[CB,h1];rfl)⟩
      by_cases h2:yl=0
      ·exact .inr (.inl ⟨by simpa using h1,by simpa using h1,h2,hid (by rw[CB,h2];simp)⟩)
      have h1' : (len==0)=false:=by simpa using h1
      have h2' : (yl==0)=false:=by simpa using h2
      rw[h1', h2']at CB;cases ho:overP (addr / sz len*sz len) (zBe len) (ya / sz yl*sz yl) (zBe yl)with
      |false=>exact .inr (.inr (.inl ⟨h1', by simpa using h1,h2', by simpa using h2,rfl,hid (by rw[CB,ho];rfl)⟩))
      |true=>exact .inr (.inr (.inr ⟨h1', by simpa using h1,h2', by simpa using h2,rfl,hid (by rw[CB,ho];rfl)⟩))
     clear CB HCL;have NC2:=hid NC.out;clear HT3;go_wp2_with fail;refine zBf (fun W=>Below w.heap.size w W∧HasC 72 gx cs W) (by kernel_rfl) (by kernel_rfl) ⟨HQ.out.trans ((zAo wr).mono HQ.out.size),XQ.out.keep (zAo wr)⟩ ?_;generalize hyy:(⟨yname,ya,yl,yvlan,ydown,yls,yarea,ycost,ydv,yinn,yout,yside⟩:If)=yy at NC NC2 NN NE2;clear hyy;rcases NE2 with⟨rfl,HC⟩|⟨n1,n1', rfl,HC⟩|⟨n1,n1', n2,n2', n3,HC⟩|⟨n1,n1', n2,n2', n3,HC⟩
     all_goals
      repeat
       (first
        |(refine zKf ?_ ?_;(· rfl))
        |(refine zCk (v:=?_) ?_ ?_ ?_;rotate_left;(· rfl);(· (intro W hW;obtain⟨y1,y2⟩:=YA.out W hW.1;obtain⟨x1,x2⟩:=CX.out W hW.2;go_simp<;>rfl)))
        |(refine zBp ?_ ?_ (fun W hW=>(PX.out W).mono fun e w' ⟨he,hb⟩=>⟨he,hW.1.trans (hb.mono hW.1.size),hW.2.keep hb⟩) ?_;(· rfl);(· (intro W hW;go_simp<;>rfl)))
        |(refine zBp ?_ ?_ (fun W hW=>(PY.out W).mono fun e w' ⟨he,hb⟩=>⟨he,hW.1.trans (hb.mono hW.1.size),hW.2.keep hb⟩) ?_;(· rfl);(· (intro W hW;go_simp<;>rfl)))
        |(refine zBp ?_ ?_ (fun W hW=>(PO.out W).mono fun e w' ⟨he,hb⟩=>⟨he,hW.1.trans (hb.mono hW.1.size),hW.2.keep hb⟩) ?_;(· rfl);(· (intro W hW;go_simp<;>rfl))))
       simp only[Act.put,yB,yC,yD]
      refine zDn (fun wq hS=>?_);obtain⟨hs1,hs2⟩:=hS;have HS1:=hid hs1;have HS2:=hid hs2;clear hs1 hs2 YA PX PY PO HQ XQ;go_wp2_with fail
      first
       | (go_ret
          exact⟨zAc (NC.out HC.out).symm,HS1.out⟩)
       | (go_roundg (k - (j + 1))
          case measure=>omega
          case rel=>exact⟨j+1,by omega,by go_num,HS1,HS2,hid (NN.out HC.out)⟩)
theorem rports_any(lo hi:Int)(w:World):Calls Tryz.prog 195 #[.agg #[.int .i64 lo,.int .i64 hi]] w fun e w' => e=.returned (.bool (zFf lo hi))∧Below w.heap.size w w' := by
 have B0:=hid (fun o=>(Below.refl w.heap.size w).alloc (yI _) o);have E:Hid (zFf lo hi=(decide (0≤lo)&&decide (lo≤hi)&&decide (hi≤65535))):=hid rfl;generalize zFf lo hi=res at E⊢;cases h1:decide (0≤lo)<;>cases h2:decide (lo≤hi)<;>cases h3:decide (hi≤65535)
 all_goals
  rw[h1,h2,h3]at E;go_enter Tryz.func195,Tryz.ntmps195;go_wp2_with fail
  all_goals (go_ret;exact⟨zAe E.out.symm,B0.out _⟩)
theorem rall_any(lo hi:Int)(w:World):Calls Tryz.prog 196 #[.agg #[.int .i64 lo,.int .i64 hi]] w fun e w' => e=.returned (.bool (allP lo hi))∧Below w.heap.size w w' := by
 have B0:=hid (fun o=>(Below.refl w.heap.size w).alloc (yI _) o);have r1:∀w,(binOp .eql 142 (.agg #[.int .i64 lo,.int .i64 hi]) (.agg #[.int .i64 0,.int .i64 65535])).run Tryz.prog w=.ok (.bool (allP lo hi)) w:=fun w=>rng_eqlP lo hi w
 have g:=Tryz.rngGuard;go_enter Tryz.func196,Tryz.ntmps196;go_wp2;go_ret;exact⟨rfl,B0.out _⟩
theorem rvpr_any(x:PRule)(hx:x.pa<4294967296)(w:World):Calls Tryz.prog 123 #[.agg x.C] w fun e w' => e=.returned (.bool (zFa x))∧Below w.heap.size w w' := by
 have HV:=hid (fun W=>zFe x.pa x.pl W hx);have H0:=hid (HasC.new w 136 x.C);have B0:=hid ((Below.refl w.heap.size w).alloc (yI _) (.cells x.C 136));have E:Hid (zFa x=(zAv x.pa x.pl&&decide (x.pl≤x.min)&&decide (x.min≤x.max)&&decide (x.max≤32))):=hid (by unfold zFa;simp only[←Int.not_lt,decide_not]);generalize zFa x=res at E⊢;clear hx;obtain⟨permit,pa,pl,min,max⟩:=x;dsimp only at *;go_enter Tryz.func123,Tryz.ntmps123;go_upto_region 1 with(fail)
 change Code.wp _ _ _ _ (w.alloc (.cells _ 136));generalize w.alloc (.cells _ 136)=wA at H0 B0⊢;obtain⟨-,c1,c2⟩:=bl3 H0.out;go_wp2_with fail;refine(HV.out _).mono ?_;rintro e w1 ⟨rfl,hb⟩;have H1:=hid (H0.out.keep hb);have B1:=hid (B0.out.trans (hb.mono B0.out.size));obtain⟨-,-,d2,d3,d4⟩:=bl5 H1.out;clear hb c1 c2 H0 B0;cases h1:zAv pa pl<;>cases h2:decide (pl≤min)<;>cases h3:decide (min≤max)<;>cases h4:decide (max≤32)
 all_goals
  rw[h1,h2,h3,h4]at E;go_wp2_with fail
  all_goals (go_ret;exact⟨zAe E.out.symm,B1.out⟩)
theorem raddress_any(r:Rt)(a:Nat)(w:World)(B:Nat)(h:r.at w B)(hB:B≤w.heap.size):Calls Tryz.prog 128 #[.agg r.C,.int .u32 (a:Int)] w fun e w' => e=.returned (.int .i64 (idxF (hasA a) r.ifs 0))∧Below w.heap.size w w' := by
 have HS:=h.hifs;obtain⟨A,c,hv,hle,-⟩:=h.hifs;have H0:=hid (HasC.new w 41 r.C);have B0:Below w.heap.size w (w.alloc (.cells r.C 41)):=(Below.refl _ w).alloc (yI _) _;have HV:=hid hv;have c2:=cl2 H0.out;rw[hv]at c2;have SV:=hid (HS.below (B0.mono hB));have hlm:r.ifs.length≤9223372036854775807:=by have:=SV.out.len;simp only[maxLen]at this;omega
 clear HS;generalize r.ifs=l at *;obtain⟨R,hR⟩:∃R,idxF (hasA a) l 0=R:=⟨_,rfl⟩;rw[hR];have E:=hid hR;have B0:=hid B0;clear h hB hv hR;go_enter Tryz.func128,Tryz.ntmps128;go_upto_region 1 with(fail)
 change Code.wp _ _ _ _ (w.alloc (.cells r.C 41));generalize w.alloc (.cells r.C 41)=wA at H0 B0 SV c2⊢;go_wp2;go_loopg [5] l.length (fun gh ix wr=>wr=wA∧∃k:Nat,k+gh=l.length∧ix=.int .i64 k∧Hid (idxF (hasA a) (l.drop k) k=R));case atStart=>exact⟨rfl,0,by omega,rfl,E⟩
 case round=>
  obtain⟨rfl,k,hk,rfl,E⟩:=hrel;by_cases hlt:k<l.length
  ·have E2:=hid (idxF_at hlt E.out)
   obtain⟨g,o,c', e',-,hg,R0⟩:=SV.out.elem (n:=12) (by decide) (fun _=>rfl) hlt;rw[HV.out]at e';injection e' with e1 e2 e3
   subst e1 e3;have c4:=R0 2 _ rfl;have c5:=R0 1 _ rfl;generalize l[k]=x at E2 R0 c4 c5;clear R0 E e2;have hlz:(k:Int)<(l.length:Int):=by omega
   have HA:Hid (hasA a x=(!(x.len==0)&&x.addr==a)):=hid rfl;cases h1:(x.len != 0)<;>cases h2:((x.addr:Int)==(a:Int))
   all_goals
    have h3:(x.len==0) = !(x.len != 0):=by simp[bne]
    have h4:(x.addr==a)=((x.addr:Int)==(a:Int)):=by rw[Bool.eq_iff_iff];simp only[beq_iff_eq];exact Int.ofNat_inj.symm
    rw[h1]at h3;rw[h2]at h4;have HA2:Hid (hasA a x=_):=hid (HA.out.trans (by rw[h3,h4]));clear HA h3 h4;go_wp2_with fail
    first
     | (go_roundg (l.length - (k + 1))
        case measure=>omega
        case rel=>exact⟨rfl,k+1,by omega,by go_num,hid (by rw[E2.out,HA2.out];rfl)⟩)
     |(go_ret;exact⟨zAc (by rw[E2.out,HA2.out];rfl),B0.out⟩)
  ·have hlz:¬(k:Int)<(l.length:Int):=by omega
   have E2:=hid (idxF_end hlt E.out);go_wp2;go_ret;exact⟨zAc E2.out.symm,B0.out⟩
end Go.Proofs.YtdlgnhefpoalnaaGreatDoor
