/- Alpha's Format: the walk of path. Conditions: the text is at most 2^47 bytes; Go's own tables lie below it. -/
import Derived.Test.YthcnojmldldpeaaGreatDoorGai
namespace Go.Proofs.YthcnojmldldpeaaGreatDoor
open Lib (hid)
open Go.RowKit
set_option maxRecDepth 100000 in
set_option maxHeartbeats 8000000 in
theorem apv_any(g:Nat)(s:List UInt8)(r:Rt)(w:World)(B:Nat)(h:TA g s w)(he:EnvA g w)(hB:B≤g)(hv0:SlV w B 4 Nb.C r.nbV r.nb)(hv1:SlV w B 2 Pf.C r.netV r.net)(hv2:SlV w B 3 Ag.C r.agV r.ag)(hv3:SlV w B 5 Cd.C r.cdV r.cd)(hv4:SlV w B 5 Rd.C r.pvRedV r.pvRed)(hx:r.pvOn=true→(1≤r.ext∧r.ext≤255)∧(1≤r.int∧r.int≤255)∧(∀x∈r.nb,(1≤x.asn∧x.asn≤65535)∧x.fit)∧(∀x∈r.net,zAv x.pa x.pl=true∧x.fit)∧(∀x∈r.ag,zAv x.pa x.pl=true∧x.fit)∧(∀x∈r.cd,zAv x.pa x.pl=true∧zAv x.ia x.il=true∧x.fit)∧∀x∈r.pvRed,okRd x)(hl:(s++textA (pvA r)).length≤140737488355328) :
  Calls Tryz.prog 16 #[.pointer (some ⟨g,0,none⟩),.agg #[.bool r.pvOn,.int .i64 r.ext,.int .i64 r.int,r.nbV,r.netV,r.agV,r.cdV,r.pvRedV]] w (AP g s (textA (pvA r)) w):=by
 have HV0:=hid hv0;have hn0:r.nb.length≤9223372036854775807:=by have:=hv0.len;unfold maxLen at this;omega
 obtain⟨A0,c0,hve0,-,-⟩:=hv0;have HV1:=hid hv1;have hn1:r.net.length≤9223372036854775807:=by have:=hv1.len;unfold maxLen at this;omega
 obtain⟨A1,c1,hve1,-,-⟩:=hv1;have HV2:=hid hv2;have hn2:r.ag.length≤9223372036854775807:=by have:=hv2.len;unfold maxLen at this;omega
 obtain⟨A2,c2,hve2,-,-⟩:=hv2;have HV3:=hid hv3;have hn3:r.cd.length≤9223372036854775807:=by have:=hv3.len;unfold maxLen at this;omega
 obtain⟨A3,c3,hve3,-,-⟩:=hv3;have HV4:=hid hv4;have hn4:r.pvRed.length≤9223372036854775807:=by have:=hv4.len;unfold maxLen at this;omega
 obtain⟨A4,c4,hve4,-,-⟩:=hv4;rw[hve0,hve1,hve2,hve3,hve4];rw[hve0]at HV0;clear hve0;rw[hve1]at HV1;clear hve1;rw[hve2]at HV2;clear hve2;rw[hve3]at HV3;clear hve3;rw[hve4]at HV4;clear hve4;have hg:=hid h.lt;have HEA:Hid (∀W,FK g w W→EnvA g W):=hid fun W hk=>he.keep (hk.below (Nat.le_of_lt hg.out))
 have HE:Hid (∀W,FK g w W→Env W):=hid fun W hk=>(HEA.out W hk).1
 replace hB:=hid hB;cases ho:r.pvOn with
 |false=>
  have H:=hid ((XL.start h).new (T:=39) (cs:=#[.bool false,.int .i64 r.ext,.int .i64 r.int,.slice A0 r.nb.length c0,.slice A1 r.net.length c1,.slice A2 r.ag.length c2,.slice A3 r.cd.length c3,.slice A4 r.pvRed.length c4]) (by decide));clear h he hx;go_enter Tryz.func16,Tryz.ntmps16;go_wp2_with fail;go_end0;exact⟨rfl,by rw[show textA (pvA r)=[]from zAn ho,List.append_nil];exact H.out.t,H.out.k⟩
 |true=>
 have HX:=hid (hx ho);have EL:Hid (textA (pvA r)=lnW (false,[[114,111,117,116,101,114],[112,118]])++(lnW (true,[[100,105,115,116,97,110,99,101],[101,120,116,101,114,110,97,108],decI r.ext])++(lnW (true,[[100,105,115,116,97,110,99,101],[105,110,116,101,114,110,97,108],decI r.int])++(textA (nthL (fun _ x=>[nbA x]) 0 r.nb)++(textA (nthL (fun _ p=>[(true,[[110,101,116,119,111,114,107],pfxF p.pa p.pl])]) 0 r.net)++(textA (nthL (fun _ x=>[agA x]) 0 r.ag)++(textA (nthL (fun _ x=>[cdA x]) 0 r.cd)++textA (nthL (fun _ x=>[rdA x]) 0 r.pvRed)))))))):=hid (by rw[show pvA r=optL r.pvOn _ from rfl,ho];simp only[optL,if_true,zDn,zAk,zBy _ _ 0]);rw[EL.out]at hl;have HL:=hid hl;have H:=hid ((XL.start h).new (T:=39) (cs:=#[.bool true,.int .i64 r.ext,.int .i64 r.int,.slice A0 r.nb.length c0,.slice A1 r.net.length c1,.slice A2 r.ag.length c2,.slice A3 r.cd.length c3,.slice A4 r.pvRed.length c4]) (by decide));clear hl h he hx ho;go_enter Tryz.func16,Tryz.ntmps16;go_upto_region 1 with fail
 generalize w.alloc (.cells #[.bool true,.int .i64 r.ext,.int .i64 r.int,.slice A0 r.nb.length c0,.slice A1 r.net.length c1,.slice A2 r.ag.length c2,.slice A3 r.cd.length c3,.slice A4 r.pvRed.length c4] 39)=wc at H⊢;generalize w.heap.size=gy at H⊢;obtain⟨cl,hcl⟩:∃cl,cl=(#[.bool true,.int .i64 r.ext,.int .i64 r.int,.slice A0 r.nb.length c0,.slice A1 r.net.length c1,.slice A2 r.ag.length c2,.slice A3 r.cd.length c3,.slice A4 r.pvRed.length c4]:Array Value):=⟨_,rfl⟩;rw[←hcl]at H;have C0:Hid (cl[0]? = some (.bool true)):=hid (by rw[hcl];rfl);have C1:Hid (cl[1]? = some (.int .i64 r.ext)):=hid (by rw[hcl];rfl);have C2:Hid (cl[2]? = some (.int .i64 r.int)):=hid (by rw[hcl];rfl);have C3:Hid (cl[3]? = some (.slice A0 r.nb.length c0)):=hid (by rw[hcl];rfl);have C4:Hid (cl[4]? = some (.slice A1 r.net.length c1)):=hid (by rw[hcl];rfl);have C5:Hid (cl[5]? = some (.slice A2 r.ag.length c2)):=hid (by rw[hcl];rfl);have C6:Hid (cl[6]? = some (.slice A3 r.cd.length c3)):=hid (by rw[hcl];rfl);have C7:Hid (cl[7]? = some (.slice A4 r.pvRed.length c4)):=hid (by rw[hcl];rfl);clear hcl;obtain⟨k1,k2,hn,ht,ha,hc,hd⟩:=HX.out;replace hn:=hid hn;replace ht:=hid ht;replace ha:=hid ha;replace hc:=hid hc;replace hd:=hid hd;clear HX;have c0:wc.cell? ⟨gy,0,none⟩=some (.bool true):=(H.out.a.cell 0).trans C0.out;go_wp2_with fail;refine(zBk H.out false [[114,111,117,116,101,114],[112,118]] (by simp) (by have:=HL.out;simp only[List.length_append]at this⊢;omega)).mono ?_;rintro e w5 ⟨rfl,h2⟩;have H5:=hid h2;clear h2 H;clear c0;have c1:w5.cell? ⟨gy,1,none⟩=some (.int .i64 r.ext):=(H5.out.a.cell 1).trans C1.out;go_wp2_with fail;refine(zBn r.ext (by omega) (by omega) _ (HE.out _ H5.out.k)).mono ?_;rintro e w1 ⟨rfl,hb⟩;have H1:=hid (H5.out.below hb);clear hb;go_wp2_with fail;refine(zBk H1.out true [[100,105,115,116,97,110,99,101],[101,120,116,101,114,110,97,108],decI r.ext] (by simp) (by have:=HL.out;simp only[List.length_append]at this⊢;omega)).mono ?_;rintro e w6 ⟨rfl,h2⟩;have H6:=hid h2;clear h2 H5 c1 H1;have c2:w6.cell? ⟨gy,2,none⟩=some (.int .i64 r.int):=(H6.out.a.cell 2).trans C2.out;go_wp2_with fail;refine(zBn r.int (by omega) (by omega) _ (HE.out _ H6.out.k)).mono ?_;rintro e w1 ⟨rfl,hb⟩;have H1:=hid (H6.out.below hb);clear hb;go_wp2_with fail;refine(zBk H1.out true [[100,105,115,116,97,110,99,101],[105,110,116,101,114,110,97,108],decI r.int] (by simp) (by have:=HL.out;simp only[List.length_append]at this⊢;omega)).mono ?_;rintro e w7 ⟨rfl,h2⟩;have H7:=hid h2;clear h2 H6 c2 H1;have cc:w7.cell? ⟨gy,3,none⟩=some (.slice A0 r.nb.length c0):=(H7.out.a.cell 3).trans C3.out;go_upto_block 0 with fail
 go_cut [] (fun wx=>XL [(39,gy,cl)] g (s++lnW (false,[[114,111,117,116,101,114],[112,118]])++lnW (true,[[100,105,115,116,97,110,99,101],[101,120,116,101,114,110,97,108],decI r.ext])++lnW (true,[[100,105,115,116,97,110,99,101],[105,110,116,101,114,110,97,108],decI r.int])++textA (nthL (fun _ x=>[nbA x]) 0 r.nb)) w wx)
 case first=>
  go_wp2;go_loopg [36] r.nb.length (fun gh ix wr=>∃k:Nat,k+gh=r.nb.length∧ix=.int .i64 k∧Hid (XL [(39,gy,cl)] g (s++lnW (false,[[114,111,117,116,101,114],[112,118]])++lnW (true,[[100,105,115,116,97,110,99,101],[101,120,116,101,114,110,97,108],decI r.ext])++lnW (true,[[100,105,115,116,97,110,99,101],[105,110,116,101,114,110,97,108],decI r.int])++textA (nthL (fun _ x=>[nbA x]) 0 (r.nb.take k))) w wr));case atStart=>exact⟨0,by omega,rfl,hid (by rw[List.take_zero,nthL,zAz,List.append_nil];exact H7.out)⟩
  case round=>
   obtain⟨k,hk,rfl,HR⟩:=hrel;by_cases hlt:k<r.nb.length;case neg=>
    have hkz:¬((k:Int)<(r.nb.length:Int)):=by omega
    rw[List.take_of_length_le (by omega)]at HR;go_wp2;go_meet;exact HR.out
   have hkz:(k:Int)<(r.nb.length:Int):=by omega
   obtain⟨gr,o,c', e',-,hgr,R0⟩:=SlV.elem (n:=4) (by decide) (fun _=>rfl) HV0.out hlt;injection e' with e1 e2 e3
   subst e1 e3;have r1:=hid (zAf R0 ((HR.out.k.below (Nat.le_of_lt hg.out)).mono hB.out) hgr);clear R0 e2;have HX:=hid (hn.out _ (List.getElem_mem hlt));have ET:=hid (zAy (fun _ x=>[nbA x]) r.nb hlt);have HP:=hid (zBa (fun _ x=>[nbA x]) r.nb hlt);generalize r.nb[k]=x at HX ET HP r1;go_upto_region 8 with(first|(refine zAa rfl 115 _ rfl rfl r1.out Tryz.rowNb Tryz.sizeNb ?_)|(refine zAd rfl 115 _ _ rfl rfl rfl (HasC.new wr _ _) rfl Tryz.sizeNb (Nb.one x) ?_;intro w4 hz1 hz2))
   obtain⟨p,hp⟩:∃zz,zz=s++lnW (false,[[114,111,117,116,101,114],[112,118]])++lnW (true,[[100,105,115,116,97,110,99,101],[101,120,116,101,114,110,97,108],decI r.ext])++lnW (true,[[100,105,115,116,97,110,99,101],[105,110,116,101,114,110,97,108],decI r.int])++textA (nthL (fun _ x=>[nbA x]) 0 (r.nb.take k)):=⟨_,rfl⟩;have H4:Hid (XL ((115,wr.heap.size,x.C) :: [(39,gy,cl)]) g p w w4):=hid (by rw[hp];exact HR.out.put hz1 (zAi hz2) (by decide));have HN:Hid (textA ((fun _ x=>[nbA x]) k x)=lnW (true,(nbA x).2)):=hid (zAx _);have HM:Hid (p.length+(lnW (true,(nbA x).2)).length≤140737488355328):=hid (by rw[←HN.out,hp,List.length_append];have h1:=HL.out;have h2:=HP.out;simp only[List.length_append]at h1⊢;omega);replace hp:=hid hp;clear hz1 hz2 r1 HR HP;generalize wr.heap.size=gx at H4⊢;obtain⟨⟨k3,k4⟩,hf⟩:=HX.out;replace k3:0≤x.asn:=by omega
   replace k4:x.asn≤16777215:=by omega
   have HBX:Hid (∀W,Below w4.heap.size w4 W→Env W):=hid fun W hk=>HE.out _ (H4.out.k.trans (.of_below hk))
   have HY:=hid (YA.one H4.out.a);have HX:Hid (∀W,YA [(115,gx,x.C)] w4 W→W.cell? ⟨gx,0,none⟩=some (.int .u32 (x.addr:Int))∧W.cell? ⟨gx,1,none⟩=some (.int .i64 x.asn)):=hid fun W hW=>⟨hW.a.cell 0,hW.a.cell 1⟩
   refine zEc (fun W=>YA [(115,gx,x.C)] w4 W) 6 (by kernel_rfl) (by kernel_rfl) (HY.out.drew) ?_
   repeat
    (first
     |(refine zCc (v:=?_) ?_ ?_ ?_;rotate_left;(· rfl);(· (intro W hW;obtain⟨c0,c1⟩:=HX.out W hW;go_simp<;>rfl)))
     |(refine zAq ?_ ?_ (fun W hW=>hW.call (zCy x.addr W hf (HBX.out _ hW.b))) ?_;(· rfl);(· (intro W hW;go_simp<;>rfl)))
     |(refine zAq ?_ ?_ (fun W hW=>hW.call (zBn x.asn k3 k4 W (HBX.out _ hW.b))) ?_;(· rfl);(· (intro W hW;go_simp<;>rfl))))
    simp only[Act.put,List.setIfInBounds_toArray,List.set_cons_zero,List.set_cons_succ]
   refine zCn ?_;intro wq hS;change wpList _ _ _ (_ :: _ :: []) _ _;have HS:=hid hS;clear hS HX;go_upto_region 9 with fail
   have HF:=hid (WF.new (ws:=[[110,101,105,103,104,98,111,114],fmtA x.addr,[97,115],decI x.asn]) HS.out.a HS.out.b (by decide) (by simp));change Code.wp _ _ _ _ (wq.alloc (.cells (([[110,101,105,103,104,98,111,114],fmtA x.addr,[97,115],decI x.asn]:List (List UInt8)).map strV).toArray 9));clear HY HS;generalize wq.alloc (.cells (([[110,101,105,103,104,98,111,114],fmtA x.addr,[97,115],decI x.asn]:List (List UInt8)).map strV).toArray 9)=w5 at HF⊢;generalize wq.heap.size=bw at HF⊢;have c2:w5.cell? ⟨gx,2,none⟩=some (.string (str x.inn)):=HF.out.x.cell 2;go_upto_if 49 with fail
   go_cut [6] (fun v wx=>WF 115 gx x.C ([[110,101,105,103,104,98,111,114],fmtA x.addr,[97,115],decI x.asn]++optL (!x.inn.isEmpty) [[105,110],x.inn]) v w4 wx)
   case first=>
    cases hc:(!x.inn.isEmpty)with
    |true=>
     have E:(optL (!x.inn.isEmpty) [[105,110],x.inn]:List (List UInt8))=[[105,110],x.inn]:=by rw[hc];rfl
     have hs:=zCm hc;rw[hs];go_wp2_with (at_builtin;refine zBb rfl _ _ rfl HF.out [[105,110],x.inn] rfl rfl (Nat.le_trans (Nat.add_le_add (Nat.le_of_ble_eq_true rfl:_≤20) (Nat.le_of_ble_eq_true rfl:_≤20)) (Nat.le_of_ble_eq_true rfl)) ?_);intro v6 w6 h6 k6;replace h6:=hid h6;clear k6;go_wp2;go_meet;rw[E];first|exact h6.out|simpa only[List.append_assoc,List.cons_append,List.nil_append] using h6.out
    |false=>
     have E:(optL (!x.inn.isEmpty) [[105,110],x.inn]:List (List UInt8))=[]:=by rw[hc];rfl
     have hs:=zCg hc;rw[hs];go_wp2;go_meet;rw[E,List.append_nil];exact HF.out
   case rest=>
   clear HF c2;have HF:=hid hcut;clear hcut;have c3:wc.cell? ⟨gx,3,none⟩=some (.string (str x.out)):=HF.out.x.cell 3;go_upto_if 57 with fail
   go_cut [6] (fun v wx=>WF 115 gx x.C ([[110,101,105,103,104,98,111,114],fmtA x.addr,[97,115],decI x.asn]++optL (!x.inn.isEmpty) [[105,110],x.inn]++optL (!x.out.isEmpty) [[111,117,116],x.out]) v w4 wx)
   case first=>
    cases hc:(!x.out.isEmpty)with
    |true=>
     have E:(optL (!x.out.isEmpty) [[111,117,116],x.out]:List (List UInt8))=[[111,117,116],x.out]:=by rw[hc];rfl
     have hs:=zCm hc;rw[hs];go_wp2_with (at_builtin;refine zBb rfl _ _ rfl HF.out [[111,117,116],x.out] rfl rfl (Nat.le_trans (Nat.add_le_add (zCh (Nat.le_of_ble_eq_true rfl:_≤20) (zDd (Nat.le_of_ble_eq_true rfl))) (Nat.le_of_ble_eq_true rfl:_≤20)) (Nat.le_of_ble_eq_true rfl)) ?_);intro v6 w6 h6 k6;replace h6:=hid h6;clear k6;go_wp2;go_meet;rw[E];first|exact h6.out|simpa only[List.append_assoc,List.cons_append,List.nil_append] using h6.out
    |false=>
     have E:(optL (!x.out.isEmpty) [[111,117,116],x.out]:List (List UInt8))=[]:=by rw[hc];rfl
     have hs:=zCg hc;rw[hs];go_wp2;go_meet;rw[E,List.append_nil];exact HF.out
   case rest=>
   clear HF c3;have HF:=hid hcut;clear hcut;have HW:Hid ((nbA x).2=[[110,101,105,103,104,98,111,114],fmtA x.addr,[97,115],decI x.asn]++optL (!x.inn.isEmpty) [[105,110],x.inn]++optL (!x.out.isEmpty) [[111,117,116],x.out]):=hid (by rw[nbA];simp only[List.append_assoc]);go_wp2_with fail;refine(zHv (H4.out.below HF.out.b) _ true ((nbA x).2) (by rw[HW.out];exact HF.out.sls (by have:=H4.out.t.lt;omega) (by simp)) (by rw[HW.out];exact Nat.le_trans (zCh (zCh (Nat.le_of_ble_eq_true rfl:_≤20) (zDd (Nat.le_of_ble_eq_true rfl))) (zDd (Nat.le_of_ble_eq_true rfl))) (Nat.le_of_ble_eq_true rfl)) HM.out).mono ?_;rintro e w7 ⟨rfl,h2⟩;have H7:=hid h2;clear h2;go_wp2;go_roundg (r.nb.length - (k+1));case measure=>omega
   case rel=>
    refine⟨k+1,by omega,by go_num,hid ?_⟩;have hfin:=H7.out.pop;rw[hp.out]at hfin;rw[ET.out,zAk,HN.out];simpa only[List.append_assoc] using hfin
 case rest=>
 clear H7 cc;have H:=hid hcut;clear hcut;have cc:wc.cell? ⟨gy,4,none⟩=some (.slice A1 r.net.length c1):=(H.out.a.cell 4).trans C4.out;go_upto_block 2 with fail
 go_cut [] (fun wx=>XL [(39,gy,cl)] g (s++lnW (false,[[114,111,117,116,101,114],[112,118]])++lnW (true,[[100,105,115,116,97,110,99,101],[101,120,116,101,114,110,97,108],decI r.ext])++lnW (true,[[100,105,115,116,97,110,99,101],[105,110,116,101,114,110,97,108],decI r.int])++textA (nthL (fun _ x=>[nbA x]) 0 r.nb)++textA (nthL (fun _ p=>[(true,[[110,101,116,119,111,114,107],pfxF p.pa p.pl])]) 0 r.net)) w wx)
 case first=>
  go_wp2;go_loopg [70] r.net.length (fun gh ix wr=>∃k:Nat,k+gh=r.net.length∧ix=.int .i64 k∧Hid (XL [(39,gy,cl)] g (s++lnW (false,[[114,111,117,116,101,114],[112,118]])++lnW (true,[[100,105,115,116,97,110,99,101],[101,120,116,101,114,110,97,108],decI r.ext])++lnW (true,[[100,105,115,116,97,110,99,101],[105,110,116,101,114,110,97,108],decI r.int])++textA (nthL (fun _ x=>[nbA x]) 0 r.nb)++textA (nthL (fun _ p=>[(true,[[110,101,116,119,111,114,107],pfxF p.pa p.pl])]) 0 (r.net.take k))) w wr));case atStart=>exact⟨0,by omega,rfl,hid (by rw[List.take_zero,nthL,zAz,List.append_nil];exact H.out)⟩
  case round=>
   obtain⟨k,hk,rfl,HR⟩:=hrel;by_cases hlt:k<r.net.length;case neg=>
    have hkz:¬((k:Int)<(r.net.length:Int)):=by omega
    rw[List.take_of_length_le (by omega)]at HR;go_wp2;go_meet;exact HR.out
   have hkz:(k:Int)<(r.net.length:Int):=by omega
   obtain⟨gr,o,c', e',-,hgr,R0⟩:=SlV.elem (n:=2) (by decide) (fun _=>rfl) HV1.out hlt;injection e' with e1 e2 e3
   subst e1 e3;have r1:=hid (zAf R0 ((HR.out.k.below (Nat.le_of_lt hg.out)).mono hB.out) hgr);clear R0 e2;have HX:=hid (ht.out _ (List.getElem_mem hlt));have ET:=hid (zAy (fun _ p=>[(true,[[110,101,116,119,111,114,107],pfxF p.pa p.pl])]) r.net hlt);have HP:=hid (zBa (fun _ p=>[(true,[[110,101,116,119,111,114,107],pfxF p.pa p.pl])]) r.net hlt);generalize r.net[k]=x at HX ET HP r1;go_upto_region 18 with(first|(refine zAa rfl 90 _ rfl rfl r1.out Tryz.rowPf Tryz.sizePf ?_)|(refine zAd rfl 90 _ _ rfl rfl rfl (HasC.new wr _ _) rfl Tryz.sizePf (Pf.one x) ?_;intro w4 hz1 hz2))
   obtain⟨p,hp⟩:∃zz,zz=s++lnW (false,[[114,111,117,116,101,114],[112,118]])++lnW (true,[[100,105,115,116,97,110,99,101],[101,120,116,101,114,110,97,108],decI r.ext])++lnW (true,[[100,105,115,116,97,110,99,101],[105,110,116,101,114,110,97,108],decI r.int])++textA (nthL (fun _ x=>[nbA x]) 0 r.nb)++textA (nthL (fun _ p=>[(true,[[110,101,116,119,111,114,107],pfxF p.pa p.pl])]) 0 (r.net.take k)):=⟨_,rfl⟩;have H4:Hid (XL ((90,wr.heap.size,x.C) :: [(39,gy,cl)]) g p w w4):=hid (by rw[hp];exact HR.out.put hz1 (zAi hz2) (by decide));have HN:Hid (textA ((fun _ p=>[(true,[[110,101,116,119,111,114,107],pfxF p.pa p.pl])]) k x)=lnW (true,[[110,101,116,119,111,114,107],pfxF x.pa x.pl])):=hid (zAx _);have HM:Hid (p.length+(lnW (true,[[110,101,116,119,111,114,107],pfxF x.pa x.pl])).length≤140737488355328):=hid (by rw[←HN.out,hp,List.length_append];have h1:=HL.out;have h2:=HP.out;simp only[List.length_append]at h1⊢;omega);replace hp:=hid hp;clear hz1 hz2 r1 HR HP;generalize wr.heap.size=gx at H4⊢;obtain⟨hv,hf⟩:=HX.out;have c0:w4.cell? ⟨gx,0,none⟩=some (.int .u32 (x.pa:Int)):=H4.out.a.cell 0;have c1:w4.cell? ⟨gx,1,none⟩=some (.int .i64 x.pl):=H4.out.a.cell 1;go_wp2_with fail;refine(zBr x.pa x.pl _ hf (HE.out _ H4.out.k)).mono ?_;rintro e w1 ⟨rfl,hb⟩;have H1:=hid (H4.out.below hb);clear hb;go_wp2_with fail;refine(zBk H1.out true [[110,101,116,119,111,114,107],pfxF x.pa x.pl] (by simp) HM.out).mono ?_;rintro e w6 ⟨rfl,h2⟩;have H6:=hid h2;clear h2;go_wp2;go_roundg (r.net.length - (k+1));case measure=>omega
   case rel=>
    refine⟨k+1,by omega,by go_num,hid ?_⟩;have hfin:=H6.out.pop;rw[hp.out]at hfin;rw[ET.out,zAk,HN.out];simpa only[List.append_assoc] using hfin
 case rest=>
 clear H cc;have H:=hid hcut;clear hcut;have cc:wc.cell? ⟨gy,5,none⟩=some (.slice A2 r.ag.length c2):=(H.out.a.cell 5).trans C5.out;go_upto_block 4 with fail
 go_cut [] (fun wx=>XL [(39,gy,cl)] g (s++lnW (false,[[114,111,117,116,101,114],[112,118]])++lnW (true,[[100,105,115,116,97,110,99,101],[101,120,116,101,114,110,97,108],decI r.ext])++lnW (true,[[100,105,115,116,97,110,99,101],[105,110,116,101,114,110,97,108],decI r.int])++textA (nthL (fun _ x=>[nbA x]) 0 r.nb)++textA (nthL (fun _ p=>[(true,[[110,101,116,119,111,114,107],pfxF p.pa p.pl])]) 0 r.net)++textA (nthL (fun _ x=>[agA x]) 0 r.ag)) w wx)
 case first=>
  go_wp2;go_loopg [83] r.ag.length (fun gh ix wr=>∃k:Nat,k+gh=r.ag.length∧ix=.int .i64 k∧Hid (XL [(39,gy,cl)] g (s++lnW (false,[[114,111,117,116,101,114],[112,118]])++lnW (true,[[100,105,115,116,97,110,99,101],[101,120,116,101,114,110,97,108],decI r.ext])++lnW (true,[[100,105,115,116,97,110,99,101],[105,110,116,101,114,110,97,108],decI r.int])++textA (nthL (fun _ x=>[nbA x]) 0 r.nb)++textA (nthL (fun _ p=>[(true,[[110,101,116,119,111,114,107],pfxF p.pa p.pl])]) 0 r.net)++textA (nthL (fun _ x=>[agA x]) 0 (r.ag.take k))) w wr));case atStart=>exact⟨0,by omega,rfl,hid (by rw[List.take_zero,nthL,zAz,List.append_nil];exact H.out)⟩
  case round=>
   obtain⟨k,hk,rfl,HR⟩:=hrel;by_cases hlt:k<r.ag.length;case neg=>
    have hkz:¬((k:Int)<(r.ag.length:Int)):=by omega
    rw[List.take_of_length_le (by omega)]at HR;go_wp2;go_meet;exact HR.out
   have hkz:(k:Int)<(r.ag.length:Int):=by omega
   obtain⟨gr,o,c', e',-,hgr,R0⟩:=SlV.elem (n:=3) (by decide) (fun _=>rfl) HV2.out hlt;injection e' with e1 e2 e3
   subst e1 e3;have r1:=hid (zAf R0 ((HR.out.k.below (Nat.le_of_lt hg.out)).mono hB.out) hgr);clear R0 e2;have HX:=hid (ha.out _ (List.getElem_mem hlt));have ET:=hid (zAy (fun _ x=>[agA x]) r.ag hlt);have HP:=hid (zBa (fun _ x=>[agA x]) r.ag hlt);generalize r.ag[k]=x at HX ET HP r1;go_upto_region 23 with(first|(refine zAa rfl 117 _ rfl rfl r1.out Tryz.rowAg Tryz.sizeAg ?_)|(refine zAd rfl 117 _ _ rfl rfl rfl (HasC.new wr _ _) rfl Tryz.sizeAg (Ag.one x) ?_;intro w4 hz1 hz2))
   obtain⟨p,hp⟩:∃zz,zz=s++lnW (false,[[114,111,117,116,101,114],[112,118]])++lnW (true,[[100,105,115,116,97,110,99,101],[101,120,116,101,114,110,97,108],decI r.ext])++lnW (true,[[100,105,115,116,97,110,99,101],[105,110,116,101,114,110,97,108],decI r.int])++textA (nthL (fun _ x=>[nbA x]) 0 r.nb)++textA (nthL (fun _ p=>[(true,[[110,101,116,119,111,114,107],pfxF p.pa p.pl])]) 0 r.net)++textA (nthL (fun _ x=>[agA x]) 0 (r.ag.take k)):=⟨_,rfl⟩;have H4:Hid (XL ((117,wr.heap.size,x.C) :: [(39,gy,cl)]) g p w w4):=hid (by rw[hp];exact HR.out.put hz1 (zAi hz2) (by decide));have HN:Hid (textA ((fun _ x=>[agA x]) k x)=lnW (true,(agA x).2)):=hid (zAx _);have HM:Hid (p.length+(lnW (true,(agA x).2)).length≤140737488355328):=hid (by rw[←HN.out,hp,List.length_append];have h1:=HL.out;have h2:=HP.out;simp only[List.length_append]at h1⊢;omega);replace hp:=hid hp;clear hz1 hz2 r1 HR HP;generalize wr.heap.size=gx at H4⊢;obtain⟨hv,hf⟩:=HX.out;have HBX:Hid (∀W,Below w4.heap.size w4 W→Env W):=hid fun W hk=>HE.out _ (H4.out.k.trans (.of_below hk))
   have HY:=hid (YA.one H4.out.a);have c0:w4.cell? ⟨gx,0,none⟩=some (.int .u32 (x.pa:Int)):=HY.out.a.cell 0;have c1:w4.cell? ⟨gx,1,none⟩=some (.int .i64 x.pl):=HY.out.a.cell 1;go_wp2_with fail;refine(zBr x.pa x.pl _ hf (HBX.out _ HY.out.b)).mono ?_;rintro e w1 ⟨rfl,hb⟩;have H1:=hid (HY.out.below hb);clear hb;go_upto_region 24 with fail
   have HF:=hid (WF.new (ws:=[[97,103,103,114,101,103,97,116,101],pfxF x.pa x.pl]) H1.out.a H1.out.b (by decide) (by simp));change Code.wp _ _ _ _ (w1.alloc (.cells (([[97,103,103,114,101,103,97,116,101],pfxF x.pa x.pl]:List (List UInt8)).map strV).toArray 9));clear HY H1 c0 c1;generalize w1.alloc (.cells (([[97,103,103,114,101,103,97,116,101],pfxF x.pa x.pl]:List (List UInt8)).map strV).toArray 9)=w5 at HF⊢;generalize w1.heap.size=bw at HF⊢;have c2:w5.cell? ⟨gx,2,none⟩=some (.bool x.only):=HF.out.x.cell 2;go_upto_if 92 with fail
   go_cut [11] (fun v wx=>WF 117 gx x.C ([[97,103,103,114,101,103,97,116,101],pfxF x.pa x.pl]++optL (x.only) [[111,110,108,121]]) v w4 wx)
   case first=>
    cases hc:(x.only)with
    |true=>
     have E:(optL (x.only) [[111,110,108,121]]:List (List UInt8))=[[111,110,108,121]]:=by rw[hc];rfl
     go_wp2_with (at_builtin;refine zBb rfl _ _ rfl HF.out [[111,110,108,121]] rfl rfl (Nat.le_trans (Nat.add_le_add (Nat.le_of_ble_eq_true rfl:_≤20) (Nat.le_of_ble_eq_true rfl:_≤20)) (Nat.le_of_ble_eq_true rfl)) ?_);intro v6 w6 h6 k6;replace h6:=hid h6;clear k6;go_wp2;go_meet;rw[E];first|exact h6.out|simpa only[List.append_assoc,List.cons_append,List.nil_append] using h6.out
    |false=>
     have E:(optL (x.only) [[111,110,108,121]]:List (List UInt8))=[]:=by rw[hc];rfl
     go_wp2;go_meet;rw[E,List.append_nil];exact HF.out
   case rest=>
   clear HF c2;have HF:=hid hcut;clear hcut;have HW:Hid ((agA x).2=[[97,103,103,114,101,103,97,116,101],pfxF x.pa x.pl]++optL (x.only) [[111,110,108,121]]):=hid (by rfl);go_wp2_with fail;refine(zHv (H4.out.below HF.out.b) _ true ((agA x).2) (by rw[HW.out];exact HF.out.sls (by have:=H4.out.t.lt;omega) (by simp)) (by rw[HW.out];exact Nat.le_trans (zCh (Nat.le_of_ble_eq_true rfl:_≤20) (zDd (Nat.le_of_ble_eq_true rfl))) (Nat.le_of_ble_eq_true rfl)) HM.out).mono ?_;rintro e w7 ⟨rfl,h2⟩;have H7:=hid h2;clear h2;go_wp2;go_roundg (r.ag.length - (k+1));case measure=>omega
   case rel=>
    refine⟨k+1,by omega,by go_num,hid ?_⟩;have hfin:=H7.out.pop;rw[hp.out]at hfin;rw[ET.out,zAk,HN.out];simpa only[List.append_assoc] using hfin
 case rest=>
 clear H cc;have H:=hid hcut;clear hcut;have cc:wc.cell? ⟨gy,6,none⟩=some (.slice A3 r.cd.length c3):=(H.out.a.cell 6).trans C6.out;go_upto_block 6 with fail
 go_cut [] (fun wx=>XL [(39,gy,cl)] g (s++lnW (false,[[114,111,117,116,101,114],[112,118]])++lnW (true,[[100,105,115,116,97,110,99,101],[101,120,116,101,114,110,97,108],decI r.ext])++lnW (true,[[100,105,115,116,97,110,99,101],[105,110,116,101,114,110,97,108],decI r.int])++textA (nthL (fun _ x=>[nbA x]) 0 r.nb)++textA (nthL (fun _ p=>[(true,[[110,101,116,119,111,114,107],pfxF p.pa p.pl])]) 0 r.net)++textA (nthL (fun _ x=>[agA x]) 0 r.ag)++textA (nthL (fun _ x=>[cdA x]) 0 r.cd)) w wx)
 case first=>
  go_wp2;go_loopg [103] r.cd.length (fun gh ix wr=>∃k:Nat,k+gh=r.cd.length∧ix=.int .i64 k∧Hid (XL [(39,gy,cl)] g (s++lnW (false,[[114,111,117,116,101,114],[112,118]])++lnW (true,[[100,105,115,116,97,110,99,101],[101,120,116,101,114,110,97,108],decI r.ext])++lnW (true,[[100,105,115,116,97,110,99,101],[105,110,116,101,114,110,97,108],decI r.int])++textA (nthL (fun _ x=>[nbA x]) 0 r.nb)++textA (nthL (fun _ p=>[(true,[[110,101,116,119,111,114,107],pfxF p.pa p.pl])]) 0 r.net)++textA (nthL (fun _ x=>[agA x]) 0 r.ag)++textA (nthL (fun _ x=>[cdA x]) 0 (r.cd.take k))) w wr));case atStart=>exact⟨0,by omega,rfl,hid (by rw[List.take_zero,nthL,zAz,List.append_nil];exact H.out)⟩
  case round=>
   obtain⟨k,hk,rfl,HR⟩:=hrel;by_cases hlt:k<r.cd.length;case neg=>
    have hkz:¬((k:Int)<(r.cd.length:Int)):=by omega
    rw[List.take_of_length_le (by omega)]at HR;go_wp2;go_meet;exact HR.out
   have hkz:(k:Int)<(r.cd.length:Int):=by omega
   obtain⟨gr,o,c', e',-,hgr,R0⟩:=SlV.elem (n:=5) (by decide) (fun _=>rfl) HV3.out hlt;injection e' with e1 e2 e3
   subst e1 e3;have r1:=hid (zAf R0 ((HR.out.k.below (Nat.le_of_lt hg.out)).mono hB.out) hgr);clear R0 e2;have HX:=hid (hc.out _ (List.getElem_mem hlt));have ET:=hid (zAy (fun _ x=>[cdA x]) r.cd hlt);have HP:=hid (zBa (fun _ x=>[cdA x]) r.cd hlt);generalize r.cd[k]=x at HX ET HP r1;go_upto_region 31 with(first|(refine zAa rfl 119 _ rfl rfl r1.out Tryz.rowCd Tryz.sizeCd ?_)|(refine zAd rfl 119 _ _ rfl rfl rfl (HasC.new wr _ _) rfl Tryz.sizeCd (Cd.one x) ?_;intro w4 hz1 hz2))
   obtain⟨p,hp⟩:∃zz,zz=s++lnW (false,[[114,111,117,116,101,114],[112,118]])++lnW (true,[[100,105,115,116,97,110,99,101],[101,120,116,101,114,110,97,108],decI r.ext])++lnW (true,[[100,105,115,116,97,110,99,101],[105,110,116,101,114,110,97,108],decI r.int])++textA (nthL (fun _ x=>[nbA x]) 0 r.nb)++textA (nthL (fun _ p=>[(true,[[110,101,116,119,111,114,107],pfxF p.pa p.pl])]) 0 r.net)++textA (nthL (fun _ x=>[agA x]) 0 r.ag)++textA (nthL (fun _ x=>[cdA x]) 0 (r.cd.take k)):=⟨_,rfl⟩;have H4:Hid (XL ((119,wr.heap.size,x.C) :: [(39,gy,cl)]) g p w w4):=hid (by rw[hp];exact HR.out.put hz1 (zAi hz2) (by decide));have HM:Hid (p.length+(textA [cdA x]).length≤140737488355328):=hid (by rw[hp,List.length_append];have h1:=HL.out;have h2:_+(textA [cdA x]).length≤_:=HP.out;simp only[List.length_append]at h1⊢;omega);replace hp:=hid hp;clear hz1 hz2 r1 HR HP;generalize wr.heap.size=gx at H4⊢;obtain⟨hv,hu,hf,hf2⟩:=HX.out;have c4:w4.cell? ⟨gx,4,none⟩=some (.bool x.absent):=H4.out.a.cell 4;cases ho:x.absent with
   |true=>
    have E:textA [cdA x]=lnW (true,[[111,114,105,103,105,110,97,116,101],pfxF x.pa x.pl,[117,110,108,101,115,115],pfxF x.ia x.il]):=by rw[zAx,cdA,ho];rfl
    rw[ho]at c4;go_upto_region 34 with fail
    have HX:Hid (∀W,XL ((119,gx,x.C) :: [(39,gy,cl)]) g (p) w W→W.cell? ⟨gx,0,none⟩=some (.int .u32 (x.pa:Int))∧W.cell? ⟨gx,1,none⟩=some (.int .i64 x.pl)∧W.cell? ⟨gx,2,none⟩=some (.int .u32 (x.ia:Int))∧W.cell? ⟨gx,3,none⟩=some (.int .i64 x.il)):=hid fun W hW=>⟨hW.a.cell 0,hW.a.cell 1,hW.a.cell 2,hW.a.cell 3⟩
    refine zBt (fun W=>XL ((119,gx,x.C) :: [(39,gy,cl)]) g (p) w W) [1,2,3,4,5,6,7] [8,9] (by kernel_rfl) rfl (by kernel_rfl) (H4.out.drew) (fun _ _ _ h=>h) rfl (fun W=>by go_simp<;>rfl) ?_;simp only[opsAt,List.getElem?_toArray,List.getElem?_cons_zero,List.getElem?_cons_succ,Act.put,List.setIfInBounds_toArray]
    repeat
     (first
      |(refine zCc (v:=?_) ?_ ?_ ?_;rotate_left;(· rfl);(· (intro W hW;obtain⟨c0,c1,c2,c3⟩:=HX.out W hW;go_simp<;>rfl)))
      |(refine zAq ?_ ?_ (fun W hW=>hW.call (zBr x.pa x.pl W hf (HE.out _ hW.k))) ?_;(· rfl);(· (intro W hW;go_simp<;>rfl)))
      |(refine zAq ?_ ?_ (fun W hW=>hW.call (zBr x.ia x.il W hf2 (HE.out _ hW.k))) ?_;(· rfl);(· (intro W hW;go_simp<;>rfl))))
     simp only[Act.put]
    refine zCn ?_;intro wq hS;change wpList _ _ _ (_ :: _ :: []) _ _;have HS:=hid hS;clear hS HX;go_wp2_with fail;refine(zBk HS.out true [[111,114,105,103,105,110,97,116,101],pfxF x.pa x.pl,[117,110,108,101,115,115],pfxF x.ia x.il] (by simp) (by rw[←E];exact HM.out)).mono ?_;rintro e w6 ⟨rfl,h2⟩;rw[←E]at h2;have H6:=hid h2;clear h2;go_wp2;go_roundg (r.cd.length - (k+1));case measure=>omega
    case rel=>
     refine⟨k+1,by omega,by go_num,hid ?_⟩;have hfin:=H6.out.pop;rw[hp.out]at hfin;rw[ET.out,zAk];simpa only[List.append_assoc] using hfin
   |false=>
    have E:textA [cdA x]=lnW (true,[[111,114,105,103,105,110,97,116,101],pfxF x.pa x.pl,[105,102],pfxF x.ia x.il]):=by rw[zAx,cdA,ho];rfl
    rw[ho]at c4;go_upto_region 34 with fail
    have HX:Hid (∀W,XL ((119,gx,x.C) :: [(39,gy,cl)]) g (p) w W→W.cell? ⟨gx,0,none⟩=some (.int .u32 (x.pa:Int))∧W.cell? ⟨gx,1,none⟩=some (.int .i64 x.pl)∧W.cell? ⟨gx,2,none⟩=some (.int .u32 (x.ia:Int))∧W.cell? ⟨gx,3,none⟩=some (.int .i64 x.il)):=hid fun W hW=>⟨hW.a.cell 0,hW.a.cell 1,hW.a.cell 2,hW.a.cell 3⟩
    refine zBt (fun W=>XL ((119,gx,x.C) :: [(39,gy,cl)]) g (p) w W) [1,2,3,4,5,6,7] [8,9] (by kernel_rfl) rfl (by kernel_rfl) (H4.out.drew) (fun _ _ _ h=>h) rfl (fun W=>by go_simp<;>rfl) ?_;simp only[opsAt,List.getElem?_toArray,List.getElem?_cons_zero,List.getElem?_cons_succ,Act.put,List.setIfInBounds_toArray]
    repeat
     (first
      |(refine zCc (v:=?_) ?_ ?_ ?_;rotate_left;(· rfl);(· (intro W hW;obtain⟨c0,c1,c2,c3⟩:=HX.out W hW;go_simp<;>rfl)))
      |(refine zAq ?_ ?_ (fun W hW=>hW.call (zBr x.pa x.pl W hf (HE.out _ hW.k))) ?_;(· rfl);(· (intro W hW;go_simp<;>rfl)))
      |(refine zAq ?_ ?_ (fun W hW=>hW.call (zBr x.ia x.il W hf2 (HE.out _ hW.k))) ?_;(· rfl);(· (intro W hW;go_simp<;>rfl))))
     simp only[Act.put]
    refine zCn ?_;intro wq hS;change wpList _ _ _ (_ :: _ :: []) _ _;have HS:=hid hS;clear hS HX;go_wp2_with fail;refine(zBk HS.out true [[111,114,105,103,105,110,97,116,101],pfxF x.pa x.pl,[105,102],pfxF x.ia x.il] (by simp) (by rw[←E];exact HM.out)).mono ?_;rintro e w6 ⟨rfl,h2⟩;rw[←E]at h2;have H6:=hid h2;clear h2;go_wp2;go_roundg (r.cd.length - (k+1));case measure=>omega
    case rel=>
     refine⟨k+1,by omega,by go_num,hid ?_⟩;have hfin:=H6.out.pop;rw[hp.out]at hfin;rw[ET.out,zAk];simpa only[List.append_assoc] using hfin
 case rest=>
 clear H cc;have H:=hid hcut;clear hcut;have c7:wc.cell? ⟨gy,7,none⟩=some (.slice A4 r.pvRed.length c4):=(H.out.a.cell 7).trans C7.out;go_wp2_with fail;refine(ared_any g _ r.pvRed _ _ B H.out.t (HEA.out _ H.out.k) hB.out (HV4.out.below ((H.out.k.below (Nat.le_of_lt hg.out)).mono hB.out)) hd.out (by rw[zBy rdA _ 0];have:=HL.out;simp only[List.length_append]at this⊢;omega)).mono ?_;rintro e w9 ⟨rfl,h2,k2⟩;have R:=hid (H.out.go h2 k2);clear h2 k2;go_wp2_with fail;go_end0;refine⟨rfl,?_,R.out.k⟩;have hfin:=R.out.t;rw[zBy rdA _ 0]at hfin;rw[EL.out];simpa only[List.append_assoc] using hfin
end Go.Proofs.YthcnojmldldpeaaGreatDoor
