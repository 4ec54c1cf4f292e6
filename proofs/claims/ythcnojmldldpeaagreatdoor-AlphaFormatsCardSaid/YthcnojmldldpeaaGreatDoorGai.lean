/- Alpha's Format: the walks of linkState, distance. Conditions: the text is at most 2^47 bytes; Go's own tables lie below it. -/
import Derived.Test.YthcnojmldldpeaaGreatDoorGag
import Derived.Test.YthcnojmldldpeaaGreatDoorGah
set_option maxHeartbeats 8000000
set_option maxRecDepth 100000
namespace Go.Proofs.YthcnojmldldpeaaGreatDoor
open Lib (hid)
open Go.RowKit
theorem aclause_any(g:Nat)(s:List UInt8)(x:Cl)(w:World)(h:TA g s w)(he:EnvA g w)(hr:zCr x=true)(hl:s.length+(textA (clAs x)).length≤140737488355328) :
  Calls Tryz.prog 46 #[.pointer (some ⟨g,0,none⟩),.agg x.C] w (AP g s (textA (clAs x)) w):=by
 obtain⟨k1,k2,k3,k4,k5⟩:=cl_ok hr;have HT:textA (clAs x)=textA (clA 0 x)++(textA (clA 1 x)++(textA (clA 2 x)++(textA (clA 3 x)++(textA (clA 4 x)++(textA (clA 5 x)))))):=by simp only[clAs,zAk]
 rw[HT]at hl⊢;have HL:=hid hl;clear hl HT;have hg:=h.lt;have HE:Hid (∀W,FK g w W→Env W):=hid fun W hk=>(he.keep (hk.below (Nat.le_of_lt hg))).1
 have H:=hid ((XL.start h).new (T:=95) (cs:=x.C) (by decide));clear h he hg;go_enter Tryz.func46,Tryz.ntmps46;go_upto_region 1 with fail
 generalize w.alloc (.cells x.C 95)=wc at H⊢;generalize w.heap.size=gx at H⊢;have c1:wc.cell? ⟨gx,1,none⟩=some (.string (str x.list)):=H.out.a.cell 1;go_upto_if 6 with fail
 go_cut [] (fun wx=>XL [(95,gx,x.C)] g (s++textA (clA 0 x)) w wx)
 case first=>
  cases hc:(!x.list.isEmpty)with
  |true=>
   have E:textA (clA 0 x)=lnW (true,[[109,97,116,99,104],[108,105,115,116],x.list]):=zAw hc;have hs:=zCm hc;rw[hs];go_wp2_with fail;refine(zBk H.out true [[109,97,116,99,104],[108,105,115,116],x.list] (by simp) (by rw[←E];have:=HL.out;simp only[List.length_append]at this⊢;omega)).mono ?_;rintro e w2 ⟨rfl,h2⟩;have H2:=hid h2;clear h2;go_wp2;go_meet;rw[E];exact H2.out
  |false=>
   have hs:=zCg hc;rw[hs];go_wp2;go_meet;rw[show textA (clA 0 x)=[]from zAn hc,List.append_nil];exact H.out
 case rest=>
 clear H c1;have H:=hid hcut;clear hcut;have c2:wc.cell? ⟨gx,2,none⟩=some (.int .i64 x.tag):=H.out.a.cell 2;go_upto_if 14 with fail
 go_cut [] (fun wx=>XL [(95,gx,x.C)] g (s++textA (clA 0 x)++textA (clA 1 x)) w wx)
 case first=>
  cases hc:(!(x.tag == -1))with
  |true=>
   have E:textA (clA 1 x)=lnW (true,[[109,97,116,99,104],[116,97,103],decI x.tag]):=zAw hc;have hs:(x.tag != -1)=true:=hc;rw[hs];go_wp2_with fail;refine(zBn x.tag (by have:=m1_ne hc;omega) (by omega) _ (HE.out _ H.out.k)).mono ?_;rintro e w1 ⟨rfl,hb⟩;have H1:=hid (H.out.below hb);clear hb;go_wp2_with fail;refine(zBk H1.out true [[109,97,116,99,104],[116,97,103],decI x.tag] (by simp) (by rw[←E];have:=HL.out;simp only[List.length_append]at this⊢;omega)).mono ?_;rintro e w2 ⟨rfl,h2⟩;have H2:=hid h2;clear h2;go_wp2;go_meet;rw[E];exact H2.out
  |false=>
   have hs:(x.tag != -1)=false:=hc;rw[hs];go_wp2;go_meet;rw[show textA (clA 1 x)=[]from zAn hc,List.append_nil];exact H.out
 case rest=>
 clear H c2;have H:=hid hcut;clear hcut;have c3:wc.cell? ⟨gx,3,none⟩=some (.int .i64 x.setM):=H.out.a.cell 3;go_upto_if 23 with fail
 go_cut [] (fun wx=>XL [(95,gx,x.C)] g (s++textA (clA 0 x)++textA (clA 1 x)++textA (clA 2 x)) w wx)
 case first=>
  cases hc:(!(x.setM == -1))with
  |true=>
   have E:textA (clA 2 x)=lnW (true,[[115,101,116],[109,101,116,114,105,99],decI x.setM]):=zAw hc;have hs:(x.setM != -1)=true:=hc;rw[hs];go_wp2_with fail;refine(zBn x.setM (by have:=m1_ne hc;omega) (by omega) _ (HE.out _ H.out.k)).mono ?_;rintro e w1 ⟨rfl,hb⟩;have H1:=hid (H.out.below hb);clear hb;go_wp2_with fail;refine(zBk H1.out true [[115,101,116],[109,101,116,114,105,99],decI x.setM] (by simp) (by rw[←E];have:=HL.out;simp only[List.length_append]at this⊢;omega)).mono ?_;rintro e w2 ⟨rfl,h2⟩;have H2:=hid h2;clear h2;go_wp2;go_meet;rw[E];exact H2.out
  |false=>
   have hs:(x.setM != -1)=false:=hc;rw[hs];go_wp2;go_meet;rw[show textA (clA 2 x)=[]from zAn hc,List.append_nil];exact H.out
 case rest=>
 clear H c3;have H:=hid hcut;clear hcut;have c4:wc.cell? ⟨gx,4,none⟩=some (.int .i64 x.setT):=H.out.a.cell 4;go_upto_if 32 with fail
 go_cut [] (fun wx=>XL [(95,gx,x.C)] g (s++textA (clA 0 x)++textA (clA 1 x)++textA (clA 2 x)++textA (clA 3 x)) w wx)
 case first=>
  cases hc:(!(x.setT == -1))with
  |true=>
   have E:textA (clA 3 x)=lnW (true,[[115,101,116],[116,97,103],decI x.setT]):=zAw hc;have hs:(x.setT != -1)=true:=hc;rw[hs];go_wp2_with fail;refine(zBn x.setT (by have:=m1_ne hc;omega) (by omega) _ (HE.out _ H.out.k)).mono ?_;rintro e w1 ⟨rfl,hb⟩;have H1:=hid (H.out.below hb);clear hb;go_wp2_with fail;refine(zBk H1.out true [[115,101,116],[116,97,103],decI x.setT] (by simp) (by rw[←E];have:=HL.out;simp only[List.length_append]at this⊢;omega)).mono ?_;rintro e w2 ⟨rfl,h2⟩;have H2:=hid h2;clear h2;go_wp2;go_meet;rw[E];exact H2.out
  |false=>
   have hs:(x.setT != -1)=false:=hc;rw[hs];go_wp2;go_meet;rw[show textA (clA 3 x)=[]from zAn hc,List.append_nil];exact H.out
 case rest=>
 clear H c4;have H:=hid hcut;clear hcut;have c5:wc.cell? ⟨gx,5,none⟩=some (.int .i64 x.setP):=H.out.a.cell 5;go_upto_if 41 with fail
 go_cut [] (fun wx=>XL [(95,gx,x.C)] g (s++textA (clA 0 x)++textA (clA 1 x)++textA (clA 2 x)++textA (clA 3 x)++textA (clA 4 x)) w wx)
 case first=>
  cases hc:(!(x.setP == -1))with
  |true=>
   have E:textA (clA 4 x)=lnW (true,[[115,101,116],[112,114,101,102,101,114,101,110,99,101],decI x.setP]):=zAw hc;have hs:(x.setP != -1)=true:=hc;rw[hs];go_wp2_with fail;refine(zBn x.setP (by have:=m1_ne hc;omega) (by omega) _ (HE.out _ H.out.k)).mono ?_;rintro e w1 ⟨rfl,hb⟩;have H1:=hid (H.out.below hb);clear hb;go_wp2_with fail;refine(zBk H1.out true [[115,101,116],[112,114,101,102,101,114,101,110,99,101],decI x.setP] (by simp) (by rw[←E];have:=HL.out;simp only[List.length_append]at this⊢;omega)).mono ?_;rintro e w2 ⟨rfl,h2⟩;have H2:=hid h2;clear h2;go_wp2;go_meet;rw[E];exact H2.out
  |false=>
   have hs:(x.setP != -1)=false:=hc;rw[hs];go_wp2;go_meet;rw[show textA (clA 4 x)=[]from zAn hc,List.append_nil];exact H.out
 case rest=>
 clear H c5;have H:=hid hcut;clear hcut;have c6:wc.cell? ⟨gx,6,none⟩=some (.int .i64 x.prep):=H.out.a.cell 6;go_upto_if 50 with fail
 cases hc:(!(x.prep==0))with
 |true=>
  have E:textA (clA 5 x)=lnW (true,[[112,114,101,112,101,110,100],decI x.prep]):=zAw hc;have hs:(x.prep != 0)=true:=hc;rw[hs];go_wp2_with fail;refine(zBn x.prep (by have:=ne_of hc;omega) (by omega) _ (HE.out _ H.out.k)).mono ?_;rintro e w1 ⟨rfl,hb⟩;have H1:=hid (H.out.below hb);clear hb;go_wp2_with fail;refine(zBk H1.out true [[112,114,101,112,101,110,100],decI x.prep] (by simp) (by rw[←E];have:=HL.out;simp only[List.length_append]at this⊢;omega)).mono ?_;rintro e w2 ⟨rfl,h2⟩;have H2:=hid h2;clear h2;go_wp2_with fail;go_end0;rw[E];exact⟨rfl,by simpa only[List.append_assoc] using H2.out.t,H2.out.k⟩
 |false=>
  have hs:(x.prep != 0)=false:=hc;rw[hs];go_wp2_with fail;go_end0;rw[show textA (clA 5 x)=[]from zAn hc];exact⟨rfl,by simpa only[List.append_assoc,List.append_nil] using H.out.t,H.out.k⟩
theorem alists_any(g:Nat)(s:List UInt8)(r:Rt)(w:World)(B:Nat)(h:TA g s w)(he:EnvA g w)(hB:B≤g)(hr:r.at w B)(hsh:Shorts r)(h1:∀x∈r.lists,∀y∈x.rules,zEg y=true∧y.fit)(h2:∀x∈r.maps,∀y∈x.clauses,zCr y=true)(h3:∀x∈r.acls,∀y∈x.rules,zCp y=true∧y.fit)
  (hl:(s++textA (zEa r)).length≤140737488355328) :
  Calls Tryz.prog 12 #[.pointer (some ⟨g,0,none⟩),.agg r.C] w (AP g s (textA (zEa r)) w):=by
 have HT:textA (zEa r)=textA (nthL (fun _=>plA) 0 r.lists)++(textA (nthL (fun _=>mpA) 0 r.maps)++(textA (nthL (fun _=>acA) 0 r.acls))):=by rw[zEa,zAk,zAk,zFg plA _ 0,zFg mpA _ 0,zFg acA _ 0]
 rw[HT]at hl⊢;clear HT;have HL:=hid hl;have hg:=hid h.lt;have HEA:Hid (∀W,FK g w W→EnvA g W):=hid fun W hk=>he.keep (hk.below (Nat.le_of_lt hg.out))
 have HE:Hid (∀W,FK g w W→Env W):=hid fun W hk=>(HEA.out W hk).1
 replace hB:=hid hB;have HV0:=hid hr.hlists;have hn0:r.lists.length≤9223372036854775807:=by have:=hr.hlists.len;unfold maxLen at this;omega
 obtain⟨A0,c0,hve0,-,-⟩:=hr.hlists;rw[hve0]at HV0;have HQ0:=hid fun x hx=>And.intro (hr.nlists x hx) (And.intro (hsh.lists.2 x hx) (h1 x hx))
 have HV1:=hid hr.hmaps;have hn1:r.maps.length≤9223372036854775807:=by have:=hr.hmaps.len;unfold maxLen at this;omega
 obtain⟨A1,c1,hve1,-,-⟩:=hr.hmaps;rw[hve1]at HV1;have HQ1:=hid fun x hx=>And.intro (hr.nmaps x hx) (And.intro (hsh.maps.2 x hx) (h2 x hx))
 have HV2:=hid hr.hacls;have hn2:r.acls.length≤9223372036854775807:=by have:=hr.hacls.len;unfold maxLen at this;omega
 obtain⟨A2,c2,hve2,-,-⟩:=hr.hacls;rw[hve2]at HV2;have HQ2:=hid fun x hx=>And.intro (hr.nacls x hx) (And.intro (hsh.acls.2 x hx) (h3 x hx))
 have H:=hid ((XL.start h).new (T:=41) (cs:=r.C) (by decide));clear hl h he hr h1 h2 h3 hsh;go_enter Tryz.func12,Tryz.ntmps12;go_upto_region 1 with fail
 generalize w.alloc (.cells r.C 41)=wc at H⊢;generalize w.heap.size=gy at H⊢;obtain⟨cl,hcl⟩:∃cl,cl=r.C:=⟨_,rfl⟩;rw[←hcl]at H;have C3:Hid (cl[3]? = some (.slice A0 r.lists.length c0)):=hid (by rw[hcl,←hve0];rfl);have C4:Hid (cl[4]? = some (.slice A1 r.maps.length c1)):=hid (by rw[hcl,←hve1];rfl);have C5:Hid (cl[5]? = some (.slice A2 r.acls.length c2)):=hid (by rw[hcl,←hve2];rfl);clear hcl hve0 hve1 hve2;have cc0:wc.cell? ⟨gy,3,none⟩=some (.slice A0 r.lists.length c0):=(H.out.a.cell 3).trans C3.out;go_upto_block 0 with fail
 go_cut [] (fun wx=>XL [(41,gy,cl)] g (s++textA (nthL (fun _=>plA) 0 r.lists)) w wx)
 case first=>
  go_wp2;go_loopg [19] r.lists.length (fun gh ix wr=>∃k:Nat,k+gh=r.lists.length∧ix=.int .i64 k∧Hid (XL [(41,gy,cl)] g (s++textA (nthL (fun _=>plA) 0 (r.lists.take k))) w wr));case atStart=>exact⟨0,by omega,rfl,hid (by rw[List.take_zero,nthL,zAz,List.append_nil];exact H.out)⟩
  case round=>
   obtain⟨k,hk,rfl,HR⟩:=hrel;by_cases hlt:k<r.lists.length;case neg=>
    have hkz:¬((k:Int)<(r.lists.length:Int)):=by omega
    rw[List.take_of_length_le (by omega)]at HR;go_wp2;go_meet;exact HR.out
   have hkz:(k:Int)<(r.lists.length:Int):=by omega
   obtain⟨gr,o,c', e',-,hgr,R0⟩:=SlV.elem (n:=2) (by decide) (fun _=>rfl) HV0.out hlt;injection e' with e1 e2 e3
   subst e1 e3;have r1:=hid (zAf R0 ((HR.out.k.below (Nat.le_of_lt hg.out)).mono hB.out) hgr);clear R0 e2;have HX:=hid (HQ0.out _ (List.getElem_mem hlt));have ET:=hid (zAy (fun _=>plA) r.lists hlt);have HP:=hid (zBa (fun _=>plA) r.lists hlt);generalize r.lists[k]=x at HX ET HP r1;go_upto_region 4 with(first|(refine zAa rfl 49 _ rfl rfl r1.out Tryz.rowPList Tryz.sizePList ?_)|(refine zAd rfl 49 _ _ rfl rfl rfl (HasC.new wr _ _) rfl Tryz.sizePList (PList.one x (SlV.one HX.out.1)) ?_;intro w4 hz1 hz2))
   obtain⟨p,hp⟩:∃zz,zz=s++textA (nthL (fun _=>plA) 0 (r.lists.take k)):=⟨_,rfl⟩;have H4:Hid (XL ((49,wr.heap.size,x.C) :: [(41,gy,cl)]) g p w w4):=hid (by rw[hp];exact HR.out.put hz1 (zAi hz2) (by decide));have HN:Hid (textA ((fun _=>plA) k x)=textA (nthL (fun k y=>[prA x.name k y]) 0 x.rules)):=hid (rfl);have HM:Hid (p.length+(textA (nthL (fun k y=>[prA x.name k y]) 0 x.rules)).length≤140737488355328):=hid (by rw[←HN.out,hp,List.length_append];have h1:=HL.out;have h2:=HP.out;simp only[List.length_append]at h1⊢;omega);replace hp:=hid hp;clear hz1 hz2 r1 HR HP;generalize wr.heap.size=gx at H4⊢;obtain⟨hat,hsx,hy⟩:=HX.out;replace hy:=hid hy;have HVI:=hid hat;have hni:x.rules.length≤9223372036854775807:=by omega
   obtain⟨AI,cI,hvi,-,-⟩:=hat;have HVJ:Hid (SlV w B 5 PRule.C (.slice AI x.rules.length cI) x.rules):=hid (by have:=HVI.out;unfold PList.at at this;rwa [hvi]at this);clear HVI HX;have ci:w4.cell? ⟨gx,1,none⟩=some (.slice AI x.rules.length cI):=by rw[←hvi];exact H4.out.a.cell 1
   clear hvi;go_wp2;go_loopg [26] x.rules.length (fun gh ix wr=>∃j:Nat,j+gh=x.rules.length∧ix=.int .i64 j∧Hid (XL ((49,gx,x.C) :: [(41,gy,cl)]) g (p++textA (nthL (fun k y=>[prA x.name k y]) 0 (x.rules.take j))) w wr));case atStart=>exact⟨0,by omega,rfl,hid (by rw[List.take_zero,nthL,zAz,List.append_nil];exact H4.out)⟩
   case round=>
    obtain⟨j,hk,rfl,HR⟩:=hrel;by_cases hlt:j<x.rules.length;case neg=>
     have hkz:¬((j:Int)<(x.rules.length:Int)):=by omega
     rw[List.take_of_length_le (by omega)]at HR;go_wp2;go_roundg (r.lists.length - (k+1));case measure=>omega
     case rel=>
      refine⟨k+1,by omega,by go_num,hid ?_⟩;have hfin:=HR.out.pop;rw[hp.out]at hfin;rw[ET.out,zAk,HN.out];simpa only[List.append_assoc] using hfin
    have hkz:(j:Int)<(x.rules.length:Int):=by omega
    obtain⟨gr,o,c', e',-,hgr,R0⟩:=SlV.elem (n:=5) (by decide) (fun _=>rfl) HVJ.out hlt;injection e' with e1 e2 e3
    subst e1 e3;have r1:=hid (zAf R0 ((HR.out.k.below (Nat.le_of_lt hg.out)).mono hB.out) hgr);clear R0 e2;have HX:=hid (hy.out _ (List.getElem_mem hlt));have ET:=hid (zAy (fun k y=>[prA x.name k y]) x.rules hlt);have HP:=hid (zBa (fun k y=>[prA x.name k y]) x.rules hlt);generalize x.rules[j]=y at HX ET HP r1;go_upto_region 7 with(first|(refine zAa rfl 92 _ rfl rfl r1.out Tryz.rowPRule Tryz.sizePRule ?_)|(refine zAd rfl 92 _ _ rfl rfl rfl (HasC.new wr _ _) rfl Tryz.sizePRule (PRule.one y) ?_;intro w4 hz1 hz2))
    obtain⟨q,hp⟩:∃zz,zz=p++textA (nthL (fun k y=>[prA x.name k y]) 0 (x.rules.take j)):=⟨_,rfl⟩;have H4:Hid (XL ((92,wr.heap.size,y.C) :: ((49,gx,x.C) :: [(41,gy,cl)])) g q w w4):=hid (by rw[hp];exact HR.out.put hz1 (zAi hz2) (by decide));have HN:Hid (textA ((fun k y=>[prA x.name k y]) j y)=lnW (false,(prA x.name j y).2)):=hid (zAx _);have HM:Hid (q.length+(lnW (false,(prA x.name j y).2)).length≤140737488355328):=hid (by rw[←HN.out,hp,List.length_append];have h1:=HM.out;have h2:=HP.out;(try dsimp only at h1 h2⊢);omega);replace hp:=hid hp;clear hz1 hz2 r1 HR HP;generalize wr.heap.size=gz at H4⊢;obtain⟨hry,hfy⟩:=HX.out;have hra:=H4.out.a.range;have cn:w4.cell? ⟨gx,0,none⟩=some (.string (str x.name)):=H4.out.b.cell 0;go_wp2_with (first|(refine zAa rfl 92 _ rfl rfl hra Tryz.rowPRule Tryz.sizePRule ?_));refine(aprefix_any x.name j y _ (HE.out _ H4.out.k) (by omega) hry hfy).mono ?_;rintro e w6 ⟨v,rfl,hsl,hb⟩;have H6:=hid (And.intro (hsl g H4.out.t.lt) (H4.out.below hb));clear hb hsl hra;go_wp2_with fail;refine(zHv H6.out.2 v false (prA x.name j y).2 H6.out.1 (by exact Nat.le_trans (ws_pr x.name j y) (Nat.le_of_ble_eq_true rfl)) HM.out).mono ?_;rintro e w7 ⟨rfl,h2⟩;have H7:=hid h2;clear h2;go_wp2;go_roundg (x.rules.length - (j+1));case measure=>omega
    case rel=>
     refine⟨j+1,by omega,by go_num,hid ?_⟩;have hfin:=H7.out.pop;rw[hp.out]at hfin;rw[ET.out,zAk,HN.out];simpa only[List.append_assoc] using hfin
 case rest=>
 clear H cc0;have H:=hid hcut;clear hcut;have cc1:wc.cell? ⟨gy,4,none⟩=some (.slice A1 r.maps.length c1):=(H.out.a.cell 4).trans C4.out;go_upto_block 4 with fail
 go_cut [] (fun wx=>XL [(41,gy,cl)] g (s++textA (nthL (fun _=>plA) 0 r.lists)++textA (nthL (fun _=>mpA) 0 r.maps)) w wx)
 case first=>
  go_wp2;go_loopg [43] r.maps.length (fun gh ix wr=>∃k:Nat,k+gh=r.maps.length∧ix=.int .i64 k∧Hid (XL [(41,gy,cl)] g (s++textA (nthL (fun _=>plA) 0 r.lists)++textA (nthL (fun _=>mpA) 0 (r.maps.take k))) w wr));case atStart=>exact⟨0,by omega,rfl,hid (by rw[List.take_zero,nthL,zAz,List.append_nil];exact H.out)⟩
  case round=>
   obtain⟨k,hk,rfl,HR⟩:=hrel;by_cases hlt:k<r.maps.length;case neg=>
    have hkz:¬((k:Int)<(r.maps.length:Int)):=by omega
    rw[List.take_of_length_le (by omega)]at HR;go_wp2;go_meet;exact HR.out
   have hkz:(k:Int)<(r.maps.length:Int):=by omega
   obtain⟨gr,o,c', e',-,hgr,R0⟩:=SlV.elem (n:=2) (by decide) (fun _=>rfl) HV1.out hlt;injection e' with e1 e2 e3
   subst e1 e3;have r1:=hid (zAf R0 ((HR.out.k.below (Nat.le_of_lt hg.out)).mono hB.out) hgr);clear R0 e2;have HX:=hid (HQ1.out _ (List.getElem_mem hlt));have ET:=hid (zAy (fun _=>mpA) r.maps hlt);have HP:=hid (zBa (fun _=>mpA) r.maps hlt);generalize r.maps[k]=x at HX ET HP r1;go_upto_region 13 with(first|(refine zAa rfl 52 _ rfl rfl r1.out Tryz.rowRMap Tryz.sizeRMap ?_)|(refine zAd rfl 52 _ _ rfl rfl rfl (HasC.new wr _ _) rfl Tryz.sizeRMap (RMap.one x (SlV.one HX.out.1)) ?_;intro w4 hz1 hz2))
   obtain⟨p,hp⟩:∃zz,zz=s++textA (nthL (fun _=>plA) 0 r.lists)++textA (nthL (fun _=>mpA) 0 (r.maps.take k)):=⟨_,rfl⟩;have H4:Hid (XL ((52,wr.heap.size,x.C) :: [(41,gy,cl)]) g p w w4):=hid (by rw[hp];exact HR.out.put hz1 (zAi hz2) (by decide));have HN:Hid (textA ((fun _=>mpA) k x)=textA (nthL (fun k y=>(false,[[114,111,117,116,101,45,109,97,112],x.name,nthW k,yesW y.permit]) :: clAs y) 0 x.clauses)):=hid (rfl);have HM:Hid (p.length+(textA (nthL (fun k y=>(false,[[114,111,117,116,101,45,109,97,112],x.name,nthW k,yesW y.permit]) :: clAs y) 0 x.clauses)).length≤140737488355328):=hid (by rw[←HN.out,hp,List.length_append];have h1:=HL.out;have h2:=HP.out;simp only[List.length_append]at h1⊢;omega);replace hp:=hid hp;clear hz1 hz2 r1 HR HP;generalize wr.heap.size=gx at H4⊢;obtain⟨hat,hsx,hy⟩:=HX.out;replace hy:=hid hy;have HVI:=hid hat;have hni:x.clauses.length≤9223372036854775807:=by omega
   obtain⟨AI,cI,hvi,-,-⟩:=hat;have HVJ:Hid (SlV w B 7 Cl.C (.slice AI x.clauses.length cI) x.clauses):=hid (by have:=HVI.out;unfold RMap.at at this;rwa [hvi]at this);clear HVI HX;have ci:w4.cell? ⟨gx,1,none⟩=some (.slice AI x.clauses.length cI):=by rw[←hvi];exact H4.out.a.cell 1
   clear hvi;go_wp2;go_loopg [50] x.clauses.length (fun gh ix wr=>∃j:Nat,j+gh=x.clauses.length∧ix=.int .i64 j∧Hid (XL ((52,gx,x.C) :: [(41,gy,cl)]) g (p++textA (nthL (fun k y=>(false,[[114,111,117,116,101,45,109,97,112],x.name,nthW k,yesW y.permit]) :: clAs y) 0 (x.clauses.take j))) w wr));case atStart=>exact⟨0,by omega,rfl,hid (by rw[List.take_zero,nthL,zAz,List.append_nil];exact H4.out)⟩
   case round=>
    obtain⟨j,hk,rfl,HR⟩:=hrel;by_cases hlt:j<x.clauses.length;case neg=>
     have hkz:¬((j:Int)<(x.clauses.length:Int)):=by omega
     rw[List.take_of_length_le (by omega)]at HR;go_wp2;go_roundg (r.maps.length - (k+1));case measure=>omega
     case rel=>
      refine⟨k+1,by omega,by go_num,hid ?_⟩;have hfin:=HR.out.pop;rw[hp.out]at hfin;rw[ET.out,zAk,HN.out];simpa only[List.append_assoc] using hfin
    have hkz:(j:Int)<(x.clauses.length:Int):=by omega
    obtain⟨gr,o,c', e',-,hgr,R0⟩:=SlV.elem (n:=7) (by decide) (fun _=>rfl) HVJ.out hlt;injection e' with e1 e2 e3
    subst e1 e3;have r1:=hid (zAf R0 ((HR.out.k.below (Nat.le_of_lt hg.out)).mono hB.out) hgr);clear R0 e2;have HX:=hid (hy.out _ (List.getElem_mem hlt));have ET:=hid (zAy (fun k y=>(false,[[114,111,117,116,101,45,109,97,112],x.name,nthW k,yesW y.permit]) :: clAs y) x.clauses hlt);have HP:=hid (zBa (fun k y=>(false,[[114,111,117,116,101,45,109,97,112],x.name,nthW k,yesW y.permit]) :: clAs y) x.clauses hlt);generalize x.clauses[j]=y at HX ET HP r1;go_upto_region 16 with(first|(refine zAa rfl 95 _ rfl rfl r1.out Tryz.rowCl Tryz.sizeCl ?_)|(refine zAd rfl 95 _ _ rfl rfl rfl (HasC.new wr _ _) rfl Tryz.sizeCl (Cl.one y) ?_;intro w4 hz1 hz2))
    obtain⟨q,hp⟩:∃zz,zz=p++textA (nthL (fun k y=>(false,[[114,111,117,116,101,45,109,97,112],x.name,nthW k,yesW y.permit]) :: clAs y) 0 (x.clauses.take j)):=⟨_,rfl⟩;have H4:Hid (XL ((95,wr.heap.size,y.C) :: ((52,gx,x.C) :: [(41,gy,cl)])) g q w w4):=hid (by rw[hp];exact HR.out.put hz1 (zAi hz2) (by decide));have HN:Hid (textA ((fun k y=>(false,[[114,111,117,116,101,45,109,97,112],x.name,nthW k,yesW y.permit]) :: clAs y) j y)=lnW (false,[[114,111,117,116,101,45,109,97,112],x.name,nthW j,yesW y.permit])++textA (clAs y)):=hid (rfl);have HM:Hid (q.length+(lnW (false,[[114,111,117,116,101,45,109,97,112],x.name,nthW j,yesW y.permit])++textA (clAs y)).length≤140737488355328):=hid (by rw[←HN.out,hp,List.length_append];have h1:=HM.out;have h2:=HP.out;(try dsimp only at h1 h2⊢);omega);replace hp:=hid hp;clear hz1 hz2 r1 HR HP;generalize wr.heap.size=gz at H4⊢;have hry:=HX.out;have hja:j≤100000:=by omega
    go_upto_region 16 with fail
    have HX:Hid (∀W,XL ((95,gz,y.C) :: ((52,gx,x.C) :: [(41,gy,cl)])) g (q) w W→W.cell? ⟨gx,0,none⟩=some (.string (str x.name))∧W.cell? ⟨gz,0,none⟩=some (.bool y.permit)):=hid fun W hW=>⟨hW.b.cell 0,hW.a.cell 0⟩
    refine zBt (fun W=>XL ((95,gz,y.C) :: ((52,gx,x.C) :: [(41,gy,cl)])) g (q) w W) [1,2,3,4,5,6,7] [8,9] (by kernel_rfl) rfl (by kernel_rfl) (H4.out.drew) (fun _ _ _ h=>h) rfl (fun W=>by go_simp<;>rfl) ?_;simp only[opsAt,List.getElem?_toArray,List.getElem?_cons_zero,List.getElem?_cons_succ,Act.put,List.setIfInBounds_toArray]
    repeat
     (first
      |(refine zCc (v:=?_) ?_ ?_ ?_;rotate_left;(· rfl);(· (intro W hW;obtain⟨c0,c1⟩:=HX.out W hW;go_simp<;>rfl)))
      |(refine zAq ?_ ?_ (fun W hW=>hW.call (aseq_any j hja W (HE.out _ hW.k))) ?_;(· rfl);(· (intro W hW;go_simp<;>rfl)))
      |(refine zAq ?_ ?_ (fun W hW=>hW.call (zHx y.permit W)) ?_;(· rfl);(· (intro W hW;go_simp<;>rfl))))
     simp only[Act.put]
    refine zCn ?_;intro wq hS;change wpList _ _ _ (_ :: _ :: []) _ _;have HS:=hid hS;clear hS HX;go_wp2_with fail;have hm:=HM.out;simp only[List.length_append]at hm;replace hm:=hid hm;refine(zBk HS.out false [[114,111,117,116,101,45,109,97,112],x.name,nthW j,yesW y.permit] (by simp) (by have:=hm.out;omega)).mono ?_;rintro e w6 ⟨rfl,h2⟩;have H6:=hid h2;clear h2 HS;have hra:=H6.out.a.range;go_wp2_with (first|(refine zAa rfl 95 _ rfl rfl hra Tryz.rowCl Tryz.sizeCl ?_));refine(aclause_any g _ y _ H6.out.t (HEA.out _ H6.out.k) hry (by have:=hm.out;rw[List.length_append];omega)).mono ?_;rintro e w7 ⟨rfl,h2,k2⟩;have H7:=hid (H6.out.go h2 k2);clear h2 k2 hra;go_wp2;go_roundg (x.clauses.length - (j+1));case measure=>omega
    case rel=>
     refine⟨j+1,by omega,by go_num,hid ?_⟩;have hfin:=H7.out.pop;rw[hp.out]at hfin;rw[ET.out,zAk,HN.out];simpa only[List.append_assoc] using hfin
 case rest=>
 clear H cc1;have H:=hid hcut;clear hcut;have cc2:wc.cell? ⟨gy,5,none⟩=some (.slice A2 r.acls.length c2):=(H.out.a.cell 5).trans C5.out;go_wp2;go_loopg [73] r.acls.length (fun gh ix wr=>∃k:Nat,k+gh=r.acls.length∧ix=.int .i64 k∧Hid (XL [(41,gy,cl)] g (s++textA (nthL (fun _=>plA) 0 r.lists)++textA (nthL (fun _=>mpA) 0 r.maps)++textA (nthL (fun _=>acA) 0 (r.acls.take k))) w wr));case atStart=>exact⟨0,by omega,rfl,hid (by rw[List.take_zero,nthL,zAz,List.append_nil];exact H.out)⟩
 case round=>
  obtain⟨k,hk,rfl,HR⟩:=hrel;by_cases hlt:k<r.acls.length;case neg=>
   have hkz:¬((k:Int)<(r.acls.length:Int)):=by omega
   rw[List.take_of_length_le (by omega)]at HR;go_wp2_with fail;go_end0;exact⟨rfl,by simpa only[List.append_assoc] using HR.out.t,HR.out.k⟩
  have hkz:(k:Int)<(r.acls.length:Int):=by omega
  obtain⟨gr,o,c', e',-,hgr,R0⟩:=SlV.elem (n:=2) (by decide) (fun _=>rfl) HV2.out hlt;injection e' with e1 e2 e3
  subst e1 e3;have r1:=hid (zAf R0 ((HR.out.k.below (Nat.le_of_lt hg.out)).mono hB.out) hgr);clear R0 e2;have HX:=hid (HQ2.out _ (List.getElem_mem hlt));have ET:=hid (zAy (fun _=>acA) r.acls hlt);have HP:=hid (zBa (fun _=>acA) r.acls hlt);generalize r.acls[k]=x at HX ET HP r1;go_upto_region 23 with(first|(refine zAa rfl 55 _ rfl rfl r1.out Tryz.rowAList Tryz.sizeAList ?_)|(refine zAd rfl 55 _ _ rfl rfl rfl (HasC.new wr _ _) rfl Tryz.sizeAList (AList.one x (SlV.one HX.out.1)) ?_;intro w4 hz1 hz2))
  obtain⟨p,hp⟩:∃zz,zz=s++textA (nthL (fun _=>plA) 0 r.lists)++textA (nthL (fun _=>mpA) 0 r.maps)++textA (nthL (fun _=>acA) 0 (r.acls.take k)):=⟨_,rfl⟩;have H4:Hid (XL ((55,wr.heap.size,x.C) :: [(41,gy,cl)]) g p w w4):=hid (by rw[hp];exact HR.out.put hz1 (zAi hz2) (by decide));have HN:Hid (textA ((fun _=>acA) k x)=textA (nthL (fun k y=>[ruA x.name k y]) 0 x.rules)):=hid (rfl);have HM:Hid (p.length+(textA (nthL (fun k y=>[ruA x.name k y]) 0 x.rules)).length≤140737488355328):=hid (by rw[←HN.out,hp,List.length_append];have h1:=HL.out;have h2:=HP.out;simp only[List.length_append]at h1⊢;omega);replace hp:=hid hp;clear hz1 hz2 r1 HR HP;generalize wr.heap.size=gx at H4⊢;obtain⟨hat,hsx,hy⟩:=HX.out;replace hy:=hid hy;have HVI:=hid hat;have hni:x.rules.length≤9223372036854775807:=by omega
  obtain⟨AI,cI,hvi,-,-⟩:=hat;have HVJ:Hid (SlV w B 10 Ru.C (.slice AI x.rules.length cI) x.rules):=hid (by have:=HVI.out;unfold AList.at at this;rwa [hvi]at this);clear HVI HX;have ci:w4.cell? ⟨gx,1,none⟩=some (.slice AI x.rules.length cI):=by rw[←hvi];exact H4.out.a.cell 1
  clear hvi;go_wp2;go_loopg [80] x.rules.length (fun gh ix wr=>∃j:Nat,j+gh=x.rules.length∧ix=.int .i64 j∧Hid (XL ((55,gx,x.C) :: [(41,gy,cl)]) g (p++textA (nthL (fun k y=>[ruA x.name k y]) 0 (x.rules.take j))) w wr));case atStart=>exact⟨0,by omega,rfl,hid (by rw[List.take_zero,nthL,zAz,List.append_nil];exact H4.out)⟩
  case round=>
   obtain⟨j,hk,rfl,HR⟩:=hrel;by_cases hlt:j<x.rules.length;case neg=>
    have hkz:¬((j:Int)<(x.rules.length:Int)):=by omega
    rw[List.take_of_length_le (by omega)]at HR;go_wp2;go_roundg (r.acls.length - (k+1));case measure=>omega
    case rel=>
     refine⟨k+1,by omega,by go_num,hid ?_⟩;have hfin:=HR.out.pop;rw[hp.out]at hfin;rw[ET.out,zAk,HN.out];simpa only[List.append_assoc] using hfin
   have hkz:(j:Int)<(x.rules.length:Int):=by omega
   obtain⟨gr,o,c', e',-,hgr,R0⟩:=SlV.elem (n:=10) (by decide) (fun _=>rfl) HVJ.out hlt;injection e' with e1 e2 e3
   subst e1 e3;have r1:=hid (zAf R0 ((HR.out.k.below (Nat.le_of_lt hg.out)).mono hB.out) hgr);clear R0 e2;have HX:=hid (hy.out _ (List.getElem_mem hlt));have ET:=hid (zAy (fun k y=>[ruA x.name k y]) x.rules hlt);have HP:=hid (zBa (fun k y=>[ruA x.name k y]) x.rules hlt);generalize x.rules[j]=y at HX ET HP r1;go_upto_region 26 with(first|(refine zAa rfl 103 _ rfl rfl r1.out Tryz.rowRu Tryz.sizeRu ?_)|(refine zAd rfl 103 _ _ rfl rfl rfl (HasC.new wr _ _) rfl Tryz.sizeRu (Ru.one y) ?_;intro w4 hz1 hz2))
   obtain⟨q,hp⟩:∃zz,zz=p++textA (nthL (fun k y=>[ruA x.name k y]) 0 (x.rules.take j)):=⟨_,rfl⟩;have H4:Hid (XL ((103,wr.heap.size,y.C) :: ((55,gx,x.C) :: [(41,gy,cl)])) g q w w4):=hid (by rw[hp];exact HR.out.put hz1 (zAi hz2) (by decide));have HN:Hid (textA ((fun k y=>[ruA x.name k y]) j y)=lnW (false,(ruA x.name j y).2)):=hid (zAx _);have HM:Hid (q.length+(lnW (false,(ruA x.name j y).2)).length≤140737488355328):=hid (by rw[←HN.out,hp,List.length_append];have h1:=HM.out;have h2:=HP.out;(try dsimp only at h1 h2⊢);omega);replace hp:=hid hp;clear hz1 hz2 r1 HR HP;generalize wr.heap.size=gz at H4⊢;obtain⟨hry,hfy⟩:=HX.out;have hra:=H4.out.a.range;have cn:w4.cell? ⟨gx,0,none⟩=some (.string (str x.name)):=H4.out.b.cell 0;go_wp2_with (first|(refine zAa rfl 103 _ rfl rfl hra Tryz.rowRu Tryz.sizeRu ?_));refine(aaccess_any x.name j y _ (HE.out _ H4.out.k) (by omega) hry hfy).mono ?_;rintro e w6 ⟨v,rfl,hsl,hb⟩;have H6:=hid (And.intro (hsl g H4.out.t.lt) (H4.out.below hb));clear hb hsl hra;go_wp2_with fail;refine(zHv H6.out.2 v false (ruA x.name j y).2 H6.out.1 (by exact Nat.le_trans (ws_ru x.name j y) (Nat.le_of_ble_eq_true rfl)) HM.out).mono ?_;rintro e w7 ⟨rfl,h2⟩;have H7:=hid h2;clear h2;go_wp2;go_roundg (x.rules.length - (j+1));case measure=>omega
   case rel=>
    refine⟨j+1,by omega,by go_num,hid ?_⟩;have hfin:=H7.out.pop;rw[hp.out]at hfin;rw[ET.out,zAk,HN.out];simpa only[List.append_assoc] using hfin
theorem tr_kinds{x:Tr}(h:zBi x=true):x.kind=1∨x.kind=2∨x.kind=3:=by
 unfold zBi at h;split at h
 ·exact .inl ‹_›
 ·split at h
  ·exact .inr (.inl ‹_›)
  ·split at h
   ·exact .inr (.inr ‹_›)
   ·cases h
theorem tr_forward{x:Tr}(h:zBi x=true)(e:x.kind=3):(x.proto=6∨x.proto=17)∧(0≤x.iport∧x.iport≤65535)∧0≤x.oport∧x.oport≤65535:=by
 unfold zBi at h;rw[if_neg (by omega),if_neg (by omega),if_pos e]at h;simp only[Bool.and_eq_true]at h;obtain⟨⟨⟨⟨⟨⟨⟨_,_⟩,h3⟩,h4⟩,h5⟩,_⟩,_⟩,_⟩:=h;exact⟨by simpa using h3,zAp h4,zAp h5⟩
theorem afwd_any(g:Nat)(s:List UInt8)(r:Rt)(w:World)(B:Nat)(h:TA g s w)(he:EnvA g w)(hB:B≤g)(hr:r.at w B)(h1:∀x∈r.nat,zBi x=true∧x.fit)(h2:∀x∈r.stat,zAv x.pa x.pl=true∧(1≤x.admin∧x.admin≤255)∧(0≤x.tag∧x.tag≤65535)∧x.fit)(hl:(s++textA (fwdA r)).length≤140737488355328) :
  Calls Tryz.prog 13 #[.pointer (some ⟨g,0,none⟩),.agg r.C] w (AP g s (textA (fwdA r)) w):=by
 have HT:textA (fwdA r)=textA (nthL (fun _ x=>[trA x]) 0 r.nat)++textA (nthL (fun _ x=>[srA x]) 0 r.stat):=by rw[fwdA,zAk,zBy trA _ 0,zBy srA _ 0]
 rw[HT]at hl⊢;clear HT;have HL:=hid hl;have hg:=hid h.lt;have HEA:Hid (∀W,FK g w W→EnvA g W):=hid fun W hk=>he.keep (hk.below (Nat.le_of_lt hg.out))
 have HE:Hid (∀W,FK g w W→Env W):=hid fun W hk=>(HEA.out W hk).1
 replace hB:=hid hB;have HV0:=hid hr.hnat;have hn0:r.nat.length≤9223372036854775807:=by have:=hr.hnat.len;unfold maxLen at this;omega
 obtain⟨A0,c0,hve0,-,-⟩:=hr.hnat;rw[hve0]at HV0;have HQ0:=hid h1;have HV1:=hid hr.hstat;have hn1:r.stat.length≤9223372036854775807:=by have:=hr.hstat.len;unfold maxLen at this;omega
 obtain⟨A1,c1,hve1,-,-⟩:=hr.hstat;rw[hve1]at HV1;have HQ1:=hid h2;have H:=hid ((XL.start h).new (T:=41) (cs:=r.C) (by decide));clear hl h he hr h1 h2;go_enter Tryz.func13,Tryz.ntmps13;go_upto_region 1 with fail
 generalize w.alloc (.cells r.C 41)=wc at H⊢;generalize w.heap.size=gy at H⊢;obtain⟨cl,hcl⟩:∃cl,cl=r.C:=⟨_,rfl⟩;rw[←hcl]at H;have C6:Hid (cl[6]? = some (.slice A0 r.nat.length c0)):=hid (by rw[hcl,←hve0];rfl);have C7:Hid (cl[7]? = some (.slice A1 r.stat.length c1)):=hid (by rw[hcl,←hve1];rfl);clear hcl hve0 hve1;have c6:wc.cell? ⟨gy,6,none⟩=some (.slice A0 r.nat.length c0):=(H.out.a.cell 6).trans C6.out;go_upto_block 0 with fail
 go_cut [] (fun wx=>XL [(41,gy,cl)] g (s++textA (nthL (fun _ x=>[trA x]) 0 r.nat)) w wx)
 case first=>
  go_wp2;go_loopg [12] r.nat.length (fun gh ix wr=>∃k:Nat,k+gh=r.nat.length∧ix=.int .i64 k∧Hid (XL [(41,gy,cl)] g (s++textA (nthL (fun _ x=>[trA x]) 0 (r.nat.take k))) w wr));case atStart=>exact⟨0,by omega,rfl,hid (by rw[List.take_zero,nthL,zAz,List.append_nil];exact H.out)⟩
  case round=>
   obtain⟨k,hk,rfl,HR⟩:=hrel;by_cases hlt:k<r.nat.length;case neg=>
    have hkz:¬((k:Int)<(r.nat.length:Int)):=by omega
    rw[List.take_of_length_le (by omega)]at HR;go_wp2;go_meet;exact HR.out
   have hkz:(k:Int)<(r.nat.length:Int):=by omega
   obtain⟨gr,o,c', e',-,hgr,R0⟩:=SlV.elem (n:=9) (by decide) (fun _=>rfl) HV0.out hlt;injection e' with e1 e2 e3
   subst e1 e3;have r1:=hid (zAf R0 ((HR.out.k.below (Nat.le_of_lt hg.out)).mono hB.out) hgr);clear R0 e2;have HX:=hid (HQ0.out _ (List.getElem_mem hlt));have ET:=hid (zAy (fun _ x=>[trA x]) r.nat hlt);have HP:=hid (zBa (fun _ x=>[trA x]) r.nat hlt);generalize r.nat[k]=x at HX ET HP r1;go_upto_region 4 with(first|(refine zAa rfl 106 _ rfl rfl r1.out Tryz.rowTr Tryz.sizeTr ?_)|(refine zAd rfl 106 _ _ rfl rfl rfl (HasC.new wr _ _) rfl Tryz.sizeTr (Tr.one x) ?_;intro w4 hz1 hz2))
   obtain⟨p,hp⟩:∃zz,zz=s++textA (nthL (fun _ x=>[trA x]) 0 (r.nat.take k)):=⟨_,rfl⟩;have H4:Hid (XL ((106,wr.heap.size,x.C) :: [(41,gy,cl)]) g p w w4):=hid (by rw[hp];exact HR.out.put hz1 (zAi hz2) (by decide));have HM:Hid (p.length+(textA [trA x]).length≤140737488355328):=hid (by rw[hp,List.length_append];have h1:=HL.out;have h2:_+(textA [trA x]).length≤_:=HP.out;simp only[List.length_append]at h1⊢;omega);replace hp:=hid hp;clear hz1 hz2 r1 HR HP;generalize wr.heap.size=gx at H4⊢;obtain⟨hr,f1,f2,f3,f4⟩:=HX.out;have hk3:=tr_kinds hr;have c0:w4.cell? ⟨gx,0,none⟩=some (.int .i64 x.kind):=H4.out.a.cell 0;by_cases e1:x.kind=1
   ·have E:textA [trA x]=lnW (false,[[110,97,116],[115,116,97,116,105,99],fmtA x.ins,fmtA x.outs]):=by rw[zAx,trA,trW,e1];rfl
    have g1:(x.kind==1)=true:=by rw[e1];rfl
    have g2:(x.kind==2)=false:=by rw[e1];rfl
    have g3:(x.kind==3)=false:=by rw[e1];rfl
    clear e1 hr hk3;go_upto_region 6 with fail
    have HX:Hid (∀W,XL ((106,gx,x.C) :: [(41,gy,cl)]) g (p) w W→W.cell? ⟨gx,1,none⟩=some (.int .u32 (x.ins:Int))∧W.cell? ⟨gx,2,none⟩=some (.int .u32 (x.outs:Int))):=hid fun W hW=>⟨hW.a.cell 1,hW.a.cell 2⟩
    refine zBt (fun W=>XL ((106,gx,x.C) :: [(41,gy,cl)]) g (p) w W) [1,2,3,4,5,6] [7,8] (by kernel_rfl) rfl (by kernel_rfl) (H4.out.drew) (fun _ _ _ h=>h) rfl (fun W=>by go_simp<;>rfl) ?_;simp only[opsAt,List.getElem?_toArray,List.getElem?_cons_zero,List.getElem?_cons_succ,Act.put,List.setIfInBounds_toArray]
    repeat
     (first
      |(refine zCc (v:=?_) ?_ ?_ ?_;rotate_left;(· rfl);(· (intro W hW;obtain⟨c0,c1⟩:=HX.out W hW;go_simp<;>rfl)))
      |(refine zAq ?_ ?_ (fun W hW=>hW.call (zCy x.ins W f1 (HE.out _ hW.k))) ?_;(· rfl);(· (intro W hW;go_simp<;>rfl)))
      |(refine zAq ?_ ?_ (fun W hW=>hW.call (zCy x.outs W f2 (HE.out _ hW.k))) ?_;(· rfl);(· (intro W hW;go_simp<;>rfl))))
     simp only[Act.put]
    refine zCn ?_;intro wq hS;change wpList _ _ _ (_ :: _ :: []) _ _;have HS:=hid hS;clear hS HX;go_wp2_with fail;refine(zBk HS.out false [[110,97,116],[115,116,97,116,105,99],fmtA x.ins,fmtA x.outs] (by simp) (by rw[←E];exact HM.out)).mono ?_;rintro e w2 ⟨rfl,h2⟩;rw[←E]at h2;have H2:=hid h2;clear h2;go_wp2;go_roundg (r.nat.length - (k+1));case measure=>omega
    case rel=>
     refine⟨k+1,by omega,by go_num,hid ?_⟩;have hfin:=H2.out.pop;rw[hp.out]at hfin;rw[ET.out,zAk];simpa only[List.append_assoc] using hfin
   by_cases e2:x.kind=2
   ·have E:textA [trA x]=lnW (false,[[110,97,116],[112,111,111,108],x.list,fmtA x.lo,fmtA x.hi]):=by rw[zAx,trA,trW,e2];rfl
    have g1:(x.kind==1)=false:=by rw[e2];rfl
    have g2:(x.kind==2)=true:=by rw[e2];rfl
    have g3:(x.kind==3)=false:=by rw[e2];rfl
    clear e2 hr hk3;go_upto_region 8 with fail
    have HX:Hid (∀W,XL ((106,gx,x.C) :: [(41,gy,cl)]) g (p) w W→W.cell? ⟨gx,6,none⟩=some (.string (str x.list))∧W.cell? ⟨gx,7,none⟩=some (.int .u32 (x.lo:Int))∧W.cell? ⟨gx,8,none⟩=some (.int .u32 (x.hi:Int))):=hid fun W hW=>⟨hW.a.cell 6,hW.a.cell 7,hW.a.cell 8⟩
    refine zBt (fun W=>XL ((106,gx,x.C) :: [(41,gy,cl)]) g (p) w W) [1,2,3,4,5,6,7,8] [9,10] (by kernel_rfl) rfl (by kernel_rfl) (H4.out.drew) (fun _ _ _ h=>h) rfl (fun W=>by go_simp<;>rfl) ?_;simp only[opsAt,List.getElem?_toArray,List.getElem?_cons_zero,List.getElem?_cons_succ,Act.put,List.setIfInBounds_toArray]
    repeat
     (first
      |(refine zCc (v:=?_) ?_ ?_ ?_;rotate_left;(· rfl);(· (intro W hW;obtain⟨c0,c1,c2⟩:=HX.out W hW;go_simp<;>rfl)))
      |(refine zAq ?_ ?_ (fun W hW=>hW.call (zCy x.lo W f3 (HE.out _ hW.k))) ?_;(· rfl);(· (intro W hW;go_simp<;>rfl)))
      |(refine zAq ?_ ?_ (fun W hW=>hW.call (zCy x.hi W f4 (HE.out _ hW.k))) ?_;(· rfl);(· (intro W hW;go_simp<;>rfl))))
     simp only[Act.put]
    refine zCn ?_;intro wq hS;change wpList _ _ _ (_ :: _ :: []) _ _;have HS:=hid hS;clear hS HX;go_wp2_with fail;refine(zBk HS.out false [[110,97,116],[112,111,111,108],x.list,fmtA x.lo,fmtA x.hi] (by simp) (by rw[←E];exact HM.out)).mono ?_;rintro e w2 ⟨rfl,h2⟩;rw[←E]at h2;have H2:=hid h2;clear h2;go_wp2;go_roundg (r.nat.length - (k+1));case measure=>omega
    case rel=>
     refine⟨k+1,by omega,by go_num,hid ?_⟩;have hfin:=H2.out.pop;rw[hp.out]at hfin;rw[ET.out,zAk];simpa only[List.append_assoc] using hfin
   by_cases e3:x.kind=3
   ·have hq:=tr_forward hr e3
    have hpa:protA x.proto=protW x.proto:=by unfold protA;rw[if_neg (by simp;omega)]
    have E:textA [trA x]=lnW (false,[[110,97,116],[102,111,114,119,97,114,100],protA x.proto,fmtA x.outs,decI x.oport,fmtA x.ins,decI x.iport]):=by rw[zAx,trA,trW,e3,hpa];rfl
    have b1 : -1≤x.proto:=by omega
    have b2:x.proto≤16777215:=by omega
    obtain⟨-,⟨b5,b6⟩,b3,b4⟩:=hq;replace b4:x.oport≤16777215:=by omega
    replace b6:x.iport≤16777215:=by omega
    have g1:(x.kind==1)=false:=by rw[e3];rfl
    have g2:(x.kind==2)=false:=by rw[e3];rfl
    have g3:(x.kind==3)=true:=by rw[e3];rfl
    clear e3 hr hk3 hpa;go_upto_region 10 with fail
    have HX:Hid (∀W,XL ((106,gx,x.C) :: [(41,gy,cl)]) g (p) w W→W.cell? ⟨gx,3,none⟩=some (.int .i64 x.proto)∧W.cell? ⟨gx,2,none⟩=some (.int .u32 (x.outs:Int))∧W.cell? ⟨gx,5,none⟩=some (.int .i64 x.oport)∧W.cell? ⟨gx,1,none⟩=some (.int .u32 (x.ins:Int))∧W.cell? ⟨gx,4,none⟩=some (.int .i64 x.iport)):=hid fun W hW=>⟨hW.a.cell 3,hW.a.cell 2,hW.a.cell 5,hW.a.cell 1,hW.a.cell 4⟩
    refine zBt (fun W=>XL ((106,gx,x.C) :: [(41,gy,cl)]) g (p) w W) [1,2,3,4,5,6,7,8,9,10,11,12,13,14,15] [16,17] (by kernel_rfl) rfl (by kernel_rfl) (H4.out.drew) (fun _ _ _ h=>h) rfl (fun W=>by go_simp<;>rfl) ?_;simp only[opsAt,List.getElem?_toArray,List.getElem?_cons_zero,List.getElem?_cons_succ,Act.put,List.setIfInBounds_toArray]
    repeat
     (first
      |(refine zCc (v:=?_) ?_ ?_ ?_;rotate_left;(· rfl);(· (intro W hW;obtain⟨c0,c1,c2,c3,c4⟩:=HX.out W hW;go_simp<;>rfl)))
      |(refine zAq ?_ ?_ (fun W hW=>hW.call (aprot_any x.proto b1 b2 W (HE.out _ hW.k))) ?_;(· rfl);(· (intro W hW;go_simp<;>rfl)))
      |(refine zAq ?_ ?_ (fun W hW=>hW.call (zCy x.outs W f2 (HE.out _ hW.k))) ?_;(· rfl);(· (intro W hW;go_simp<;>rfl)))
      |(refine zAq ?_ ?_ (fun W hW=>hW.call (zBn x.oport b3 b4 W (HE.out _ hW.k))) ?_;(· rfl);(· (intro W hW;go_simp<;>rfl)))
      |(refine zAq ?_ ?_ (fun W hW=>hW.call (zCy x.ins W f1 (HE.out _ hW.k))) ?_;(· rfl);(· (intro W hW;go_simp<;>rfl)))
      |(refine zAq ?_ ?_ (fun W hW=>hW.call (zBn x.iport b5 b6 W (HE.out _ hW.k))) ?_;(· rfl);(· (intro W hW;go_simp<;>rfl))))
     simp only[Act.put]
    refine zCn ?_;intro wq hS;change wpList _ _ _ (_ :: _ :: []) _ _;have HS:=hid hS;clear hS HX;go_wp2_with fail;refine(zBk HS.out false [[110,97,116],[102,111,114,119,97,114,100],protA x.proto,fmtA x.outs,decI x.oport,fmtA x.ins,decI x.iport] (by simp) (by rw[←E];exact HM.out)).mono ?_;rintro e w2 ⟨rfl,h2⟩;rw[←E]at h2;have H2:=hid h2;clear h2;go_wp2;go_roundg (r.nat.length - (k+1));case measure=>omega
    case rel=>
     refine⟨k+1,by omega,by go_num,hid ?_⟩;have hfin:=H2.out.pop;rw[hp.out]at hfin;rw[ET.out,zAk];simpa only[List.append_assoc] using hfin
   omega
 case rest=>
 clear H c6;have H:=hid hcut;clear hcut;have c7:wc.cell? ⟨gy,7,none⟩=some (.slice A1 r.stat.length c1):=(H.out.a.cell 7).trans C7.out;go_wp2;go_loopg [66] r.stat.length (fun gh ix wr=>∃k:Nat,k+gh=r.stat.length∧ix=.int .i64 k∧Hid (XL [(41,gy,cl)] g (s++textA (nthL (fun _ x=>[trA x]) 0 r.nat)++textA (nthL (fun _ x=>[srA x]) 0 (r.stat.take k))) w wr));case atStart=>exact⟨0,by omega,rfl,hid (by rw[List.take_zero,nthL,zAz,List.append_nil];exact H.out)⟩
 case round=>
  obtain⟨k,hk,rfl,HR⟩:=hrel;by_cases hlt:k<r.stat.length;case neg=>
   have hkz:¬((k:Int)<(r.stat.length:Int)):=by omega
   rw[List.take_of_length_le (by omega)]at HR;go_wp2_with fail;go_end0;exact⟨rfl,by simpa only[List.append_assoc] using HR.out.t,HR.out.k⟩
  have hkz:(k:Int)<(r.stat.length:Int):=by omega
  obtain⟨gr,o,c', e',-,hgr,R0⟩:=SlV.elem (n:=7) (by decide) (fun _=>rfl) HV1.out hlt;injection e' with e1 e2 e3
  subst e1 e3;have r1:=hid (zAf R0 ((HR.out.k.below (Nat.le_of_lt hg.out)).mono hB.out) hgr);clear R0 e2;have HX:=hid (HQ1.out _ (List.getElem_mem hlt));have ET:=hid (zAy (fun _ x=>[srA x]) r.stat hlt);have HP:=hid (zBa (fun _ x=>[srA x]) r.stat hlt);generalize r.stat[k]=x at HX ET HP r1;go_upto_region 15 with(first|(refine zAa rfl 109 _ rfl rfl r1.out Tryz.rowSr Tryz.sizeSr ?_)|(refine zAd rfl 109 _ _ rfl rfl rfl (HasC.new wr _ _) rfl Tryz.sizeSr (Sr.one x) ?_;intro w4 hz1 hz2))
  obtain⟨p,hp⟩:∃zz,zz=s++textA (nthL (fun _ x=>[trA x]) 0 r.nat)++textA (nthL (fun _ x=>[srA x]) 0 (r.stat.take k)):=⟨_,rfl⟩;have H4:Hid (XL ((109,wr.heap.size,x.C) :: [(41,gy,cl)]) g p w w4):=hid (by rw[hp];exact HR.out.put hz1 (zAi hz2) (by decide));have HN:Hid (textA ((fun _ x=>[srA x]) k x)=lnW (false,(srA x).2)):=hid (zAx _);have HM:Hid (p.length+(lnW (false,(srA x).2)).length≤140737488355328):=hid (by rw[←HN.out,hp,List.length_append];have h1:=HL.out;have h2:=HP.out;simp only[List.length_append]at h1⊢;omega);replace hp:=hid hp;clear hz1 hz2 r1 HR HP;generalize wr.heap.size=gx at H4⊢;obtain⟨hv,k1,k2,f1,f2⟩:=HX.out;have HBX:Hid (∀W,Below w4.heap.size w4 W→Env W):=hid fun W hk=>HE.out _ (H4.out.k.trans (.of_below hk))
  have HY:=hid (YA.one H4.out.a);have c0:w4.cell? ⟨gx,0,none⟩=some (.int .u32 (x.pa:Int)):=HY.out.a.cell 0;have c1:w4.cell? ⟨gx,1,none⟩=some (.int .i64 x.pl):=HY.out.a.cell 1;go_wp2_with fail;refine(zBr x.pa x.pl _ f1 (HBX.out _ HY.out.b)).mono ?_;rintro e w1 ⟨rfl,hb⟩;have H1:=hid (HY.out.below hb);clear hb;go_upto_block 5 with fail
  have HF:=hid (WF.new (ws:=[[114,111,117,116,101],pfxF x.pa x.pl]) H1.out.a H1.out.b (by decide) (by simp));change Code.wp _ _ _ _ (w1.alloc (.cells (([[114,111,117,116,101],pfxF x.pa x.pl]:List (List UInt8)).map strV).toArray 9));clear HY H1 c0 c1;generalize w1.alloc (.cells (([[114,111,117,116,101],pfxF x.pa x.pl]:List (List UInt8)).map strV).toArray 9)=w5 at HF⊢;generalize w1.heap.size=bw at HF⊢;have c2:w5.cell? ⟨gx,2,none⟩=some (.int .u32 (x.next:Int)):=HF.out.x.cell 2;have c3:w5.cell? ⟨gx,3,none⟩=some (.string (str x.iface)):=HF.out.x.cell 3
  go_cut [8] (fun v wx=>WF 109 gx x.C ([[114,111,117,116,101],pfxF x.pa x.pl]++goalA x) v w4 wx)
  case first=>
   by_cases e1:x.next=0
   ·have d1:((x.next:Int) != 0)=false:=by rw[e1];rfl
    cases hc:(!x.iface.isEmpty)with
    |true=>
     have E:goalA x=[[105,110,116,101,114,102,97,99,101],x.iface]:=by rw[goalA,e1,hc];rfl
     have hs:=zCm hc;clear e1;go_wp2_with (at_builtin;refine zBb rfl _ _ rfl HF.out [[105,110,116,101,114,102,97,99,101],x.iface] rfl rfl (Nat.le_trans (Nat.add_le_add (Nat.le_of_ble_eq_true rfl:_≤20) (Nat.le_of_ble_eq_true rfl:_≤20)) (Nat.le_of_ble_eq_true rfl)) ?_);intro v6 w6 h6 k6;replace h6:=hid h6;clear k6;go_wp2;go_meet;rw[E];first|exact h6.out|simpa only[List.append_assoc,List.cons_append,List.nil_append] using h6.out
    |false=>
     have E:goalA x=[[100,105,115,99,97,114,100]]:=by rw[goalA,e1,hc];rfl
     have hs:=zCg hc;clear e1;go_wp2_with (at_builtin;refine zBb rfl _ _ rfl HF.out [[100,105,115,99,97,114,100]] rfl rfl (Nat.le_trans (Nat.add_le_add (Nat.le_of_ble_eq_true rfl:_≤20) (Nat.le_of_ble_eq_true rfl:_≤20)) (Nat.le_of_ble_eq_true rfl)) ?_);intro v6 w6 h6 k6;replace h6:=hid h6;clear k6;go_wp2;go_meet;rw[E];first|exact h6.out|simpa only[List.append_assoc,List.cons_append,List.nil_append] using h6.out
   ·have d1:((x.next:Int) != 0)=true:=by simp;omega
    have E:goalA x=[[118,105,97],fmtA x.next]:=by rw[goalA,if_pos (by simpa using e1)]
    clear e1;go_wp2_with fail;refine(zCy x.next _ f2 (HBX.out _ HF.out.b)).mono ?_;rintro e w1 ⟨rfl,hb⟩;have HG:=hid (HF.out.below hb);clear hb;go_wp2_with (at_builtin;refine zBb rfl _ _ rfl HG.out [[118,105,97],fmtA x.next] rfl rfl (Nat.le_trans (Nat.add_le_add (Nat.le_of_ble_eq_true rfl:_≤20) (Nat.le_of_ble_eq_true rfl:_≤20)) (Nat.le_of_ble_eq_true rfl)) ?_);intro v6 w6 h6 k6;replace h6:=hid h6;clear k6;go_wp2;go_meet;rw[E];first|exact h6.out|simpa only[List.append_assoc,List.cons_append,List.nil_append] using h6.out
  case rest=>
  clear HF c2 c3;have HF:=hid hcut;clear hcut;have c5:wc.cell? ⟨gx,5,none⟩=some (.int .i64 x.admin):=HF.out.x.cell 5;go_upto_if 98 with fail
  go_cut [8] (fun v wx=>WF 109 gx x.C ([[114,111,117,116,101],pfxF x.pa x.pl]++goalA x++optL (!(x.admin==1)) [[97,100,109,105,110],decI x.admin]) v w4 wx)
  case first=>
   cases hc:(!(x.admin==1))with
   |true=>
    have E:(optL (!(x.admin==1)) [[97,100,109,105,110],decI x.admin]:List (List UInt8))=[[97,100,109,105,110],decI x.admin]:=by rw[hc];rfl
    have hs:(x.admin != 1)=true:=hc;rw[hs];go_wp2_with fail;refine(zBn x.admin (by omega) (by omega) _ (HBX.out _ HF.out.b)).mono ?_;rintro e w1 ⟨rfl,hb⟩;have HG:=hid (HF.out.below hb);clear hb;go_wp2_with (at_builtin;refine zBb rfl _ _ rfl HG.out [[97,100,109,105,110],decI x.admin] rfl rfl (Nat.le_trans (Nat.add_le_add (zCh (Nat.le_of_ble_eq_true rfl:_≤20) (goalA_le x)) (Nat.le_of_ble_eq_true rfl:_≤20)) (Nat.le_of_ble_eq_true rfl)) ?_);intro v6 w6 h6 k6;replace h6:=hid h6;clear k6;go_wp2;go_meet;rw[E];first|exact h6.out|simpa only[List.append_assoc,List.cons_append,List.nil_append] using h6.out
   |false=>
    have E:(optL (!(x.admin==1)) [[97,100,109,105,110],decI x.admin]:List (List UInt8))=[]:=by rw[hc];rfl
    have hs:(x.admin != 1)=false:=hc;rw[hs];go_wp2;go_meet;rw[E,List.append_nil];exact HF.out
  case rest=>
  clear HF c5;have HF:=hid hcut;clear hcut;have c6:wc.cell? ⟨gx,6,none⟩=some (.int .i64 x.tag):=HF.out.x.cell 6;go_upto_if 107 with fail
  go_cut [8] (fun v wx=>WF 109 gx x.C ([[114,111,117,116,101],pfxF x.pa x.pl]++goalA x++optL (!(x.admin==1)) [[97,100,109,105,110],decI x.admin]++optL (!(x.tag==0)) [[116,97,103],decI x.tag]) v w4 wx)
  case first=>
   cases hc:(!(x.tag==0))with
   |true=>
    have E:(optL (!(x.tag==0)) [[116,97,103],decI x.tag]:List (List UInt8))=[[116,97,103],decI x.tag]:=by rw[hc];rfl
    have hs:(x.tag != 0)=true:=hc;rw[hs];go_wp2_with fail;refine(zBn x.tag (by omega) (by omega) _ (HBX.out _ HF.out.b)).mono ?_;rintro e w1 ⟨rfl,hb⟩;have HG:=hid (HF.out.below hb);clear hb;go_wp2_with (at_builtin;refine zBb rfl _ _ rfl HG.out [[116,97,103],decI x.tag] rfl rfl (Nat.le_trans (Nat.add_le_add (zCh (zCh (Nat.le_of_ble_eq_true rfl:_≤20) (goalA_le x)) (zDd (Nat.le_of_ble_eq_true rfl))) (Nat.le_of_ble_eq_true rfl:_≤20)) (Nat.le_of_ble_eq_true rfl)) ?_);intro v6 w6 h6 k6;replace h6:=hid h6;clear k6;go_wp2;go_meet;rw[E];first|exact h6.out|simpa only[List.append_assoc,List.cons_append,List.nil_append] using h6.out
   |false=>
    have E:(optL (!(x.tag==0)) [[116,97,103],decI x.tag]:List (List UInt8))=[]:=by rw[hc];rfl
    have hs:(x.tag != 0)=false:=hc;rw[hs];go_wp2;go_meet;rw[E,List.append_nil];exact HF.out
  case rest=>
  clear HF c6;have HF:=hid hcut;clear hcut;have HW:Hid ((srA x).2=[[114,111,117,116,101],pfxF x.pa x.pl]++goalA x++optL (!(x.admin==1)) [[97,100,109,105,110],decI x.admin]++optL (!(x.tag==0)) [[116,97,103],decI x.tag]):=hid (by rw[srA];simp only[List.append_assoc]);go_wp2_with fail;refine(zHv (H4.out.below HF.out.b) _ false ((srA x).2) (by rw[HW.out];exact HF.out.sls (by have:=H4.out.t.lt;omega) (by simp)) (by rw[HW.out];exact Nat.le_trans (zCh (zCh (zCh (Nat.le_of_ble_eq_true rfl:_≤20) (goalA_le x)) (zDd (Nat.le_of_ble_eq_true rfl))) (zDd (Nat.le_of_ble_eq_true rfl))) (Nat.le_of_ble_eq_true rfl)) HM.out).mono ?_;rintro e w7 ⟨rfl,h2⟩;have H7:=hid h2;clear h2;go_wp2;go_roundg (r.stat.length - (k+1));case measure=>omega
  case rel=>
   refine⟨k+1,by omega,by go_num,hid ?_⟩;have hfin:=H7.out.pop;rw[hp.out]at hfin;rw[ET.out,zAk,HN.out];simpa only[List.append_assoc] using hfin
theorem ared_any(g:Nat)(s:List UInt8)(l:List Rd)(v:Value)(w:World)(B:Nat)(h:TA g s w)(he:EnvA g w)(hB:B≤g)(hv:SlV w B 5 Rd.C v l)(hx:∀x∈l,okRd x)(hl:(s++textA (l.map rdA)).length≤140737488355328) :
  Calls Tryz.prog 51 #[.pointer (some ⟨g,0,none⟩),v] w (AP g s (textA (l.map rdA)) w):=by
 rw[zBy rdA l 0]at hl⊢;have HL:=hid hl;have hg:=hid h.lt;have HEA:Hid (∀W,FK g w W→EnvA g W):=hid fun W hk=>he.keep (hk.below (Nat.le_of_lt hg.out))
 have HE:Hid (∀W,FK g w W→Env W):=hid fun W hk=>(HEA.out W hk).1
 replace hB:=hid hB;have HV:=hid hv;have hln:l.length≤9223372036854775807:=by have:=hv.len;unfold maxLen at this;omega
 obtain⟨A,c,hve,hle,-⟩:=hv;replace hx:=hid hx;have H:=hid (XL.start h);clear hl h he;subst hve;go_enter Tryz.func51,Tryz.ntmps51;go_wp2;go_loopg [9] l.length (fun gh ix wr=>∃k:Nat,k+gh=l.length∧ix=.int .i64 k∧Hid (XL [] g (s++textA (nthL (fun _ x=>[rdA x]) 0 (l.take k))) w wr));case atStart=>exact⟨0,by omega,rfl,hid (by rw[List.take_zero,nthL,zAz,List.append_nil];exact H.out)⟩
 case round=>
  obtain⟨k,hk,rfl,HR⟩:=hrel;by_cases hlt:k<l.length;case neg=>
   have hkz:¬((k:Int)<(l.length:Int)):=by omega
   rw[List.take_of_length_le (by omega)]at HR;go_wp2_with fail;go_end0;exact⟨rfl,by simpa only[List.append_assoc] using HR.out.t,HR.out.k⟩
  have hkz:(k:Int)<(l.length:Int):=by omega
  obtain⟨gr,o,c', e',-,hgr,R0⟩:=SlV.elem (n:=5) (by decide) (fun _=>rfl) HV.out hlt;injection e' with e1 e2 e3
  subst e1 e3;have r1:=hid (zAf R0 ((HR.out.k.below (Nat.le_of_lt hg.out)).mono hB.out) hgr);clear R0 e2;have HX:=hid (hx.out _ (List.getElem_mem hlt));have ET:=hid (zAy (fun _ x=>[rdA x]) l hlt);have HP:=hid (zBa (fun _ x=>[rdA x]) l hlt);generalize l[k]=x at HX ET HP r1;go_upto_region 3 with(first|(refine zAa rfl 149 _ rfl rfl r1.out Tryz.rowRd Tryz.sizeRd ?_)|(refine zAd rfl 149 _ _ rfl rfl rfl (HasC.new wr _ _) rfl Tryz.sizeRd (Rd.one x) ?_;intro w4 hz1 hz2))
  obtain⟨p,hp⟩:∃zz,zz=s++textA (nthL (fun _ x=>[rdA x]) 0 (l.take k)):=⟨_,rfl⟩;have H4:Hid (XL ((149,wr.heap.size,x.C) :: []) g p w w4):=hid (by rw[hp];exact HR.out.put hz1 (zAi hz2) (by decide));have HN:Hid (textA ((fun _ x=>[rdA x]) k x)=lnW (true,(rdA x).2)):=hid (zAx _);have HM:Hid (p.length+(lnW (true,(rdA x).2)).length≤140737488355328):=hid (by rw[←HN.out,hp,List.length_append];have h1:=HL.out;have h2:=HP.out;simp only[List.length_append]at h1⊢;omega);replace hp:=hid hp;clear hz1 hz2 r1 HR HP;generalize wr.heap.size=gx at H4⊢;obtain⟨k1,k2,k3⟩:=HX.out;have k4:x.tag≤16777215:=by omega
  have k5:x.typ≤16777215:=by omega
  have HBX:Hid (∀W,Below w4.heap.size w4 W→Env W):=hid fun W hk=>HE.out _ (H4.out.k.trans (.of_below hk))
  have HY:=hid (YA.one H4.out.a);have HX:Hid (∀W,YA [(149,gx,x.C)] w4 W→W.cell? ⟨gx,0,none⟩=some (.int .i64 x.frm)∧W.cell? ⟨gx,1,none⟩=some (.int .i64 x.metric)):=hid fun W hW=>⟨hW.a.cell 0,hW.a.cell 1⟩
  refine zEc (fun W=>YA [(149,gx,x.C)] w4 W) 6 (by kernel_rfl) (by kernel_rfl) (HY.out.drew) ?_
  repeat
   (first
    |(refine zCc (v:=?_) ?_ ?_ ?_;rotate_left;(· rfl);(· (intro W hW;obtain⟨c0,c1⟩:=HX.out W hW;go_simp<;>rfl)))
    |(refine zAq ?_ ?_ (fun W hW=>hW.call (asource_any x.frm W)) ?_;(· rfl);(· (intro W hW;go_simp<;>rfl)))
    |(refine zAq ?_ ?_ (fun W hW=>hW.call (zBn x.metric k1.1 k1.2 W (HBX.out _ hW.b))) ?_;(· rfl);(· (intro W hW;go_simp<;>rfl))))
   simp only[Act.put,List.setIfInBounds_toArray,List.set_cons_zero,List.set_cons_succ]
  refine zCn ?_;intro wq hS;change wpList _ _ _ (_ :: _ :: []) _ _;have HS:=hid hS;clear hS HX;go_upto_region 4 with fail
  have HF:=hid (WF.new (ws:=[[114,101,100,105,115,116,114,105,98,117,116,101],srcT x.frm,[109,101,116,114,105,99],decI x.metric]) HS.out.a HS.out.b (by decide) (by simp));change Code.wp _ _ _ _ (wq.alloc (.cells (([[114,101,100,105,115,116,114,105,98,117,116,101],srcT x.frm,[109,101,116,114,105,99],decI x.metric]:List (List UInt8)).map strV).toArray 9));clear HY HS;generalize wq.alloc (.cells (([[114,101,100,105,115,116,114,105,98,117,116,101],srcT x.frm,[109,101,116,114,105,99],decI x.metric]:List (List UInt8)).map strV).toArray 9)=w5 at HF⊢;generalize wq.heap.size=bw at HF⊢;have c2:w5.cell? ⟨gx,2,none⟩=some (.int .i64 x.tag):=HF.out.x.cell 2;go_upto_if 22 with fail
  go_cut [6] (fun v wx=>WF 149 gx x.C ([[114,101,100,105,115,116,114,105,98,117,116,101],srcT x.frm,[109,101,116,114,105,99],decI x.metric]++optL (!(x.tag==0)) [[116,97,103],decI x.tag]) v w4 wx)
  case first=>
   cases hc:(!(x.tag==0))with
   |true=>
    have E:(optL (!(x.tag==0)) [[116,97,103],decI x.tag]:List (List UInt8))=[[116,97,103],decI x.tag]:=by rw[hc];rfl
    have hs:(x.tag != 0)=true:=hc;rw[hs];go_wp2_with fail;refine(zBn x.tag k2.1 k4 _ (HBX.out _ HF.out.b)).mono ?_;rintro e w1 ⟨rfl,hb⟩;have HG:=hid (HF.out.below hb);clear hb;go_wp2_with (at_builtin;refine zBb rfl _ _ rfl HG.out [[116,97,103],decI x.tag] rfl rfl (Nat.le_trans (Nat.add_le_add (Nat.le_of_ble_eq_true rfl:_≤20) (Nat.le_of_ble_eq_true rfl:_≤20)) (Nat.le_of_ble_eq_true rfl)) ?_);intro v6 w6 h6 k6;replace h6:=hid h6;clear k6;go_wp2;go_meet;rw[E];first|exact h6.out|simpa only[List.append_assoc,List.cons_append,List.nil_append] using h6.out
   |false=>
    have E:(optL (!(x.tag==0)) [[116,97,103],decI x.tag]:List (List UInt8))=[]:=by rw[hc];rfl
    have hs:(x.tag != 0)=false:=hc;rw[hs];go_wp2;go_meet;rw[E,List.append_nil];exact HF.out
  case rest=>
  clear HF c2;have HF:=hid hcut;clear hcut;have c3:wc.cell? ⟨gx,3,none⟩=some (.string (str x.map)):=HF.out.x.cell 3;go_upto_if 31 with fail
  go_cut [6] (fun v wx=>WF 149 gx x.C ([[114,101,100,105,115,116,114,105,98,117,116,101],srcT x.frm,[109,101,116,114,105,99],decI x.metric]++optL (!(x.tag==0)) [[116,97,103],decI x.tag]++optL (!x.map.isEmpty) [[109,97,112],x.map]) v w4 wx)
  case first=>
   cases hc:(!x.map.isEmpty)with
   |true=>
    have E:(optL (!x.map.isEmpty) [[109,97,112],x.map]:List (List UInt8))=[[109,97,112],x.map]:=by rw[hc];rfl
    have hs:=zCm hc;rw[hs];go_wp2_with (at_builtin;refine zBb rfl _ _ rfl HF.out [[109,97,112],x.map] rfl rfl (Nat.le_trans (Nat.add_le_add (zCh (Nat.le_of_ble_eq_true rfl:_≤20) (zDd (Nat.le_of_ble_eq_true rfl))) (Nat.le_of_ble_eq_true rfl:_≤20)) (Nat.le_of_ble_eq_true rfl)) ?_);intro v6 w6 h6 k6;replace h6:=hid h6;clear k6;go_wp2;go_meet;rw[E];first|exact h6.out|simpa only[List.append_assoc,List.cons_append,List.nil_append] using h6.out
   |false=>
    have E:(optL (!x.map.isEmpty) [[109,97,112],x.map]:List (List UInt8))=[]:=by rw[hc];rfl
    have hs:=zCg hc;rw[hs];go_wp2;go_meet;rw[E,List.append_nil];exact HF.out
  case rest=>
  clear HF c3;have HF:=hid hcut;clear hcut;have c4:wc.cell? ⟨gx,4,none⟩=some (.int .i64 x.typ):=HF.out.x.cell 4;go_upto_if 39 with fail
  go_cut [6] (fun v wx=>WF 149 gx x.C ([[114,101,100,105,115,116,114,105,98,117,116,101],srcT x.frm,[109,101,116,114,105,99],decI x.metric]++optL (!(x.tag==0)) [[116,97,103],decI x.tag]++optL (!x.map.isEmpty) [[109,97,112],x.map]++optL (!(x.typ==0)) [[116,121,112,101],decI x.typ]) v w4 wx)
  case first=>
   cases hc:(!(x.typ==0))with
   |true=>
    have E:(optL (!(x.typ==0)) [[116,121,112,101],decI x.typ]:List (List UInt8))=[[116,121,112,101],decI x.typ]:=by rw[hc];rfl
    have hs:(x.typ != 0)=true:=hc;rw[hs];go_wp2_with fail;refine(zBn x.typ k3.1 k5 _ (HBX.out _ HF.out.b)).mono ?_;rintro e w1 ⟨rfl,hb⟩;have HG:=hid (HF.out.below hb);clear hb;go_wp2_with (at_builtin;refine zBb rfl _ _ rfl HG.out [[116,121,112,101],decI x.typ] rfl rfl (Nat.le_trans (Nat.add_le_add (zCh (zCh (Nat.le_of_ble_eq_true rfl:_≤20) (zDd (Nat.le_of_ble_eq_true rfl))) (zDd (Nat.le_of_ble_eq_true rfl))) (Nat.le_of_ble_eq_true rfl:_≤20)) (Nat.le_of_ble_eq_true rfl)) ?_);intro v6 w6 h6 k6;replace h6:=hid h6;clear k6;go_wp2;go_meet;rw[E];first|exact h6.out|simpa only[List.append_assoc,List.cons_append,List.nil_append] using h6.out
   |false=>
    have E:(optL (!(x.typ==0)) [[116,121,112,101],decI x.typ]:List (List UInt8))=[]:=by rw[hc];rfl
    have hs:(x.typ != 0)=false:=hc;rw[hs];go_wp2;go_meet;rw[E,List.append_nil];exact HF.out
  case rest=>
  clear HF c4;have HF:=hid hcut;clear hcut;have HW:Hid ((rdA x).2=[[114,101,100,105,115,116,114,105,98,117,116,101],srcT x.frm,[109,101,116,114,105,99],decI x.metric]++optL (!(x.tag==0)) [[116,97,103],decI x.tag]++optL (!x.map.isEmpty) [[109,97,112],x.map]++optL (!(x.typ==0)) [[116,121,112,101],decI x.typ]):=hid (by rw[rdA];simp only[List.append_assoc]);go_wp2_with fail;refine(zHv (H4.out.below HF.out.b) _ true ((rdA x).2) (by rw[HW.out];exact HF.out.sls (by have:=H4.out.t.lt;omega) (by simp)) (by rw[HW.out];exact Nat.le_trans (zCh (zCh (zCh (Nat.le_of_ble_eq_true rfl:_≤20) (zDd (Nat.le_of_ble_eq_true rfl))) (zDd (Nat.le_of_ble_eq_true rfl))) (zDd (Nat.le_of_ble_eq_true rfl))) (Nat.le_of_ble_eq_true rfl)) HM.out).mono ?_;rintro e w7 ⟨rfl,h2⟩;have H7:=hid h2;clear h2;go_wp2;go_roundg (l.length - (k+1));case measure=>omega
  case rel=>
   refine⟨k+1,by omega,by go_num,hid ?_⟩;have hfin:=H7.out.pop;rw[hp.out]at hfin;rw[ET.out,zAk,HN.out];simpa only[List.append_assoc] using hfin
theorem als_any(g:Nat)(s:List UInt8)(r:Rt)(w:World)(B:Nat)(h:TA g s w)(he:EnvA g w)(hB:B≤g)(hv0:SlV w B 3 AR.C r.rangesV r.ranges)(hv1:SlV w B 5 Rd.C r.lsRedV r.lsRed)(hx:r.lsOn=true→(1≤r.lsAdmin∧r.lsAdmin≤255)∧(∀x∈r.ranges,(0≤x.area∧x.area≤255)∧zAv x.pa x.pl=true∧x.fit)∧∀x∈r.lsRed,okRd x)(hl:(s++textA (lsA r)).length≤140737488355328) :
  Calls Tryz.prog 14 #[.pointer (some ⟨g,0,none⟩),.agg #[.bool r.lsOn,.int .i64 r.lsAdmin,r.rangesV,r.lsRedV]] w (AP g s (textA (lsA r)) w):=by
 have HV0:=hid hv0;have hn0:r.ranges.length≤9223372036854775807:=by have:=hv0.len;unfold maxLen at this;omega
 obtain⟨A0,c0,hve0,-,-⟩:=hv0;have HV1:=hid hv1;have hn1:r.lsRed.length≤9223372036854775807:=by have:=hv1.len;unfold maxLen at this;omega
 obtain⟨A1,c1,hve1,-,-⟩:=hv1;rw[hve0,hve1];rw[hve0]at HV0;clear hve0;rw[hve1]at HV1;clear hve1;have hg:=hid h.lt;have HEA:Hid (∀W,FK g w W→EnvA g W):=hid fun W hk=>he.keep (hk.below (Nat.le_of_lt hg.out))
 have HE:Hid (∀W,FK g w W→Env W):=hid fun W hk=>(HEA.out W hk).1
 replace hB:=hid hB;cases ho:r.lsOn with
 |false=>
  have H:=hid ((XL.start h).new (T:=31) (cs:=#[.bool false,.int .i64 r.lsAdmin,.slice A0 r.ranges.length c0,.slice A1 r.lsRed.length c1]) (by decide));clear h he hx;go_enter Tryz.func14,Tryz.ntmps14;go_wp2_with fail;go_end0;exact⟨rfl,by rw[show textA (lsA r)=[]from zAn ho,List.append_nil];exact H.out.t,H.out.k⟩
 |true=>
 have HX:=hid (hx ho);have EL:Hid (textA (lsA r)=lnW (false,[[114,111,117,116,101,114],[108,115]])++(lnW (true,[[100,105,115,116,97,110,99,101],decI r.lsAdmin])++(textA (nthL (fun _ a=>[(true,[[114,97,110,103,101],decI a.area,pfxF a.pa a.pl])]) 0 r.ranges)++textA (nthL (fun _ x=>[rdA x]) 0 r.lsRed)))):=hid (by rw[show lsA r=optL r.lsOn _ from rfl,ho];simp only[optL,if_true,zDn,zAk,zBy _ _ 0]);rw[EL.out]at hl;have HL:=hid hl;have H:=hid ((XL.start h).new (T:=31) (cs:=#[.bool true,.int .i64 r.lsAdmin,.slice A0 r.ranges.length c0,.slice A1 r.lsRed.length c1]) (by decide));clear hl h he hx ho;go_enter Tryz.func14,Tryz.ntmps14;go_upto_region 1 with fail
 generalize w.alloc (.cells #[.bool true,.int .i64 r.lsAdmin,.slice A0 r.ranges.length c0,.slice A1 r.lsRed.length c1] 31)=wc at H⊢;generalize w.heap.size=gy at H⊢;obtain⟨cl,hcl⟩:∃cl,cl=(#[.bool true,.int .i64 r.lsAdmin,.slice A0 r.ranges.length c0,.slice A1 r.lsRed.length c1]:Array Value):=⟨_,rfl⟩;rw[←hcl]at H;have C0:Hid (cl[0]? = some (.bool true)):=hid (by rw[hcl];rfl);have C1:Hid (cl[1]? = some (.int .i64 r.lsAdmin)):=hid (by rw[hcl];rfl);have C2:Hid (cl[2]? = some (.slice A0 r.ranges.length c0)):=hid (by rw[hcl];rfl);have C3:Hid (cl[3]? = some (.slice A1 r.lsRed.length c1)):=hid (by rw[hcl];rfl);clear hcl;obtain⟨k1,hr,hd⟩:=HX.out;replace hr:=hid hr;replace hd:=hid hd;clear HX;have c0:wc.cell? ⟨gy,0,none⟩=some (.bool true):=(H.out.a.cell 0).trans C0.out;go_wp2_with fail;refine(zBk H.out false [[114,111,117,116,101,114],[108,115]] (by simp) (by have:=HL.out;simp only[List.length_append]at this⊢;omega)).mono ?_;rintro e w5 ⟨rfl,h2⟩;have H5:=hid h2;clear h2 H;clear c0;have c1:w5.cell? ⟨gy,1,none⟩=some (.int .i64 r.lsAdmin):=(H5.out.a.cell 1).trans C1.out;go_wp2_with fail;refine(zBn r.lsAdmin (by omega) (by omega) _ (HE.out _ H5.out.k)).mono ?_;rintro e w1 ⟨rfl,hb⟩;have H1:=hid (H5.out.below hb);clear hb;go_wp2_with fail;refine(zBk H1.out true [[100,105,115,116,97,110,99,101],decI r.lsAdmin] (by simp) (by have:=HL.out;simp only[List.length_append]at this⊢;omega)).mono ?_;rintro e w6 ⟨rfl,h2⟩;have H6:=hid h2;clear h2 H5 c1 H1;have cc:w6.cell? ⟨gy,2,none⟩=some (.slice A0 r.ranges.length c0):=(H6.out.a.cell 2).trans C2.out;go_upto_block 0 with fail
 go_cut [] (fun wx=>XL [(31,gy,cl)] g (s++lnW (false,[[114,111,117,116,101,114],[108,115]])++lnW (true,[[100,105,115,116,97,110,99,101],decI r.lsAdmin])++textA (nthL (fun _ a=>[(true,[[114,97,110,103,101],decI a.area,pfxF a.pa a.pl])]) 0 r.ranges)) w wx)
 case first=>
  go_wp2;go_loopg [21] r.ranges.length (fun gh ix wr=>∃k:Nat,k+gh=r.ranges.length∧ix=.int .i64 k∧Hid (XL [(31,gy,cl)] g (s++lnW (false,[[114,111,117,116,101,114],[108,115]])++lnW (true,[[100,105,115,116,97,110,99,101],decI r.lsAdmin])++textA (nthL (fun _ a=>[(true,[[114,97,110,103,101],decI a.area,pfxF a.pa a.pl])]) 0 (r.ranges.take k))) w wr));case atStart=>exact⟨0,by omega,rfl,hid (by rw[List.take_zero,nthL,zAz,List.append_nil];exact H6.out)⟩
  case round=>
   obtain⟨k,hk,rfl,HR⟩:=hrel;by_cases hlt:k<r.ranges.length;case neg=>
    have hkz:¬((k:Int)<(r.ranges.length:Int)):=by omega
    rw[List.take_of_length_le (by omega)]at HR;go_wp2;go_meet;exact HR.out
   have hkz:(k:Int)<(r.ranges.length:Int):=by omega
   obtain⟨gr,o,c', e',-,hgr,R0⟩:=SlV.elem (n:=3) (by decide) (fun _=>rfl) HV0.out hlt;injection e' with e1 e2 e3
   subst e1 e3;have r1:=hid (zAf R0 ((HR.out.k.below (Nat.le_of_lt hg.out)).mono hB.out) hgr);clear R0 e2;have HX:=hid (hr.out _ (List.getElem_mem hlt));have ET:=hid (zAy (fun _ a=>[(true,[[114,97,110,103,101],decI a.area,pfxF a.pa a.pl])]) r.ranges hlt);have HP:=hid (zBa (fun _ a=>[(true,[[114,97,110,103,101],decI a.area,pfxF a.pa a.pl])]) r.ranges hlt);generalize r.ranges[k]=x at HX ET HP r1;go_upto_region 7 with(first|(refine zAa rfl 112 _ rfl rfl r1.out Tryz.rowAR Tryz.sizeAR ?_)|(refine zAd rfl 112 _ _ rfl rfl rfl (HasC.new wr _ _) rfl Tryz.sizeAR (AR.one x) ?_;intro w4 hz1 hz2))
   obtain⟨p,hp⟩:∃zz,zz=s++lnW (false,[[114,111,117,116,101,114],[108,115]])++lnW (true,[[100,105,115,116,97,110,99,101],decI r.lsAdmin])++textA (nthL (fun _ a=>[(true,[[114,97,110,103,101],decI a.area,pfxF a.pa a.pl])]) 0 (r.ranges.take k)):=⟨_,rfl⟩;have H4:Hid (XL ((112,wr.heap.size,x.C) :: [(31,gy,cl)]) g p w w4):=hid (by rw[hp];exact HR.out.put hz1 (zAi hz2) (by decide));have HN:Hid (textA ((fun _ a=>[(true,[[114,97,110,103,101],decI a.area,pfxF a.pa a.pl])]) k x)=lnW (true,[[114,97,110,103,101],decI x.area,pfxF x.pa x.pl])):=hid (zAx _);have HM:Hid (p.length+(lnW (true,[[114,97,110,103,101],decI x.area,pfxF x.pa x.pl])).length≤140737488355328):=hid (by rw[←HN.out,hp,List.length_append];have h1:=HL.out;have h2:=HP.out;simp only[List.length_append]at h1⊢;omega);replace hp:=hid hp;clear hz1 hz2 r1 HR HP;generalize wr.heap.size=gx at H4⊢;obtain⟨ha,hv,hf⟩:=HX.out;have ha2:x.area≤16777215:=by omega
   go_upto_region 7 with fail
   have HX:Hid (∀W,XL ((112,gx,x.C) :: [(31,gy,cl)]) g (p) w W→W.cell? ⟨gx,0,none⟩=some (.int .i64 x.area)∧W.cell? ⟨gx,1,none⟩=some (.int .u32 (x.pa:Int))∧W.cell? ⟨gx,2,none⟩=some (.int .i64 x.pl)):=hid fun W hW=>⟨hW.a.cell 0,hW.a.cell 1,hW.a.cell 2⟩
   refine zBt (fun W=>XL ((112,gx,x.C) :: [(31,gy,cl)]) g (p) w W) [1,2,3,4,5,6] [7,8] (by kernel_rfl) rfl (by kernel_rfl) (H4.out.drew) (fun _ _ _ h=>h) rfl (fun W=>by go_simp<;>rfl) ?_;simp only[opsAt,List.getElem?_toArray,List.getElem?_cons_zero,List.getElem?_cons_succ,Act.put,List.setIfInBounds_toArray]
   repeat
    (first
     |(refine zCc (v:=?_) ?_ ?_ ?_;rotate_left;(· rfl);(· (intro W hW;obtain⟨c0,c1,c2⟩:=HX.out W hW;go_simp<;>rfl)))
     |(refine zAq ?_ ?_ (fun W hW=>hW.call (zBn x.area ha.1 ha2 W (HE.out _ hW.k))) ?_;(· rfl);(· (intro W hW;go_simp<;>rfl)))
     |(refine zAq ?_ ?_ (fun W hW=>hW.call (zBr x.pa x.pl W hf (HE.out _ hW.k))) ?_;(· rfl);(· (intro W hW;go_simp<;>rfl))))
    simp only[Act.put]
   refine zCn ?_;intro wq hS;change wpList _ _ _ (_ :: _ :: []) _ _;have HS:=hid hS;clear hS HX;go_wp2_with fail;refine(zBk HS.out true [[114,97,110,103,101],decI x.area,pfxF x.pa x.pl] (by simp) HM.out).mono ?_;rintro e w6 ⟨rfl,h2⟩;have H6:=hid h2;clear h2;go_wp2;go_roundg (r.ranges.length - (k+1));case measure=>omega
   case rel=>
    refine⟨k+1,by omega,by go_num,hid ?_⟩;have hfin:=H6.out.pop;rw[hp.out]at hfin;rw[ET.out,zAk,HN.out];simpa only[List.append_assoc] using hfin
 case rest=>
 clear H6 cc;have H:=hid hcut;clear hcut;have c3:wc.cell? ⟨gy,3,none⟩=some (.slice A1 r.lsRed.length c1):=(H.out.a.cell 3).trans C3.out;go_wp2_with fail;refine(ared_any g _ r.lsRed _ _ B H.out.t (HEA.out _ H.out.k) hB.out (HV1.out.below ((H.out.k.below (Nat.le_of_lt hg.out)).mono hB.out)) hd.out (by rw[zBy rdA _ 0];have:=HL.out;simp only[List.length_append]at this⊢;omega)).mono ?_;rintro e w9 ⟨rfl,h2,k2⟩;have R:=hid (H.out.go h2 k2);clear h2 k2;go_wp2_with fail;go_end0;refine⟨rfl,?_,R.out.k⟩;have hfin:=R.out.t;rw[zBy rdA _ 0]at hfin;rw[EL.out];simpa only[List.append_assoc] using hfin
theorem adv_any(g:Nat)(s:List UInt8)(r:Rt)(w:World)(B:Nat)(h:TA g s w)(he:EnvA g w)(hB:B≤g)(hv0:SlV w B 5 Rd.C r.dvRedV r.dvRed)(hx:r.dvOn=true→(1≤r.dvAdmin∧r.dvAdmin≤255)∧∀x∈r.dvRed,okRd x)(hl:(s++textA (dvA r)).length≤140737488355328) :
  Calls Tryz.prog 15 #[.pointer (some ⟨g,0,none⟩),.agg #[.bool r.dvOn,.int .i64 r.dvAdmin,strV r.dvIn,strV r.dvOut,r.dvRedV]] w (AP g s (textA (dvA r)) w):=by
 have HV0:=hid hv0;have hn0:r.dvRed.length≤9223372036854775807:=by have:=hv0.len;unfold maxLen at this;omega
 obtain⟨A0,c0,hve0,-,-⟩:=hv0;rw[hve0];rw[hve0]at HV0;clear hve0;have hg:=hid h.lt;have HEA:Hid (∀W,FK g w W→EnvA g W):=hid fun W hk=>he.keep (hk.below (Nat.le_of_lt hg.out))
 have HE:Hid (∀W,FK g w W→Env W):=hid fun W hk=>(HEA.out W hk).1
 replace hB:=hid hB;cases ho:r.dvOn with
 |false=>
  have H:=hid ((XL.start h).new (T:=33) (cs:=#[.bool false,.int .i64 r.dvAdmin,strV r.dvIn,strV r.dvOut,.slice A0 r.dvRed.length c0]) (by decide));clear h he hx;go_enter Tryz.func15,Tryz.ntmps15;go_wp2_with fail;go_end0;exact⟨rfl,by rw[show textA (dvA r)=[]from zAn ho,List.append_nil];exact H.out.t,H.out.k⟩
 |true=>
 have HX:=hid (hx ho);have EL:Hid (textA (dvA r)=lnW (false,[[114,111,117,116,101,114],[100,118]])++(lnW (true,[[100,105,115,116,97,110,99,101],decI r.dvAdmin])++(textA (optL (!r.dvIn.isEmpty) [(true,[[102,105,108,116,101,114],[105,110],r.dvIn])])++(textA (optL (!r.dvOut.isEmpty) [(true,[[102,105,108,116,101,114],[111,117,116],r.dvOut])])++textA (nthL (fun _ x=>[rdA x]) 0 r.dvRed))))):=hid (by rw[show dvA r=optL r.dvOn _ from rfl,ho];simp only[optL,if_true,zDn,zAk,zBy _ _ 0]);rw[EL.out]at hl;have HL:=hid hl;have H:=hid ((XL.start h).new (T:=33) (cs:=#[.bool true,.int .i64 r.dvAdmin,strV r.dvIn,strV r.dvOut,.slice A0 r.dvRed.length c0]) (by decide));clear hl h he hx ho;go_enter Tryz.func15,Tryz.ntmps15;go_upto_region 1 with fail
 generalize w.alloc (.cells #[.bool true,.int .i64 r.dvAdmin,strV r.dvIn,strV r.dvOut,.slice A0 r.dvRed.length c0] 33)=wc at H⊢;generalize w.heap.size=gy at H⊢;obtain⟨cl,hcl⟩:∃cl,cl=(#[.bool true,.int .i64 r.dvAdmin,strV r.dvIn,strV r.dvOut,.slice A0 r.dvRed.length c0]:Array Value):=⟨_,rfl⟩;rw[←hcl]at H;have C0:Hid (cl[0]? = some (.bool true)):=hid (by rw[hcl];rfl);have C1:Hid (cl[1]? = some (.int .i64 r.dvAdmin)):=hid (by rw[hcl];rfl);have C2:Hid (cl[2]? = some (strV r.dvIn)):=hid (by rw[hcl];rfl);have C3:Hid (cl[3]? = some (strV r.dvOut)):=hid (by rw[hcl];rfl);have C4:Hid (cl[4]? = some (.slice A0 r.dvRed.length c0)):=hid (by rw[hcl];rfl);clear hcl;obtain⟨k1,hd⟩:=HX.out;replace hd:=hid hd;clear HX;have c0:wc.cell? ⟨gy,0,none⟩=some (.bool true):=(H.out.a.cell 0).trans C0.out;go_wp2_with fail;refine(zBk H.out false [[114,111,117,116,101,114],[100,118]] (by simp) (by have:=HL.out;simp only[List.length_append]at this⊢;omega)).mono ?_;rintro e w5 ⟨rfl,h2⟩;have H5:=hid h2;clear h2 H;clear c0;have c1:w5.cell? ⟨gy,1,none⟩=some (.int .i64 r.dvAdmin):=(H5.out.a.cell 1).trans C1.out;go_wp2_with fail;refine(zBn r.dvAdmin (by omega) (by omega) _ (HE.out _ H5.out.k)).mono ?_;rintro e w1 ⟨rfl,hb⟩;have H1:=hid (H5.out.below hb);clear hb;go_wp2_with fail;refine(zBk H1.out true [[100,105,115,116,97,110,99,101],decI r.dvAdmin] (by simp) (by have:=HL.out;simp only[List.length_append]at this⊢;omega)).mono ?_;rintro e w6 ⟨rfl,h2⟩;have H6:=hid h2;clear h2 H5 c1 H1;have c2:w6.cell? ⟨gy,2,none⟩=some (.string (str r.dvIn)):=(H6.out.a.cell 2).trans C2.out;go_upto_if 18 with fail
 go_cut [] (fun wx=>XL [(33,gy,cl)] g (s++lnW (false,[[114,111,117,116,101,114],[100,118]])++lnW (true,[[100,105,115,116,97,110,99,101],decI r.dvAdmin])++textA (optL (!r.dvIn.isEmpty) [(true,[[102,105,108,116,101,114],[105,110],r.dvIn])])) w wx)
 case first=>
  cases hc:(!r.dvIn.isEmpty)with
  |true=>
   have E:textA (optL (!r.dvIn.isEmpty) [(true,[[102,105,108,116,101,114],[105,110],r.dvIn])])=lnW (true,[[102,105,108,116,101,114],[105,110],r.dvIn]):=zAw hc;have hs:=zCm hc;rw[hs];go_wp2_with fail;refine(zBk H6.out true [[102,105,108,116,101,114],[105,110],r.dvIn] (by simp) (by rw[←E];have:=HL.out;simp only[List.length_append]at this⊢;omega)).mono ?_;rintro e w2 ⟨rfl,h2⟩;have H2:=hid h2;clear h2;go_wp2;go_meet;rw[E];exact H2.out
  |false=>
   have hs:=zCg hc;rw[hs];go_wp2;go_meet;rw[show textA (optL (!r.dvIn.isEmpty) [(true,[[102,105,108,116,101,114],[105,110],r.dvIn])])=[]from zAn hc,List.append_nil];exact H6.out
 case rest=>
 clear H6 c2;have H:=hid hcut;clear hcut;have c3:wc.cell? ⟨gy,3,none⟩=some (.string (str r.dvOut)):=(H.out.a.cell 3).trans C3.out;go_upto_if 26 with fail
 go_cut [] (fun wx=>XL [(33,gy,cl)] g (s++lnW (false,[[114,111,117,116,101,114],[100,118]])++lnW (true,[[100,105,115,116,97,110,99,101],decI r.dvAdmin])++textA (optL (!r.dvIn.isEmpty) [(true,[[102,105,108,116,101,114],[105,110],r.dvIn])])++textA (optL (!r.dvOut.isEmpty) [(true,[[102,105,108,116,101,114],[111,117,116],r.dvOut])])) w wx)
 case first=>
  cases hc:(!r.dvOut.isEmpty)with
  |true=>
   have E:textA (optL (!r.dvOut.isEmpty) [(true,[[102,105,108,116,101,114],[111,117,116],r.dvOut])])=lnW (true,[[102,105,108,116,101,114],[111,117,116],r.dvOut]):=zAw hc;have hs:=zCm hc;rw[hs];go_wp2_with fail;refine(zBk H.out true [[102,105,108,116,101,114],[111,117,116],r.dvOut] (by simp) (by rw[←E];have:=HL.out;simp only[List.length_append]at this⊢;omega)).mono ?_;rintro e w2 ⟨rfl,h2⟩;have H2:=hid h2;clear h2;go_wp2;go_meet;rw[E];exact H2.out
  |false=>
   have hs:=zCg hc;rw[hs];go_wp2;go_meet;rw[show textA (optL (!r.dvOut.isEmpty) [(true,[[102,105,108,116,101,114],[111,117,116],r.dvOut])])=[]from zAn hc,List.append_nil];exact H.out
 case rest=>
 clear H c3;have H:=hid hcut;clear hcut;have c4:wc.cell? ⟨gy,4,none⟩=some (.slice A0 r.dvRed.length c0):=(H.out.a.cell 4).trans C4.out;go_wp2_with fail;refine(ared_any g _ r.dvRed _ _ B H.out.t (HEA.out _ H.out.k) hB.out (HV0.out.below ((H.out.k.below (Nat.le_of_lt hg.out)).mono hB.out)) hd.out (by rw[zBy rdA _ 0];have:=HL.out;simp only[List.length_append]at this⊢;omega)).mono ?_;rintro e w9 ⟨rfl,h2,k2⟩;have R:=hid (H.out.go h2 k2);clear h2 k2;go_wp2_with fail;go_end0;refine⟨rfl,?_,R.out.k⟩;have hfin:=R.out.t;rw[zBy rdA _ 0]at hfin;rw[EL.out];simpa only[List.append_assoc] using hfin
end Go.Proofs.YthcnojmldldpeaaGreatDoor
